import Derived.Test.YtaijclimdfchfaaE15
/- The stable sort. Conditions: none. -/
namespace Go.Proofs.Ytaijclimdfchfaa
open Go.Proofs Go.RowKit Go.Shelf

theorem a_SymN : ∀ (n : Nat) (w : World) (v : Value) (l : List EdgeT) (a m b : Nat), b - a ≤ n → l.length ≤ 1099511627776 → a < m → m < b → b ≤ l.length → (Hp.own v 90 7 l.length (l.flatMap eE)).ok w → (∀ e ∈ l, FrOk e) → SrtOn l a m → SrtOn l m b → Calls Try.prog 95 #[v, .int .i64 ((a : Nat) : Int), .int .i64 ((m : Nat) : Int), .int .i64 ((b : Nat) : Int), .func (.func 63) #[] #[]] w fun e w' => (∃ y, e = .returned y) ∧ ∃ l', SrtQ l a b l' ∧ Chg (fun b => v.ownBlock = some b) w w' ∧ (Hp.own v 90 7 l.length (l'.flatMap eE)).ok w'
  | 0, _, _, _, _, _, _, h, _, h1, h2, _, _, _, _, _ => by omega
  | n + 1, w, v, l, a, m, b, h, hl, h1, h2, hb, hok, hfr, hs1, hs2 => a_SymStep w v l a m b (fun w v l a' m' b' hlt => a_SymN n w v l a' m' b' (by omega)) hl h1 h2 hb hok hfr hs1 hs2
theorem a_Sym (w : World) (v : Value) (l : List EdgeT) (a m b : Nat) (hl : l.length ≤ 1099511627776) (ham : a < m) (hmb : m < b) (hb : b ≤ l.length) (hok : (Hp.own v 90 7 l.length (l.flatMap eE)).ok w) (hfr : ∀ e ∈ l, FrOk e) (hs1 : SrtOn l a m) (hs2 : SrtOn l m b) : Calls Try.prog 95 #[v, .int .i64 ((a : Nat) : Int), .int .i64 ((m : Nat) : Int), .int .i64 ((b : Nat) : Int), .func (.func 63) #[] #[]] w fun e w' => (∃ y, e = .returned y) ∧ ∃ l', SrtQ l a b l' ∧ Chg (fun b => v.ownBlock = some b) w w' ∧ (Hp.own v 90 7 l.length (l'.flatMap eE)).ok w' := a_SymN _ w v l a m b (Nat.le_refl _) hl ham hmb hb hok hfr hs1 hs2
end Go.Proofs.Ytaijclimdfchfaa
