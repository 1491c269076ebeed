import Derived.Test.YtegfonghlpbgdaaKI
/- Calls that turn a row while others are read. Conditions: none. -/
namespace Go.Proofs.Ytegfonghlpbgdaa
open Go.Proofs Go.RowKit
variable {C : Cx} {K : Exit → St → Prop} {ops : Array Oper} {rest : List Oper} {l l' : List (Nat × Value)} {m m' : List (Nat × Hp)} {g : World → Prop} {gb : Nat → Prop} {dd : List Nat}
  {i : Nat} {d : Option Nat} {op : Op} {ty : TypeId} {pos : String} {aft : Array Edge} {gd : Option (Nat × Bool)} {ks : List Nat} {y : Value} {T T' E : TypeId} {s : St} {x z : Operand} {v u : Value} {n esz j : Nat} {xs : List Value}
  {a : Act} {w w' : World} {f : Nat} {cal : Operand} {as_ : Array Operand} {ts : Array TypeId} {vs : List Value}
/-- as l_gmut; the call's row has a block of its own -/
theorem l_gmutD (key : Nat) (keep : List Nat) {n0 : Nat} {xs0 : List Value} {E0 e0 : Nat} (hw : wantS C (mk l m g gb dd) ops ⟨some i, .call { callee := .value cal, args := as_, argTypes := ts }, ty, pos, aft, gd⟩ = some true) {caps : Array Value} (hcal : ev C (mk l m g gb dd) cal = some (.func (.func f) #[] caps)) (hent : ∀ args w, (callFunc f args).run C.P w = .ok (.enter f args) w) (hargs : evs C (mk l m g gb dd) as_.toList = some vs)
    (hk : lk m key = some (.own v E0 e0 n0 xs0)) (hs : sel keep m = some m') (hkeep : keep.contains key = false)
    (hc : ∀ w, g w → Held (mk l m g gb dd) ks w → (Hp.own v E0 e0 n0 xs0).ok w → (∀ k h b, lk m k = some h → k ≠ key → h.blk = some b → ¬ v.ownBlock = some b) → Calls C.P f (vs.toArray ++ caps) w fun e w' => ∃ y, e = .returned y ∧ Chg (fun b => v.ownBlock = some b) w w' ∧ (Hp.own y E esz n xs).ok w' ∧ ∀ b, y.ownBlock = some b → v.ownBlock = some b ∨ w.heap.size ≤ b)
    (next : ∀ y, RowV y n → VL C ops rest K (mk ((i, y) :: l) ((i, .own y E esz n xs) :: m') g gb dd)) : VL C ops (⟨some i, .call { callee := .value cal, args := as_, argTypes := ts }, ty, pos, aft, gd⟩ :: rest) K (mk l m g gb dd) :=
  vl_step hw fun a w hr => call_step (R := fun y w' => Chg (fun b => v.ownBlock = some b) w w' ∧ (Hp.own y E esz n xs).ok w' ∧ ∀ b, y.ownBlock = some b → v.ownBlock = some b ∨ w.heap.size ≤ b) hr hcal hent hargs ((hc w hr.gh (held_of hr ks) (hr.mo key _ hk).1 (fun k h b h1 h2 h3 h4 => h2 (hr.inj k key h _ b h1 hk h3 h4))).mono fun e w' ⟨y, h1, h2, h3, h4⟩ => ⟨y, h1, h2, h3, h4⟩) fun y w' ⟨h1, h2, h3⟩ =>
    ⟨mk ((i, y) :: l) ((i, .own y E esz n xs) :: m') g gb dd, by rw [← mk_put]; exact rep_put (rep_ownL hr hk h1 h2 h3 i keep hs hkeep) (some i) y, next y (rowV_own h2)⟩
/-- a row by another name -/
theorem v_ren (key key' : Nat) (keep : List Nat) {c : Code} (hk : lk m key = some (.own v E esz n xs)) (hs : sel keep m = some m') (hkeep : keep.contains key = false) (next : V C c K (mk l ((key', .own v E esz n xs) :: m') g gb dd)) : V C c K (mk l m g gb dd) :=
  fun a w hr => next a w (rep_ownL hr hk (Chg.refl _ w) (hr.mo key _ hk).1 (fun b hb => .inl hb) key' keep hs hkeep)
theorem o_moveE {k : IntKind} {q q' : Int} (h : ev C s x = some (.int k q)) (e : q = q') : OpV C s ⟨d, .move x, ty, pos, aft, gd⟩ [] (.int k q') := by subst e; exact o_move h
theorem own_congr {n' : Nat} {xs' : List Value} (h1 : n = n') (h2 : xs = xs') : Hp.own v E esz n xs = Hp.own v E esz n' xs' := by subst h1 h2; rfl
theorem yieldAt_mono {F : Fence} {n : Nat} {P : Program} {lp : Nat} {vs : Array Value} {w : World} {R R' : Ending → World → Prop} (h : YieldAt F n P lp vs w R) (hm : ∀ e w', R e w' → R' e w') : YieldAt F n P lp vs w R' := by
  obtain ⟨fn, tmps, assign, body, h1, h2⟩ := h
  exact ⟨fn, tmps, assign, body, h1, h2.mono fun e w' => hm e w'⟩
/-- a function that makes a box, and hands something on that points to it -/
theorem calls_box {P : Program} {f N : Nat} {fn : Func} {c : Code} {rs : List ResultVar} {args : List Value} {w : World} {X : Nat → Value} {T : TypeId} {cs : List Value} (hf : P.funcs[f]? = some fn) (hb : fn.body = some c) (hn : fn.ntmps = N) (hrs : fn.results = rs.toArray) (hsz : Nat.ble args.length N = true)
    (h : V ⟨P, w, N, 3, none, fun _ => False, True⟩ c (retK ⟨P, w, N, 3, none, fun _ => False, True⟩ rs (fun v s => ∃ key b, v = X b ∧ s.m key = some (.box b T cs))) (mk (argsL 0 args) [] (fun w' => Chg (fun _ => False) w w') (fun b => b < w.heap.size ∧ ¬ False) [])) :
    Calls P f args.toArray w fun e w' => ∃ b, e = .returned (X b) ∧ Below w.heap.size w w' ∧ Blk w' b cs.toArray T ∧ w.heap.size ≤ b := by
  refine (enter (fun _ => False) [] (fun v s => ∃ key b, v = X b ∧ s.m key = some (.box b T cs)) hf hb hn hrs hsz (fun k h hk => (by cases hk)) (fun k k' h h' b hk => (by cases hk)) h).mono ?_
  rintro e w' ⟨v, s', rfl, ⟨key, b, rfl, hk⟩, ho⟩
  exact ⟨b, rfl, ho.fr.below, (ho.mo key _ hk).1, ((ho.mo key _ hk).2 b rfl).elim id False.elim⟩
theorem rowV_cells (h : RowV v n) : v.cells.toList = [v] := by obtain ⟨a, c, rfl⟩ := h.sl; rfl
theorem rowV_one (h : RowV v n) : v.oneCell' = true := by obtain ⟨a, c, rfl⟩ := h.sl; rfl
theorem el_one {xs : List Value} {j : Nat} (h : j < xs.length) : El xs 1 j [xs.getD j undef] := ⟨rfl, fun f hf => by
  obtain rfl : f = 0 := by omega
  rw [Nat.mul_one, Nat.add_zero, List.getD_eq_getElem?_getD, List.getElem?_eq_getElem h]; rfl⟩
end Go.Proofs.Ytegfonghlpbgdaa
