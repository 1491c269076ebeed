import Derived.Test.YtaijclimdfchfaaE13
/- Stretches of edges that change places. Conditions: none. -/
namespace Go.Proofs.Ytaijclimdfchfaa
open Go.Proofs Go.RowKit Go.Shelf

/-! ### stretches that change places -/
/-- n elements from a on and n from b on have changed places -/
structure SwR (l l' : List EdgeT) (a b n : Nat) : Prop where
  len : l'.length = l.length
  get : ∀ q, l'.getD q dE = if a ≤ q ∧ q < a + n then l.getD (q + b - a) dE else if b ≤ q ∧ q < b + n then l.getD (q + a - b) dE else l.getD q dE
theorem SwR.start (l : List EdgeT) (a b : Nat) : SwR l l a b 0 := ⟨rfl, fun q => by rw [if_neg (by omega), if_neg (by omega)]⟩
theorem SwR.step {l l' : List EdgeT} {a b n : Nat} (h : SwR l l' a b n) (h1 : a + n < b) (h2 : b + n < l.length) : SwR l (swapE l' (a + n) (b + n)) a b (n + 1) := by
  have hl := h.len
  refine ⟨(swapE_len _ _ _).trans hl, fun q => ?_⟩
  rw [swapE_getD (by omega) (by omega)]
  by_cases h3 : q = b + n
  · rw [if_pos h3, h.get, if_neg (by omega), if_neg (by omega), if_neg (by omega), if_pos (by omega)]
    congr 1; omega
  · rw [if_neg h3]
    by_cases h4 : q = a + n
    · rw [if_pos h4, h.get, if_neg (by omega), if_neg (by omega), if_pos (by omega)]
      congr 1; omega
    · rw [if_neg h4, h.get]
      by_cases h5 : a ≤ q ∧ q < a + n
      · rw [if_pos h5, if_pos (by omega)]
      · rw [if_neg h5]
        by_cases h6 : b ≤ q ∧ q < b + n
        · rw [if_pos h6, if_neg (by omega), if_pos (by omega)]
        · rw [if_neg h6, if_neg (by omega), if_neg (by omega)]
/-- the stretch from m to b ahead of that from a to m -/
def RotF (l : List EdgeT) (a m b q : Nat) : EdgeT := if a ≤ q ∧ q < a + (b - m) then l.getD (q + (m - a)) dE else if a + (b - m) ≤ q ∧ q < b then l.getD (q - (b - m)) dE else l.getD q dE
theorem RotF.big {l l' : List EdgeT} {m i j : Nat} (h : SwR l l' (m - i) m j) (hi : j < i) (hm : i ≤ m) (q : Nat) : RotF l' (m - (i - j)) m (m + j) q = RotF l (m - i) m (m + j) q := by
  unfold RotF
  simp only [h.get]
  (repeat' split) <;> first | (exfalso; omega) | (congr 1; omega) | rfl
theorem RotF.small {l l' : List EdgeT} {m i j : Nat} (h : SwR l l' (m - i) (m + j - i) i) (hi : i < j) (hm : i ≤ m) (q : Nat) : RotF l' (m - i) m (m + (j - i)) q = RotF l (m - i) m (m + j) q := by
  unfold RotF
  simp only [h.get]
  (repeat' split) <;> first | (exfalso; omega) | (congr 1; omega) | rfl
theorem RotF.last {l l' : List EdgeT} {m i : Nat} (h : SwR l l' (m - i) m i) (hm : i ≤ m) (q : Nat) : l'.getD q dE = RotF l (m - i) m (m + i) q := by
  unfold RotF
  rw [h.get]
  (repeat' split) <;> first | (exfalso; omega) | (congr 1; omega) | rfl
structure RotQ (l : List EdgeT) (a m b : Nat) (l' : List EdgeT) : Prop where
  len : l'.length = l.length
  get : ∀ q, l'.getD q dE = RotF l a m b q

theorem a_SwapR (w : World) (v : Value) (l : List EdgeT) (a b n : Nat) (hl : l.length ≤ 1099511627776) (hab : a + n ≤ b) (hb : b + n ≤ l.length) (hok : (Hp.own v 90 7 l.length (l.flatMap eE)).ok w) : Calls Try.prog 123 #[v, .int .i64 ((a : Nat) : Int), .int .i64 ((b : Nat) : Int), .int .i64 ((n : Nat) : Int), .func (.func 63) #[] #[]] w fun e w' => (∃ y, e = .returned y) ∧ ∃ l', SwR l l' a b n ∧ Chg (fun b => v.ownBlock = some b) w w' ∧ (Hp.own v 90 7 l.length (l'.flatMap eE)).ok w' := by
  have hV := rowV_own hok
  refine calls_mutX (args := [v, .int .i64 ((a : Nat) : Int), .int .i64 ((b : Nat) : Int), .int .i64 ((n : Nat) : Int), .func (.func 63) #[] #[]]) v (fun l' => SwR l l' a b n) (fun l' => l'.flatMap eE) Try.func123 rfl Try.ntmps123 Try.results123 rfl hok ?_
  refine v_seq ?_
  refine v_region ?_
  refine l_val rfl (o_assign rfl) ?_
  refine l_nil ?_
  refine kt_norm ?_
  refine v_block ?_
  refine v_loopS (α := Nat × List EdgeT) (fun ⟨i, cur⟩ => [(10, .int .i64 (i : Int))]) (fun ⟨i, cur⟩ => [(1000, Hp.own v 90 7 l.length (cur.flatMap eE))])  (fun ⟨i, cur⟩ => i ≤ n ∧ SwR l cur a b i) (fun ⟨i, cur⟩ => n - i) (0, l) [0, 1, 2, 3] [] ⟨Nat.zero_le _, SwR.start l a b⟩  (And.intro rfl (True.intro)) rfl (And.intro rfl (True.intro)) rfl ?_
  rintro ⟨i, cur⟩ ⟨hi, hS⟩
  have hcl : cur.length = l.length := hS.len
  refine v_seq ?_
  refine v_seq ?_
  refine v_region ?_
  refine l_val rfl (o_move rfl) ?_
  refine l_val rfl (o_move rfl) ?_
  refine l_split rfl (o_lss rfl rfl) (fun q1 => ?_) (fun q1 => ?_)
  · skip
    refine l_nil ?_
    refine kt_norm ?_
    refine v_condT rfl ?_
    refine v_skip ?_
    refine kt_norm ?_
    refine v_seq ?_
    refine v_block ?_
    refine v_drawZ [[], [], [], [], [], [], [], [], [], [], [], [], [], [1000], [], [], [], [], [], [1000], [], [1000], [], [1000]] mixed ?_ (by kernel_rfl) (by kernel_rfl)
    refine d_val (fun _ => rfl) rfl rfl (fun _ => o_move rfl) ?_
    refine d_val (fun _ => rfl) rfl rfl (fun _ => o_move rfl) ?_
    refine d_val (fun _ => rfl) rfl rfl (fun _ => o_move rfl) ?_
    refine d_val (fun _ => rfl) rfl rfl (fun _ => o_addi rfl rfl ?_) ?_
    · omega
    refine d_val (fun _ => rfl) rfl rfl (fun _ => o_move rfl) ?_
    refine d_val (fun _ => rfl) rfl rfl (fun _ => o_move rfl) ?_
    refine d_val (fun _ => rfl) rfl rfl (fun _ => o_move rfl) ?_
    refine d_val (fun _ => rfl) rfl rfl (fun _ => o_addi rfl rfl ?_) ?_
    · omega
    refine d_val (fun _ => rfl) rfl rfl (fun _ => o_move rfl) ?_
    refine d_val (fun _ => rfl) rfl rfl (fun _ => o_move rfl) ?_
    refine d_val (fun _ => rfl) rfl rfl (fun _ => o_move rfl) ?_
    refine d_val (fun _ => rfl) rfl rfl (fun _ => o_addi rfl rfl ?_) ?_
    · omega
    refine d_val (fun _ => rfl) rfl rfl (fun _ => o_idx (b + i) rfl hV rfl (by first | rfl | omega) (by omega)) ?_
    refine d_val (fun _ => rfl) rfl rfl (fun _ => o_loadRE (c' := [_, _, _, _, _, _, _]) rfl (row_own (key := 1000) rfl) (el_flat eE_len dE cur (b + i) (by omega)) rfl) ?_
    refine d_val (fun _ => rfl) rfl rfl (fun _ => o_move rfl) ?_
    refine d_val (fun _ => rfl) rfl rfl (fun _ => o_move rfl) ?_
    refine d_val (fun _ => rfl) rfl rfl (fun _ => o_move rfl) ?_
    refine d_val (fun _ => rfl) rfl rfl (fun _ => o_addi rfl rfl ?_) ?_
    · omega
    refine d_val (fun _ => rfl) rfl rfl (fun _ => o_idx (a + i) rfl hV rfl (by first | rfl | omega) (by omega)) ?_
    refine d_val (fun _ => rfl) rfl rfl (fun _ => o_loadRE (c' := [_, _, _, _, _, _, _]) rfl (row_own (key := 1000) rfl) (el_flat eE_len dE cur (a + i) (by omega)) rfl) ?_
    refine d_val (fun _ => rfl) rfl rfl (fun _ => o_idx (a + i) rfl hV rfl (by first | rfl | omega) (by omega)) ?_
    refine d_store (fun _ => rfl) rfl rfl (fun _ => o_storeRE (key := 1000) (c := [_, _, _, _, _, _, _]) (by decide) rfl rfl rfl rfl rfl rfl (by omega)) ?_
    refine d_val (fun _ => rfl) rfl rfl (fun _ => o_idx (b + i) rfl hV rfl (by first | rfl | omega) (by omega)) ?_
    refine d_store (fun _ => rfl) rfl rfl (fun _ => o_storeRE (key := 1000) (c := [_, _, _, _, _, _, _]) (by decide) rfl rfl rfl rfl rfl rfl (by omega)) ?_
    refine d_nil (fun σ => ?_)
    refine l_nil ?_
    refine kb_norm ?_
    refine kt_norm ?_
    refine v_sel [10, 0, 1, 2, 3] [1000] rfl rfl ?_
    refine v_region ?_
    refine l_val rfl (o_move rfl) ?_
    refine l_val rfl (o_addi rfl rfl ?_) ?_
    · omega
    refine l_val rfl (o_assign rfl) ?_
    refine l_nil ?_
    refine kt_norm ?_
    refine ⟨(i + 1, swapE cur (a + i) (b + i)), ⟨by omega, hS.step (by omega) (by omega)⟩, (by show n - (i + 1) < n - i; omega), le_app (And.intro rfl (True.intro)) [0, 1, 2, 3] rfl (And.intro (congrArg some (own_congr rfl (flat_swap (by omega) (by omega)))) (True.intro)) [] rfl⟩
  · skip
    refine l_nil ?_
    refine kt_norm ?_
    refine v_condF rfl ?_
    refine v_exit ?_
    refine kt_exit ?_
    refine kt_exit ?_
    refine kb_eq ?_
    refine ⟨[], ResAll.nil, ?_⟩
    exact ⟨cur, (show i = n by omega) ▸ hS, rfl⟩
theorem a_Rotate (w : World) (v : Value) (l : List EdgeT) (a m b : Nat) (hl : l.length ≤ 1099511627776) (ham : a < m) (hmb : m < b) (hb : b ≤ l.length) (hok : (Hp.own v 90 7 l.length (l.flatMap eE)).ok w) : Calls Try.prog 104 #[v, .int .i64 ((a : Nat) : Int), .int .i64 ((m : Nat) : Int), .int .i64 ((b : Nat) : Int), .func (.func 63) #[] #[]] w fun e w' => (∃ y, e = .returned y) ∧ ∃ l', RotQ l a m b l' ∧ Chg (fun b => v.ownBlock = some b) w w' ∧ (Hp.own v 90 7 l.length (l'.flatMap eE)).ok w' := by
  have hV := rowV_own hok
  refine calls_mutX (args := [v, .int .i64 ((a : Nat) : Int), .int .i64 ((m : Nat) : Int), .int .i64 ((b : Nat) : Int), .func (.func 63) #[] #[]]) v (fun l' => RotQ l a m b l') (fun l' => l'.flatMap eE) Try.func104 rfl Try.ntmps104 Try.results104 rfl hok ?_
  refine v_seq ?_
  refine v_region ?_
  refine l_val rfl (o_move rfl) ?_
  refine l_val rfl (o_move rfl) ?_
  refine l_val rfl (o_subi rfl rfl ?_) ?_
  · omega
  refine l_val rfl (o_assign rfl) ?_
  refine l_nil ?_
  refine kt_norm ?_
  refine v_seq ?_
  refine v_region ?_
  refine l_val rfl (o_move rfl) ?_
  refine l_val rfl (o_move rfl) ?_
  refine l_val rfl (o_subi rfl rfl ?_) ?_
  · omega
  refine l_val rfl (o_assign rfl) ?_
  refine l_nil ?_
  refine kt_norm ?_
  refine v_sel [0, 2, 4, 10, 11] [1000] rfl rfl ?_
  refine v_seq ?_
  refine v_block ?_
  refine v_loopS (α := Nat × Nat × List EdgeT) (fun ⟨i, j, cur⟩ => [(10, .int .i64 (i : Int)), (11, .int .i64 (j : Int))]) (fun ⟨i, j, cur⟩ => [(1000, Hp.own v 90 7 l.length (cur.flatMap eE))])  (fun ⟨i, j, cur⟩ => 1 ≤ i ∧ 1 ≤ j ∧ i ≤ m ∧ a + i ≤ m ∧ m + j ≤ b ∧ cur.length = l.length ∧ ∀ q, RotF cur (m - i) m (m + j) q = RotF l a m b q) (fun ⟨i, j, cur⟩ => i + j) (m - a, b - m, l) [0, 2, 4] [] ⟨by omega, by omega, by omega, by omega, by omega, rfl, fun q => by rw [show m - (m - a) = a by omega, show m + (b - m) = b by omega]⟩  (And.intro (congrArg (fun q => some (Value.int .i64 q)) (by omega)) (And.intro (congrArg (fun q => some (Value.int .i64 q)) (by omega)) (True.intro))) rfl (And.intro rfl (True.intro)) rfl ?_
  rintro ⟨i, j, cur⟩ ⟨hi, hj, him, hai, hmj, hcl, hR⟩
  refine v_seq ?_
  refine v_seq ?_
  refine v_region ?_
  refine l_val rfl (o_move rfl) ?_
  refine l_val rfl (o_move rfl) ?_
  refine l_split rfl (o_neq rfl rfl) (fun q1 => ?_) (fun q1 => ?_)
  · skip
    refine l_nil ?_
    refine kt_norm ?_
    refine v_condT rfl ?_
    refine v_skip ?_
    refine kt_norm ?_
    refine v_block ?_
    refine v_seq ?_
    refine v_region ?_
    refine l_val rfl (o_move rfl) ?_
    refine l_val rfl (o_move rfl) ?_
    refine l_split rfl (o_gtr rfl rfl) (fun q2 => ?_) (fun q2 => ?_)
    · skip
      refine l_nil ?_
      refine kt_norm ?_
      refine v_condT rfl ?_
      refine v_seq ?_
      refine v_region ?_
      refine l_val rfl (o_move rfl) ?_
      refine l_val rfl (o_move rfl) ?_
      refine l_val rfl (o_move rfl) ?_
      refine l_val rfl (o_subi rfl rfl ?_) ?_
      · omega
      refine l_val rfl (o_move rfl) ?_
      refine l_val rfl (o_move rfl) ?_
      refine l_val rfl (o_move rfl) ?_
      refine l_gmutX (ks := []) 1000 (fun l2 => SwR cur l2 (m - i) (m) (j)) (fun l2 => l2.flatMap eE) (n := l.length) (caps := #[]) (vs := [_, _, _, _, _]) rfl rfl (ent_of Try.func123 rfl rfl) rfl rfl (fun w' hg hh hok2 => ?_) (fun l2 y2 hS2 => ?_)
      · have hok3 : (Hp.own v 90 7 cur.length (cur.flatMap eE)).ok w' := by rw [hcl]; exact hok2
        have hres := a_SwapR w' v cur (m - i) (m) (j) (by omega) (by omega) (by omega) hok3
        rw [hcl] at hres
        have e0 : ((m - i : Nat) : Int) = (m : Int) - (i : Int) := by omega
        rw [e0] at hres
        exact hres
      refine l_nil ?_
      refine kt_norm ?_
      refine v_sel [10, 11, 0, 2, 4] [1000] rfl rfl ?_
      refine v_region ?_
      refine l_val rfl (o_move rfl) ?_
      refine l_val rfl (o_move rfl) ?_
      refine l_val rfl (o_subi rfl rfl ?_) ?_
      · omega
      refine l_val rfl (o_assign rfl) ?_
      refine l_nil ?_
      refine kb_norm ?_
      refine kt_norm ?_
      refine ⟨(i - j, j, l2), ⟨by omega, hj, by omega, by omega, hmj, hS2.len.trans hcl, fun q => (RotF.big hS2 (by omega) (by omega) q).trans (hR q)⟩, (by show i - j + j < i + j; omega), le_app (And.intro (congrArg (fun q => some (Value.int .i64 q)) (by omega)) (And.intro rfl (True.intro))) [0, 2, 4] rfl (And.intro rfl (True.intro)) [] rfl⟩
    · skip
      refine l_nil ?_
      refine kt_norm ?_
      refine v_condF rfl ?_
      refine v_seq ?_
      refine v_region ?_
      refine l_val rfl (o_move rfl) ?_
      refine l_val rfl (o_move rfl) ?_
      refine l_val rfl (o_move rfl) ?_
      refine l_val rfl (o_subi rfl rfl ?_) ?_
      · omega
      refine l_val rfl (o_move rfl) ?_
      refine l_val rfl (o_move rfl) ?_
      refine l_val rfl (o_addi rfl rfl ?_) ?_
      · omega
      refine l_val rfl (o_move rfl) ?_
      refine l_val rfl (o_subi rfl rfl ?_) ?_
      · omega
      refine l_val rfl (o_move rfl) ?_
      refine l_val rfl (o_move rfl) ?_
      refine l_gmutX (ks := []) 1000 (fun l2 => SwR cur l2 (m - i) (m + j - i) (i)) (fun l2 => l2.flatMap eE) (n := l.length) (caps := #[]) (vs := [_, _, _, _, _]) rfl rfl (ent_of Try.func123 rfl rfl) rfl rfl (fun w' hg hh hok2 => ?_) (fun l2 y2 hS2 => ?_)
      · have hok3 : (Hp.own v 90 7 cur.length (cur.flatMap eE)).ok w' := by rw [hcl]; exact hok2
        have hres := a_SwapR w' v cur (m - i) (m + j - i) (i) (by omega) (by omega) (by omega) hok3
        rw [hcl] at hres
        have e0 : ((m - i : Nat) : Int) = (m : Int) - (i : Int) := by omega
        rw [e0] at hres
        have e1 : ((m + j - i : Nat) : Int) = (m : Int) + (j : Int) - (i : Int) := by omega
        rw [e1] at hres
        exact hres
      refine l_nil ?_
      refine kt_norm ?_
      refine v_sel [10, 11, 0, 2, 4] [1000] rfl rfl ?_
      refine v_region ?_
      refine l_val rfl (o_move rfl) ?_
      refine l_val rfl (o_move rfl) ?_
      refine l_val rfl (o_subi rfl rfl ?_) ?_
      · omega
      refine l_val rfl (o_assign rfl) ?_
      refine l_nil ?_
      refine kb_norm ?_
      refine kt_norm ?_
      refine ⟨(i, j - i, l2), ⟨hi, by omega, him, hai, by omega, hS2.len.trans hcl, fun q => (RotF.small hS2 (by omega) (by omega) q).trans (hR q)⟩, (by show i + (j - i) < i + j; omega), le_app (And.intro rfl (And.intro (congrArg (fun q => some (Value.int .i64 q)) (by omega)) (True.intro))) [0, 2, 4] rfl (And.intro rfl (True.intro)) [] rfl⟩
  · skip
    refine l_nil ?_
    refine kt_norm ?_
    refine v_condF rfl ?_
    refine v_exit ?_
    refine kt_exit ?_
    refine kt_exit ?_
    refine kb_eq ?_
    refine kt_norm ?_
    refine v_region ?_
    obtain rfl : i = j := by omega
    refine l_val rfl (o_move rfl) ?_
    refine l_val rfl (o_move rfl) ?_
    refine l_val rfl (o_move rfl) ?_
    refine l_val rfl (o_subi rfl rfl ?_) ?_
    · omega
    refine l_val rfl (o_move rfl) ?_
    refine l_val rfl (o_move rfl) ?_
    refine l_val rfl (o_move rfl) ?_
    refine l_gmutX (ks := []) 1000 (fun l2 => SwR cur l2 (m - i) (m) (i)) (fun l2 => l2.flatMap eE) (n := l.length) (caps := #[]) (vs := [_, _, _, _, _]) rfl rfl (ent_of Try.func123 rfl rfl) rfl rfl (fun w' hg hh hok2 => ?_) (fun l2 y2 hS2 => ?_)
    · have hok3 : (Hp.own v 90 7 cur.length (cur.flatMap eE)).ok w' := by rw [hcl]; exact hok2
      have hres := a_SwapR w' v cur (m - i) (m) (i) (by omega) (by omega) (by omega) hok3
      rw [hcl] at hres
      have e0 : ((m - i : Nat) : Int) = (m : Int) - (i : Int) := by omega
      rw [e0] at hres
      exact hres
    refine l_nil ?_
    refine ⟨[], ResAll.nil, ?_⟩
    exact ⟨l2, ⟨hS2.len.trans hcl, fun q => (RotF.last hS2 (by omega) q).trans (hR q)⟩, rfl⟩
end Go.Proofs.Ytaijclimdfchfaa
