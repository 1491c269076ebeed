import Derived.Test.YtaijclimdfchfaaE16
/- The stable sort, by blocks. Conditions: none. -/
namespace Go.Proofs.Ytaijclimdfchfaa
open Go.Proofs Go.RowKit Go.Shelf

/-! ### blocks that are sorted -/
def Rest (l : List EdgeT) (bs a c : Nat) : Prop := ∀ j, a ≤ j * bs → j * bs < c → SrtOn l (j * bs) (min (j * bs + bs) c)
def Done (l : List EdgeT) (d k : Nat) : Prop := ∀ j, j < k → SrtOn l (j * d) (j * d + d)
theorem SrtOn.keep {l l' : List EdgeT} {a b p q : Nat} (h : SrtOn l p q) (hM : Mut a b l l') (hd : q ≤ a ∨ b ≤ p) : SrtOn l' p q := fun x y hx hxy hy => by
  rw [hM.out x (by omega), hM.out y (by omega)]; exact h x y hx hxy hy
theorem Done.keep {l l' : List EdgeT} {d k a b : Nat} (h : Done l d k) (hM : Mut a b l l') (hk : k * d ≤ a) : Done l' d k := fun j hj => (h j hj).keep hM (.inl (by
  have : (j + 1) * d ≤ k * d := Nat.mul_le_mul_right d hj
  rw [Nat.add_mul, Nat.one_mul] at this; omega))
theorem Done.succ {l : List EdgeT} {d k : Nat} (h : Done l d k) (hs : SrtOn l (k * d) (k * d + d)) : Done l d (k + 1) := fun j hj => by
  rcases Nat.lt_or_eq_of_le (Nat.le_of_lt_succ hj) with h1 | h1
  · exact h j h1
  · rw [h1]; exact hs
theorem Done.none {l : List EdgeT} {d : Nat} : Done l d 0 := fun j hj => by omega
/-- all blocks, of which the last one may be short -/
theorem Done.all {l : List EdgeT} {d k c : Nat} (h : Done l d k) (hk : k * d ≤ c) (hc : c < k * d + d) (hs : SrtOn l (k * d) c) : Rest l d 0 c := fun j _ hj => by
  by_cases h1 : j < k
  · have : (j + 1) * d ≤ k * d := Nat.mul_le_mul_right d h1
    rw [Nat.add_mul, Nat.one_mul] at this
    rw [Nat.min_eq_left (by omega)]
    exact h j h1
  · by_cases h2 : j = k
    · rw [h2, Nat.min_eq_right (by omega)]; exact hs
    · have : (k + 1) * d ≤ j * d := Nat.mul_le_mul_right d (by omega)
      rw [Nat.add_mul, Nat.one_mul] at this
      omega
theorem Rest.keep {l l' : List EdgeT} {bs a c p q a' : Nat} (h : Rest l bs a c) (hM : Mut p q l l') (hq : q ≤ a') (ha : a ≤ a') : Rest l' bs a' c := fun j h1 h2 => (h j (by omega) h2).keep hM (.inr (by omega))
/-- two blocks behind each other -/
theorem Rest.two {l : List EdgeT} {bs a c k : Nat} (h : Rest l bs a c) (ha : a = k * (2 * bs)) (hb : 0 < bs) (h2 : a + bs < c) : SrtOn l a (a + bs) ∧ SrtOn l (a + bs) (min (a + 2 * bs) c) := by
  have e1 : 2 * k * bs = a := by rw [ha, Nat.mul_comm 2 k, Nat.mul_assoc]
  have e2 : (2 * k + 1) * bs = a + bs := by rw [Nat.add_mul, e1, Nat.one_mul]
  have h3 := h (2 * k) (by omega) (by omega)
  have h4 := h (2 * k + 1) (by omega) (by omega)
  rw [e1, Nat.min_eq_left (by omega)] at h3
  rw [e2, show a + bs + bs = a + 2 * bs by omega] at h4
  exact ⟨h3, h4⟩
theorem Rest.one {l : List EdgeT} {bs a c k : Nat} (h : Rest l bs a c) (ha : a = k * (2 * bs)) (h1 : a ≤ c) (h2 : c ≤ a + bs) : SrtOn l a c := fun p q hp hq hc => by
  have e1 : 2 * k * bs = a := by rw [ha, Nat.mul_comm 2 k, Nat.mul_assoc]
  have h3 := h (2 * k) (by omega) (by omega)
  rw [e1, Nat.min_eq_right (by omega)] at h3
  exact h3 p q hp hq hc
theorem Rest.end {l : List EdgeT} {bs c : Nat} (h : Rest l bs 0 c) (hc : c ≤ bs) : SrtOn l 0 c := fun p q hp hq hqc => by
  have := h 0 (by omega) (by omega)
  rw [Nat.zero_mul, Nat.min_eq_right (by omega)] at this
  exact this p q hp hq hqc

set_option maxHeartbeats 1000000 in
theorem a_Stable (w : World) (v : Value) (l : List EdgeT) (hl : l.length ≤ 1099511627776) (hok : (Hp.own v 90 7 l.length (l.flatMap eE)).ok w) (hfr : ∀ e ∈ l, FrOk e) : Calls Try.prog 82 #[v, .int .i64 (l.length : Int), .func (.func 63) #[] #[]] w fun e w' => (∃ y, e = .returned y) ∧ ∃ l', SrtQ l 0 l.length l' ∧ Chg (fun b => v.ownBlock = some b) w w' ∧ (Hp.own v 90 7 l.length (l'.flatMap eE)).ok w' := by
  have hV := rowV_own hok
  refine calls_mutX (args := [v, .int .i64 (l.length : Int), .func (.func 63) #[] #[]]) v (fun l' => SrtQ l 0 l.length l') (fun l' => l'.flatMap eE) Try.func82 rfl Try.ntmps82 Try.results82 rfl hok ?_
  refine v_seq ?_
  refine v_region ?_
  refine l_val rfl (o_assign rfl) ?_
  refine l_nil ?_
  refine kt_norm ?_
  refine v_seq ?_
  refine v_region ?_
  refine l_val rfl (o_move rfl) ?_
  refine l_val rfl (o_assign rfl) ?_
  refine l_val rfl (o_assign rfl) ?_
  refine l_nil ?_
  refine kt_norm ?_
  refine v_seq ?_
  refine v_block ?_
  refine v_loopS (α := Nat × List EdgeT) (fun ⟨k, cur⟩ => [(7, .int .i64 ((k : Int) * 20)), (8, .int .i64 ((k : Int) * 20 + 20))]) (fun ⟨k, cur⟩ => [(1000, Hp.own v 90 7 l.length (cur.flatMap eE))])  (fun ⟨k, cur⟩ => k * 20 ≤ l.length ∧ Mut 0 l.length l cur ∧ Done cur 20 k) (fun ⟨k, cur⟩ => l.length + 1 - k) (0, l) [0, 1, 2, 6] [] ⟨by omega, Mut.refl _ _ _, Done.none⟩  (And.intro rfl (And.intro rfl (True.intro))) rfl (And.intro rfl (True.intro)) rfl ?_
  rintro ⟨k, cur⟩ ⟨hk, hM, hD⟩
  have hcl : cur.length = l.length := hM.st.len
  have hfo := hM.st.frOk hfr
  refine v_seq ?_
  refine v_seq ?_
  refine v_region ?_
  refine l_val rfl (o_move rfl) ?_
  refine l_val rfl (o_move rfl) ?_
  refine l_split rfl (o_leq rfl rfl) (fun q1 => ?_) (fun q1 => ?_)
  · skip
    refine l_nil ?_
    refine kt_norm ?_
    refine v_condT rfl ?_
    refine v_skip ?_
    refine kt_norm ?_
    refine v_block ?_
    refine v_seq ?_
    refine v_region ?_
    refine l_val rfl (o_move rfl) ?_
    refine l_val rfl (o_move rfl) ?_
    refine l_val rfl (o_move rfl) ?_
    refine l_val rfl (o_move rfl) ?_
    refine l_gmutX (ks := []) 1000 (fun lz => SrtQ cur (k * 20) (k * 20 + 20) lz) (fun lz => lz.flatMap eE) (n := l.length) (caps := #[]) (vs := [_, _, _, _]) rfl rfl (ent_of Try.func94 rfl rfl) rfl rfl (fun w' hg hh hok2 => ?_) (fun l2 y2 hS2 => ?_)
    · have hres := a_InsertS w' v cur (k * 20) (k * 20 + 20) (by omega) (by omega) (by rw [hcl]; exact hok2) hfo (by omega)
      rw [hcl] at hres
      have e0 : ((k * 20 : Nat) : Int) = ((k : Nat) : Int) * 20 := by omega
      rw [e0] at hres
      have e1 : ((k * 20 + 20 : Nat) : Int) = ((k : Nat) : Int) * 20 + 20 := by omega
      rw [e1] at hres
      exact hres
    refine l_nil ?_
    refine kt_norm ?_
    refine v_sel [8, 0, 1, 2, 6] [1000] rfl rfl ?_
    refine v_seq ?_
    refine v_region ?_
    refine l_val rfl (o_move rfl) ?_
    refine l_val rfl (o_assign rfl) ?_
    refine l_nil ?_
    refine kt_norm ?_
    refine v_region ?_
    refine l_val rfl (o_move rfl) ?_
    refine l_val rfl (o_move rfl) ?_
    refine l_val rfl (o_addi rfl rfl ?_) ?_
    · omega
    refine l_val rfl (o_assign rfl) ?_
    refine l_nil ?_
    refine kb_norm ?_
    refine kt_norm ?_
    refine ⟨(k + 1, l2), ⟨by omega, (hM.trans (hS2.mut_.wide (Nat.zero_le _) (by omega))), (hD.keep hS2.mut_ (Nat.le_refl _)).succ hS2.srt⟩, (by show l.length + 1 - (k + 1) < l.length + 1 - k; omega), le_app (And.intro (congrArg (fun q => some (Value.int .i64 q)) (by omega)) (And.intro (congrArg (fun q => some (Value.int .i64 q)) (by omega)) (True.intro))) [0, 1, 2, 6] rfl (And.intro rfl (True.intro)) [] rfl⟩
  · skip
    refine l_nil ?_
    refine kt_norm ?_
    refine v_condF rfl ?_
    refine v_exit ?_
    refine kt_exit ?_
    refine kt_exit ?_
    refine kb_eq ?_
    refine kt_norm ?_
    refine v_seq ?_
    refine v_region ?_
    refine l_val rfl (o_move rfl) ?_
    refine l_val rfl (o_move rfl) ?_
    refine l_val rfl (o_move rfl) ?_
    refine l_val rfl (o_move rfl) ?_
    refine l_gmutX (ks := []) 1000 (fun lz => SrtQ cur (k * 20) (l.length) lz) (fun lz => lz.flatMap eE) (n := l.length) (caps := #[]) (vs := [_, _, _, _]) rfl rfl (ent_of Try.func94 rfl rfl) rfl rfl (fun w' hg hh hok2 => ?_) (fun l2 y2 hS2 => ?_)
    · have hres := a_InsertS w' v cur (k * 20) l.length (by omega) (by omega) (by rw [hcl]; exact hok2) hfo (by omega)
      rw [hcl] at hres
      have e0 : ((k * 20 : Nat) : Int) = ((k : Nat) : Int) * 20 := by omega
      rw [e0] at hres
      exact hres
    refine l_nil ?_
    refine kt_norm ?_
    refine v_sel [0, 1, 2, 6] [1000] rfl rfl ?_
    refine v_block ?_
    refine v_loopS (α := Nat × List EdgeT) (fun ⟨bs, cur⟩ => [(6, .int .i64 (bs : Int))]) (fun ⟨bs, cur⟩ => [(1000, Hp.own v 90 7 l.length (cur.flatMap eE))])  (fun ⟨bs, cur⟩ => 1 ≤ bs ∧ bs ≤ 2199023255552 ∧ Mut 0 l.length l cur ∧ Rest cur bs 0 l.length) (fun ⟨bs, cur⟩ => l.length - bs) (20, l2) [0, 1, 2] [] ⟨by omega, by omega, (hM.trans (hS2.mut_.wide (Nat.zero_le _) (by omega))), (hD.keep hS2.mut_ (Nat.le_refl _)).all (by omega) (by omega) hS2.srt⟩  (And.intro rfl (True.intro)) rfl (And.intro rfl (True.intro)) rfl ?_
    rintro ⟨bs, cur⟩ ⟨hb1, hb2, hM, hR0⟩
    have hcl : cur.length = l.length := hM.st.len
    have hfo := hM.st.frOk hfr
    refine v_seq ?_
    refine v_seq ?_
    refine v_region ?_
    refine l_val rfl (o_move rfl) ?_
    refine l_val rfl (o_move rfl) ?_
    refine l_split rfl (o_lss rfl rfl) (fun q2 => ?_) (fun q2 => ?_)
    · skip
      refine l_nil ?_
      refine kt_norm ?_
      refine v_condT rfl ?_
      refine v_skip ?_
      refine kt_norm ?_
      refine v_block ?_
      refine v_seq ?_
      refine v_region ?_
      refine l_val rfl (o_move rfl) ?_
      refine l_val rfl (o_muli rfl rfl ?_) ?_
      · omega
      refine l_val rfl (o_assign rfl) ?_
      refine l_val rfl (o_assign rfl) ?_
      refine l_nil ?_
      refine kt_norm ?_
      refine v_seq ?_
      refine v_block ?_
      refine v_loopS (α := Nat × Nat × List EdgeT) (fun ⟨a, k, cur⟩ => [(7, .int .i64 (a : Int)), (8, .int .i64 ((a : Int) + 2 * (bs : Int)))]) (fun ⟨a, k, cur⟩ => [(1000, Hp.own v 90 7 l.length (cur.flatMap eE))])  (fun ⟨a, k, cur⟩ => a = k * (2 * bs) ∧ a ≤ l.length ∧ Mut 0 l.length l cur ∧ Done cur (2 * bs) k ∧ Rest cur bs a l.length) (fun ⟨a, k, cur⟩ => l.length + 1 - a) (0, 0, cur) [6, 0, 1, 2] [] ⟨by omega, Nat.zero_le _, hM, Done.none, hR0⟩  (And.intro rfl (And.intro (congrArg (fun q => some (Value.int .i64 q)) (by omega)) (True.intro))) rfl (And.intro rfl (True.intro)) rfl ?_
      rintro ⟨a, k, cur⟩ ⟨hak, hal, hM, hD, hR⟩
      have hcl : cur.length = l.length := hM.st.len
      have hfo := hM.st.frOk hfr
      refine v_seq ?_
      refine v_seq ?_
      refine v_region ?_
      refine l_val rfl (o_move rfl) ?_
      refine l_val rfl (o_move rfl) ?_
      refine l_split rfl (o_leq rfl rfl) (fun q3 => ?_) (fun q3 => ?_)
      · skip
        refine l_nil ?_
        refine kt_norm ?_
        refine v_condT rfl ?_
        refine v_skip ?_
        refine kt_norm ?_
        refine v_block ?_
        refine v_seq ?_
        refine v_region ?_
        have hT := hR.two hak (by omega) (by omega)
        refine l_val rfl (o_move rfl) ?_
        refine l_val rfl (o_move rfl) ?_
        refine l_val rfl (o_move rfl) ?_
        refine l_val rfl (o_move rfl) ?_
        refine l_val rfl (o_addi rfl rfl ?_) ?_
        · omega
        refine l_val rfl (o_move rfl) ?_
        refine l_val rfl (o_move rfl) ?_
        refine l_gmutX (ks := []) 1000 (fun lz => SrtQ cur (a) (a + 2 * bs) lz) (fun lz => lz.flatMap eE) (n := l.length) (caps := #[]) (vs := [_, _, _, _, _]) rfl rfl (ent_of Try.func95 rfl rfl) rfl rfl (fun w' hg hh hok2 => ?_) (fun l3 y2 hS2 => ?_)
        · have hres := a_Sym w' v cur a (a + bs) (a + 2 * bs) (by omega) (by omega) (by omega) (by omega) (by rw [hcl]; exact hok2) hfo hT.1 (by have := hT.2; rwa [Nat.min_eq_left (by omega)] at this)
          rw [hcl] at hres
          have e0 : ((a + bs : Nat) : Int) = (a : Int) + (bs : Int) := by omega
          rw [e0] at hres
          have e1 : ((a + 2 * bs : Nat) : Int) = (a : Int) + 2 * (bs : Int) := by omega
          rw [e1] at hres
          exact hres
        refine l_nil ?_
        refine kt_norm ?_
        refine v_sel [8, 6, 0, 1, 2] [1000] rfl rfl ?_
        refine v_seq ?_
        refine v_region ?_
        refine l_val rfl (o_move rfl) ?_
        refine l_val rfl (o_assign rfl) ?_
        refine l_nil ?_
        refine kt_norm ?_
        refine v_region ?_
        refine l_val rfl (o_move rfl) ?_
        refine l_val rfl (o_move rfl) ?_
        refine l_val rfl (o_muli rfl rfl ?_) ?_
        · omega
        refine l_val rfl (o_addi rfl rfl ?_) ?_
        · omega
        refine l_val rfl (o_assign rfl) ?_
        refine l_nil ?_
        refine kb_norm ?_
        refine kt_norm ?_
        refine ⟨(a + 2 * bs, k + 1, l3), ⟨by rw [Nat.add_mul, Nat.one_mul, ← hak], by omega, (hM.trans (hS2.mut_.wide (Nat.zero_le _) (by omega))), (hD.keep hS2.mut_ (by omega)).succ (by rw [← hak]; exact hS2.srt), hR.keep hS2.mut_ (Nat.le_refl _) (by omega)⟩, (by show l.length + 1 - (a + 2 * bs) < l.length + 1 - a; omega), le_app (And.intro (congrArg (fun q => some (Value.int .i64 q)) (by omega)) (And.intro (congrArg (fun q => some (Value.int .i64 q)) (by omega)) (True.intro))) [6, 0, 1, 2] rfl (And.intro rfl (True.intro)) [] rfl⟩
      · skip
        refine l_nil ?_
        refine kt_norm ?_
        refine v_condF rfl ?_
        refine v_exit ?_
        refine kt_exit ?_
        refine kt_exit ?_
        refine kb_eq ?_
        refine kt_norm ?_
        refine v_seq ?_
        refine v_seq ?_
        refine v_region ?_
        refine l_val rfl (o_move rfl) ?_
        refine l_val rfl (o_move rfl) ?_
        refine l_val rfl (o_addi rfl rfl ?_) ?_
        · omega
        refine l_val rfl (o_assign rfl) ?_
        refine l_nil ?_
        refine kt_norm ?_
        refine v_sel [7, 6, 0, 1, 2, 9] [1000] rfl rfl ?_
        refine v_seq ?_
        refine v_region ?_
        refine l_val rfl (o_move rfl) ?_
        refine l_val rfl (o_move rfl) ?_
        refine l_split rfl (o_lss rfl rfl) (fun q4 => ?_) (fun q4 => ?_)
        · skip
          refine l_nil ?_
          refine kt_norm ?_
          refine v_condT rfl ?_
          refine v_region ?_
          have hT := hR.two hak (by omega) (by omega)
          refine l_val rfl (o_move rfl) ?_
          refine l_val rfl (o_move rfl) ?_
          refine l_val rfl (o_move rfl) ?_
          refine l_val rfl (o_move rfl) ?_
          refine l_val rfl (o_move rfl) ?_
          refine l_gmutX (ks := []) 1000 (fun lz => SrtQ cur (a) (l.length) lz) (fun lz => lz.flatMap eE) (n := l.length) (caps := #[]) (vs := [_, _, _, _, _]) rfl rfl (ent_of Try.func95 rfl rfl) rfl rfl (fun w' hg hh hok2 => ?_) (fun l3 y2 hS2 => ?_)
          · have hres := a_Sym w' v cur a (a + bs) l.length (by omega) (by omega) (by omega) (by omega) (by rw [hcl]; exact hok2) hfo hT.1 (by have := hT.2; rwa [Nat.min_eq_right (by omega)] at this)
            rw [hcl] at hres
            have e0 : ((a + bs : Nat) : Int) = (a : Int) + (bs : Int) := by omega
            rw [e0] at hres
            exact hres
          refine l_nil ?_
          refine kt_norm ?_
          refine v_sel [6, 0, 1, 2] [1000] rfl rfl ?_
          refine v_region ?_
          refine l_val rfl (o_move rfl) ?_
          refine l_val rfl (o_muli rfl rfl ?_) ?_
          · omega
          refine l_val rfl (o_assign rfl) ?_
          refine l_nil ?_
          refine kb_norm ?_
          refine kt_norm ?_
          refine ⟨(2 * bs, l3), ⟨by omega, by omega, (hM.trans (hS2.mut_.wide (Nat.zero_le _) (by omega))), (hD.keep hS2.mut_ (by omega)).all (by omega) (by omega) (hak ▸ hS2.srt)⟩, (by show l.length - 2 * bs < l.length - bs; omega), le_app (And.intro (congrArg (fun q => some (Value.int .i64 q)) (by omega)) (True.intro)) [0, 1, 2] rfl (And.intro rfl (True.intro)) [] rfl⟩
        · skip
          refine l_nil ?_
          refine kt_norm ?_
          refine v_condF rfl ?_
          refine v_skip ?_
          refine kt_norm ?_
          refine v_region ?_
          refine l_val rfl (o_move rfl) ?_
          refine l_val rfl (o_muli rfl rfl ?_) ?_
          · omega
          refine l_val rfl (o_assign rfl) ?_
          refine l_nil ?_
          refine kb_norm ?_
          refine kt_norm ?_
          refine ⟨(2 * bs, cur), ⟨by omega, by omega, hM, hD.all (by omega) (by omega) (hak ▸ hR.one hak (by omega) (by omega))⟩, (by show l.length - 2 * bs < l.length - bs; omega), le_app (And.intro (congrArg (fun q => some (Value.int .i64 q)) (by omega)) (True.intro)) [0, 1, 2] rfl (And.intro rfl (True.intro)) [] rfl⟩
    · skip
      refine l_nil ?_
      refine kt_norm ?_
      refine v_condF rfl ?_
      refine v_exit ?_
      refine kt_exit ?_
      refine kt_exit ?_
      refine kb_eq ?_
      refine ⟨[], ResAll.nil, ?_⟩
      exact ⟨cur, ⟨hM, hR0.end (by omega)⟩, rfl⟩
end Go.Proofs.Ytaijclimdfchfaa
