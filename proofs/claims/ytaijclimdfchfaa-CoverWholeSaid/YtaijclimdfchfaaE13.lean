import Derived.Test.YtaijclimdfchfaaE12
/- Edges, sorted by their first rows: neighbours that change places. Conditions: none. -/
namespace Go.Proofs.Ytaijclimdfchfaa
open Go.Proofs Go.RowKit Go.Shelf

/-! ### rows that are sorted by their first rows: plain law -/
def fk (k : Int) (l : List EdgeT) : List EdgeT := l.filter fun e => decide (e.fr = k)
/-- the same elements; those with the same key in the same order -/
structure StEq (l l' : List EdgeT) : Prop where
  len : l'.length = l.length
  keys : ∀ k, fk k l' = fk k l
theorem StEq.refl (l : List EdgeT) : StEq l l := ⟨rfl, fun _ => rfl⟩
theorem StEq.trans {a b c : List EdgeT} (h : StEq a b) (k : StEq b c) : StEq a c := ⟨k.len.trans h.len, fun q => (k.keys q).trans (h.keys q)⟩
theorem StEq.symm {a b : List EdgeT} (h : StEq a b) : StEq b a := ⟨h.len.symm, fun q => (h.keys q).symm⟩
theorem fk_append (k : Int) (a b : List EdgeT) : fk k (a ++ b) = fk k a ++ fk k b := List.filter_append ..
theorem StEq.mem {a b : List EdgeT} (h : StEq a b) {e : EdgeT} (he : e ∈ b) : e ∈ a := by
  have h1 : e ∈ fk e.fr b := List.mem_filter.2 ⟨he, by simp⟩
  rw [h.keys] at h1
  exact (List.mem_filter.1 h1).1
theorem fk_none {k : Int} {l : List EdgeT} (h : ∀ e ∈ l, e.fr ≠ k) : fk k l = [] := List.filter_eq_nil_iff.2 fun e he => by simpa using h e he
/-- two stretches change places whose keys differ -/
theorem StEq.rot {X Y : List EdgeT} (A B : List EdgeT) (h : ∀ x ∈ X, ∀ y ∈ Y, x.fr ≠ y.fr) : StEq (A ++ (X ++ Y) ++ B) (A ++ (Y ++ X) ++ B) := by
  refine ⟨by simp; omega, fun k => ?_⟩
  simp only [fk_append]
  by_cases hx : ∃ x ∈ X, x.fr = k
  · obtain ⟨x, hx, hk⟩ := hx
    rw [fk_none (l := Y) fun y hy e => h x hx y hy (hk.trans e.symm)]
    simp
  · rw [fk_none (l := X) fun x hx' e => hx ⟨x, hx', e⟩]
    simp
/-- a stretch is told by the whole and the rest -/
theorem StEq.seg {A S S' B : List EdgeT} (h : StEq (A ++ S ++ B) (A ++ S' ++ B)) : StEq S S' := by
  refine ⟨by have := h.len; simp at this; omega, fun k => ?_⟩
  have := h.keys k
  simp only [fk_append, List.append_assoc] at this
  exact List.append_cancel_right (List.append_cancel_left this)
def Srt (l : List EdgeT) : Prop := l.Pairwise fun x y => x.fr ≤ y.fr
theorem fk_head {k : Int} {x : EdgeT} {l : List EdgeT} (h : x.fr = k) : fk k (x :: l) = x :: fk k l := List.filter_cons_of_pos (by simpa using h)
theorem fk_skip {k : Int} {x : EdgeT} {l : List EdgeT} (h : x.fr ≠ k) : fk k (x :: l) = fk k l := List.filter_cons_of_neg (by simpa using h)
/-- there is but one -/
theorem srt_unique : ∀ (l l' : List EdgeT), Srt l → Srt l' → StEq l l' → l' = l
  | [], l', _, _, h => List.eq_nil_of_length_eq_zero h.len
  | x :: l, [], _, _, h => by have := h.len; simp at this
  | x :: l, y :: l', hs, hs', h => by
    have hx : x ∈ y :: l' := h.symm.mem List.mem_cons_self
    have hy : y ∈ x :: l := h.mem List.mem_cons_self
    have e : x.fr = y.fr := by
      have a1 : y.fr ≤ x.fr := by
        rcases List.mem_cons.1 hx with e | h1
        · rw [e]; exact Int.le_refl _
        · exact (List.pairwise_cons.1 hs').1 x h1
      have a2 : x.fr ≤ y.fr := by
        rcases List.mem_cons.1 hy with e | h1
        · rw [e]; exact Int.le_refl _
        · exact (List.pairwise_cons.1 hs).1 y h1
      omega
    have hk := h.keys x.fr
    rw [fk_head rfl, fk_head e.symm] at hk
    have exy : y = x := (List.cons.inj hk).1
    subst exy
    have := srt_unique l l' (List.pairwise_cons.1 hs).2 (List.pairwise_cons.1 hs').2 ⟨by have := h.len; simpa using this, fun k => by
      have := h.keys k
      by_cases hk : y.fr = k
      · rw [fk_head hk, fk_head hk] at this; exact (List.cons.inj this).2
      · rwa [fk_skip hk, fk_skip hk] at this⟩
    rw [this]
/-- by places -/
theorem ext_getD {l l' : List EdgeT} (hl : l'.length = l.length) (h : ∀ i, i < l.length → l'.getD i dE = l.getD i dE) : l' = l := by
  apply List.ext_getElem hl
  intro i h1 h2
  have := h i h2
  rwa [List.getD_eq_getElem?_getD, List.getD_eq_getElem?_getD, List.getElem?_eq_getElem h1, List.getElem?_eq_getElem h2] at this
theorem getD_set {l : List EdgeT} {i j : Nat} {x : EdgeT} (hi : i < l.length) : (l.set i x).getD j dE = if j = i then x else l.getD j dE := by
  rw [List.getD_eq_getElem?_getD, List.getD_eq_getElem?_getD, List.getElem?_set]
  by_cases h : i = j
  · rw [if_pos h, if_pos h.symm, if_pos (by omega)]; rfl
  · rw [if_neg h, if_neg (fun e => h e.symm)]
/-- sorted from a to b -/
def SrtOn (l : List EdgeT) (a b : Nat) : Prop := ∀ i j, a ≤ i → i < j → j < b → (l.getD i dE).fr ≤ (l.getD j dE).fr
theorem SrtOn.srt {l : List EdgeT} (h : SrtOn l 0 l.length) : Srt l := by
  refine List.pairwise_iff_getElem.2 fun i j hi hj hij => ?_
  have := h i j (Nat.zero_le _) hij hj
  rwa [List.getD_eq_getElem?_getD, List.getD_eq_getElem?_getD, List.getElem?_eq_getElem hi, List.getElem?_eq_getElem hj] at this
/-- turned between a and b alone; the same elements, in a stable order -/
structure Mut (a b : Nat) (l l' : List EdgeT) : Prop where
  st : StEq l l'
  out : ∀ i, (i < a ∨ b ≤ i) → l'.getD i dE = l.getD i dE
theorem Mut.refl (a b : Nat) (l : List EdgeT) : Mut a b l l := ⟨.refl _, fun _ _ => rfl⟩
theorem Mut.trans {a b : Nat} {l l' l'' : List EdgeT} (h : Mut a b l l') (k : Mut a b l' l'') : Mut a b l l'' := ⟨h.st.trans k.st, fun i hi => (k.out i hi).trans (h.out i hi)⟩
theorem Mut.wide {a b a' b' : Nat} {l l' : List EdgeT} (h : Mut a b l l') (ha : a' ≤ a) (hb : b ≤ b') : Mut a' b' l l' := ⟨h.st, fun i hi => h.out i (by omega)⟩
/-- neighbours change places -/
def swapE (l : List EdgeT) (i j : Nat) : List EdgeT := (l.set i (l.getD j dE)).set j (l.getD i dE)
theorem swapE_len (l : List EdgeT) (i j : Nat) : (swapE l i j).length = l.length := by simp [swapE]
theorem swapE_getD {l : List EdgeT} {i j q : Nat} (hi : i < l.length) (hj : j < l.length) : (swapE l i j).getD q dE = if q = j then l.getD i dE else if q = i then l.getD j dE else l.getD q dE := by
  unfold swapE
  rw [getD_set (by simpa using hj), getD_set hi]
theorem split_at2 {l : List EdgeT} {j : Nat} (hj : j + 1 < l.length) : l = l.take j ++ ([l.getD j dE] ++ [l.getD (j + 1) dE]) ++ l.drop (j + 2) := by
  have h1 : l.drop j = l.getD j dE :: l.drop (j + 1) := by
    rw [List.drop_eq_getElem_cons (by omega), List.getD_eq_getElem?_getD, List.getElem?_eq_getElem (by omega)]; rfl
  have h2 : l.drop (j + 1) = l.getD (j + 1) dE :: l.drop (j + 2) := by
    rw [List.drop_eq_getElem_cons (by omega), List.getD_eq_getElem?_getD, List.getElem?_eq_getElem (by omega)]; rfl
  conv => lhs; rw [← List.take_append_drop j l, h1, h2]
  simp
theorem Mut.swap {l : List EdgeT} {j : Nat} (hj : j + 1 < l.length) (h : (l.getD j dE).fr ≠ (l.getD (j + 1) dE).fr) {a b : Nat} (ha : a ≤ j) (hb : j + 2 ≤ b) : Mut a b l (swapE l (j + 1) j) := by
  have e : swapE l (j + 1) j = l.take j ++ ([l.getD (j + 1) dE] ++ [l.getD j dE]) ++ l.drop (j + 2) := by
    refine ext_getD ?_ fun i hi => ?_
    · simp [swapE]; omega
    · rw [swapE_getD hj (by omega)]
      have h0 : (l.take j).length = j := by rw [List.length_take]; omega
      simp only [List.getD_eq_getElem?_getD]
      by_cases h1 : i < j
      · rw [if_neg (by omega), if_neg (by omega), List.append_assoc, List.getElem?_append_left (by omega), List.getElem?_take_of_lt h1]
      · rw [List.append_assoc, List.getElem?_append_right (by omega), h0]
        by_cases h2 : i = j
        · rw [if_pos h2, h2, Nat.sub_self]; rfl
        · by_cases h3 : i = j + 1
          · rw [if_neg h2, if_pos h3, h3, show j + 1 - j = 1 by omega]; rfl
          · rw [if_neg h2, if_neg h3, List.getElem?_append_right (by simp; omega), List.getElem?_drop]
            congr 2
            simp; omega
  refine ⟨?_, fun i hi => ?_⟩
  · rw [e]
    conv => lhs; rw [split_at2 hj]
    exact StEq.rot _ _ fun x hx y hy => by rw [List.mem_singleton.1 hx, List.mem_singleton.1 hy]; exact h
  · rw [swapE_getD hj (by omega), if_neg (by omega), if_neg (by omega)]
/-! ### insertion -/
/-- all is sorted from a to e, but that the j-th may be too far behind -/
def InsQ (l : List EdgeT) (a e j : Nat) : Prop := ∀ p q, a ≤ p → p < q → q < e → q ≠ j → (l.getD p dE).fr ≤ (l.getD q dE).fr
theorem InsQ.start {l : List EdgeT} {a i : Nat} (h : SrtOn l a i) : InsQ l a (i + 1) i := fun p q hp hq he hj => h p q hp hq (by omega)
theorem InsQ.done {l : List EdgeT} {a e j : Nat} (h : InsQ l a e j) (hj : a < j → (l.getD (j - 1) dE).fr ≤ (l.getD j dE).fr) : SrtOn l a e := fun p q hp hq he => by
  by_cases hqj : q = j
  · subst hqj
    have h1 := hj (by omega)
    by_cases hp1 : p = q - 1
    · rw [hp1]; exact h1
    · have := h p (q - 1) hp (by omega) (by omega) (by omega)
      omega
  · exact h p q hp hq he hqj
theorem InsQ.step {l : List EdgeT} {a e j : Nat} (h : InsQ l a e j) (ha : a < j) (he : j < e) (hl : e ≤ l.length) (hlt : (l.getD j dE).fr < (l.getD (j - 1) dE).fr) : InsQ (swapE l j (j - 1)) a e (j - 1) := fun p q hp hq hqe hj => by
  rw [swapE_getD (by omega) (by omega), swapE_getD (by omega) (by omega)]
  rw [if_neg hj]
  by_cases hq1 : q = j
  · rw [if_pos hq1]
    by_cases hp1 : p = j - 1
    · rw [if_pos hp1]; omega
    · rw [if_neg hp1, if_neg (by omega)]
      exact h p (j - 1) hp (by omega) (by omega) (by omega)
  · rw [if_neg hq1]
    by_cases hp1 : p = j - 1
    · rw [if_pos hp1]
      by_cases hqj : q < j
      · omega
      · exact h j q (by omega) (by omega) hqe hq1
    · rw [if_neg hp1]
      by_cases hp2 : p = j
      · rw [if_pos hp2]
        exact h (j - 1) q (by omega) (by omega) hqe hq1
      · rw [if_neg hp2]
        exact h p q hp hq hqe hq1
theorem flat_swap {l : List EdgeT} {i j : Nat} (hi : i < l.length) (hj : j < l.length) : ((l.flatMap eE).take (i * 7) ++ eE (l.getD j dE) ++ (l.flatMap eE).drop (i * 7 + 7)).take (j * 7) ++ eE (l.getD i dE) ++ ((l.flatMap eE).take (i * 7) ++ eE (l.getD j dE) ++ (l.flatMap eE).drop (i * 7 + 7)).drop (j * 7 + 7) = (swapE l i j).flatMap eE := by
  rw [flat_set eE_len l i _ hi, flat_set eE_len _ j _ (by simpa using hj)]; rfl
def FrOk (e : EdgeT) : Prop := -1099511627776 ≤ e.fr ∧ e.fr ≤ 1099511627776
theorem frOk_getD {l : List EdgeT} (h : ∀ e ∈ l, FrOk e) {i : Nat} (hi : i < l.length) : FrOk (l.getD i dE) := by
  rw [List.getD_eq_getElem?_getD, List.getElem?_eq_getElem hi]; exact h _ (List.getElem_mem hi)
theorem StEq.frOk {l l' : List EdgeT} (h : StEq l l') (ho : ∀ e ∈ l, FrOk e) : ∀ e ∈ l', FrOk e := fun e he => ho e (h.mem he)
/-- a stretch of cur has been turned into a sorted one -/
structure SrtQ (l : List EdgeT) (a b : Nat) (l' : List EdgeT) : Prop where
  mut_ : Mut a b l l'
  srt : SrtOn l' a b

theorem a_CmpF (e f : EdgeT) (he : FrOk e) (hf : FrOk f) : Ans Try.prog 63 [.agg #[.int .i64 e.x, .int .i64 e.y, .int .i64 e.dx, .int .i64 e.dy, .int .i64 e.wi, .int .i64 e.fr, .int .i64 e.to], .agg #[.int .i64 f.x, .int .i64 f.y, .int .i64 f.dx, .int .i64 f.dy, .int .i64 f.wi, .int .i64 f.fr, .int .i64 f.to]] (.int .i64 (e.fr - f.fr)) := by
  unfold FrOk at he hf
  refine ans_of Try.func63 rfl Try.ntmps63 Try.results63 rfl rfl fun w => ?_
  refine v_seq ?_
  refine v_region ?_
  refine l_new rfl (o_box (cs := [_, _, _, _, _, _, _]) rfl rfl) fun b2 => ?_
  refine l_new rfl (o_box (cs := [_, _, _, _, _, _, _]) rfl rfl) fun b3 => ?_
  refine l_val rfl (o_assign rfl) ?_
  refine l_nil ?_
  refine kt_norm ?_
  refine v_seq ?_
  refine v_region ?_
  refine l_val rfl (o_fld rfl) ?_
  refine l_val rfl (o_load1 (key := 2) rfl rfl rfl) ?_
  refine l_val rfl (o_fld rfl) ?_
  refine l_val rfl (o_load1 (key := 3) rfl rfl rfl) ?_
  refine l_val rfl (o_subi rfl rfl ?_) ?_
  · omega
  refine l_val rfl (o_assign rfl) ?_
  refine l_nil ?_
  refine kt_norm ?_
  refine v_sel [4] [] rfl rfl ?_
  refine v_ret ?_
  refine ⟨[_], .cons (.tmp rfl) (ResAll.nil), ?_⟩
  rfl
theorem a_InsertS (w : World) (v : Value) (l : List EdgeT) (a b : Nat) (hl : l.length ≤ 1099511627776) (hb : b ≤ l.length) (hok : (Hp.own v 90 7 l.length (l.flatMap eE)).ok w) (hfr : ∀ e ∈ l, FrOk e) (hab : a ≤ b) : Calls Try.prog 94 #[v, .int .i64 (a : Int), .int .i64 (b : Int), .func (.func 63) #[] #[]] w fun e w' => (∃ y, e = .returned y) ∧ ∃ l', SrtQ l a b l' ∧ Chg (fun b => v.ownBlock = some b) w w' ∧ (Hp.own v 90 7 l.length (l'.flatMap eE)).ok w' := by
  have hV := rowV_own hok
  refine calls_mutX (args := [v, .int .i64 (a : Int), .int .i64 (b : Int), .func (.func 63) #[] #[]]) v (fun l' => SrtQ l a b l') (fun l' => l'.flatMap eE) Try.func94 rfl Try.ntmps94 Try.results94 rfl hok ?_
  refine v_seq ?_
  refine v_region ?_
  refine l_val rfl (o_move rfl) ?_
  refine l_val rfl (o_addi rfl rfl ?_) ?_
  · omega
  refine l_val rfl (o_assign rfl) ?_
  refine l_nil ?_
  refine kt_norm ?_
  refine v_block ?_
  refine v_loopS (α := Nat × List EdgeT) (fun ⟨i, cur⟩ => [(8, .int .i64 (i : Int))]) (fun ⟨i, cur⟩ => [(1000, Hp.own v 90 7 l.length (cur.flatMap eE))])  (fun ⟨i, cur⟩ => a < i ∧ (i ≤ b ∨ i = a + 1) ∧ Mut a b l cur ∧ SrtOn cur a i) (fun ⟨i, cur⟩ => b + 1 - i) (a + 1, l) [0, 1, 2, 3] [] ⟨Nat.lt_succ_self a, .inr rfl, Mut.refl a b l, fun p q hp hq he => by omega⟩  (And.intro rfl (True.intro)) rfl (And.intro rfl (True.intro)) rfl ?_
  rintro ⟨i, cur⟩ ⟨hai, hib, hM, hS⟩
  have hcl : cur.length = l.length := hM.st.len
  have hfo := hM.st.frOk hfr
  refine v_seq ?_
  refine v_seq ?_
  refine v_region ?_
  refine l_val rfl (o_move rfl) ?_
  refine l_val rfl (o_move rfl) ?_
  refine l_split rfl (o_lss rfl rfl) (fun q1 => ?_) (fun q1 => ?_)
  · skip
    refine l_nil ?_
    refine kt_norm ?_
    refine v_condT rfl ?_
    refine v_skip ?_
    refine kt_norm ?_
    refine v_seq ?_
    refine v_block ?_
    refine v_seq ?_
    refine v_region ?_
    refine l_val rfl (o_move rfl) ?_
    refine l_val rfl (o_assign rfl) ?_
    refine l_nil ?_
    refine kt_norm ?_
    refine v_block ?_
    refine v_loopS (α := Nat × List EdgeT) (fun ⟨j, cur⟩ => [(9, .int .i64 (j : Int))]) (fun ⟨j, cur⟩ => [(1000, Hp.own v 90 7 l.length (cur.flatMap eE))])  (fun ⟨j, cur⟩ => a ≤ j ∧ j ≤ i ∧ Mut a b l cur ∧ InsQ cur a (i + 1) j) (fun ⟨j, cur⟩ => j) (i, cur) [8, 0, 1, 2, 3] [] ⟨by omega, Nat.le_refl _, hM, InsQ.start hS⟩  (And.intro rfl (True.intro)) rfl (And.intro rfl (True.intro)) rfl ?_
    rintro ⟨j, cur⟩ ⟨haj, hji, hM, hI⟩
    have hcl : cur.length = l.length := hM.st.len
    have hfo := hM.st.frOk hfr
    refine v_seq ?_
    refine v_seq ?_
    refine v_drawZ [[], [], [], [], [], [], [], [], [1000], [], [], [], [], [1000], [], [], []] mixed ?_ (by kernel_rfl) (by kernel_rfl)
    refine d_val (fun _ => rfl) rfl rfl (fun _ => o_move rfl) ?_
    refine d_val (fun _ => rfl) rfl rfl (fun _ => o_move rfl) ?_
    refine d_gtr (fun _ => rfl) (fun _ => rfl) (fun _ => rfl) (fun h42 => ?_) (fun h42 => ?_)
    · skip
      refine d_val (fun _ => rfl) rfl rfl (fun _ => o_move rfl) ?_
      refine d_val (fun _ => rfl) rfl rfl (fun _ => o_move rfl) ?_
      refine d_val (fun _ => rfl) rfl rfl (fun _ => o_move rfl) ?_
      refine d_val (fun _ => rfl) rfl rfl (fun _ => o_move rfl) ?_
      refine d_val (fun _ => rfl) rfl rfl (fun _ => o_idx (j) rfl hV rfl (by first | rfl | omega) (by omega)) ?_
      refine d_val (fun _ => rfl) rfl rfl (fun _ => o_loadRE (c' := [_, _, _, _, _, _, _]) rfl (row_own (key := 1000) rfl) (el_flat eE_len dE cur (j) (by omega)) rfl) ?_
      refine d_val (fun _ => rfl) rfl rfl (fun _ => o_move rfl) ?_
      refine d_val (fun _ => rfl) rfl rfl (fun _ => o_move rfl) ?_
      refine d_val (fun _ => rfl) rfl rfl (fun _ => o_subi rfl rfl ?_) ?_
      · omega
      refine d_val (fun _ => rfl) rfl rfl (fun _ => o_idx (j - 1) rfl hV rfl (by first | rfl | omega) (by omega)) ?_
      refine d_val (fun _ => rfl) rfl rfl (fun _ => o_loadRE (c' := [_, _, _, _, _, _, _]) rfl (row_own (key := 1000) rfl) (el_flat eE_len dE cur (j - 1) (by omega)) rfl) ?_
      refine d_ansv (vs := [_, _]) (fun _ => rfl) (fun _ => rfl) (fun _ => rfl) (a_CmpF (cur.getD (j) dE) (cur.getD (j - 1) dE) (frOk_getD hfo (by omega)) (frOk_getD hfo (by omega))) ?_
      refine d_lss (fun _ => rfl) (fun _ => rfl) (fun _ => rfl) (fun h415 => ?_) (fun h415 => ?_)
      · skip
        refine d_val (fun _ => rfl) rfl rfl (fun _ => o_pickT rfl rfl) ?_
        refine d_nil (fun σ => ?_)
        refine l_nil ?_
        refine kt_norm ?_
        refine v_condT rfl ?_
        refine v_skip ?_
        refine kt_norm ?_
        refine v_seq ?_
        refine v_block ?_
        refine v_drawZ [[], [], [], [], [], [], [], [], [], [1000], [], [], [], [1000], [], [1000], [], [1000]] mixed ?_ (by kernel_rfl) (by kernel_rfl)
        refine d_val (fun _ => rfl) rfl rfl (fun _ => o_move rfl) ?_
        refine d_val (fun _ => rfl) rfl rfl (fun _ => o_move rfl) ?_
        refine d_val (fun _ => rfl) rfl rfl (fun _ => o_move rfl) ?_
        refine d_val (fun _ => rfl) rfl rfl (fun _ => o_move rfl) ?_
        refine d_val (fun _ => rfl) rfl rfl (fun _ => o_subi rfl rfl ?_) ?_
        · omega
        refine d_val (fun _ => rfl) rfl rfl (fun _ => o_move rfl) ?_
        refine d_val (fun _ => rfl) rfl rfl (fun _ => o_move rfl) ?_
        refine d_val (fun _ => rfl) rfl rfl (fun _ => o_subi rfl rfl ?_) ?_
        · omega
        refine d_val (fun _ => rfl) rfl rfl (fun _ => o_idx (j - 1) rfl hV rfl (by first | rfl | omega) (by omega)) ?_
        refine d_val (fun _ => rfl) rfl rfl (fun _ => o_loadRE (c' := [_, _, _, _, _, _, _]) rfl (row_own (key := 1000) rfl) (el_flat eE_len dE cur (j - 1) (by omega)) rfl) ?_
        refine d_val (fun _ => rfl) rfl rfl (fun _ => o_move rfl) ?_
        refine d_val (fun _ => rfl) rfl rfl (fun _ => o_move rfl) ?_
        refine d_val (fun _ => rfl) rfl rfl (fun _ => o_idx (j) rfl hV rfl (by first | rfl | omega) (by omega)) ?_
        refine d_val (fun _ => rfl) rfl rfl (fun _ => o_loadRE (c' := [_, _, _, _, _, _, _]) rfl (row_own (key := 1000) rfl) (el_flat eE_len dE cur (j) (by omega)) rfl) ?_
        refine d_val (fun _ => rfl) rfl rfl (fun _ => o_idx (j) rfl hV rfl (by first | rfl | omega) (by omega)) ?_
        refine d_store (fun _ => rfl) rfl rfl (fun _ => o_storeRE (key := 1000) (c := [_, _, _, _, _, _, _]) (by decide) rfl rfl rfl rfl rfl rfl (by omega)) ?_
        refine d_val (fun _ => rfl) rfl rfl (fun _ => o_idx (j - 1) rfl hV rfl (by first | rfl | omega) (by omega)) ?_
        refine d_store (fun _ => rfl) rfl rfl (fun _ => o_storeRE (key := 1000) (c := [_, _, _, _, _, _, _]) (by decide) rfl rfl rfl rfl rfl rfl (by omega)) ?_
        refine d_nil (fun σ => ?_)
        refine l_nil ?_
        refine kb_norm ?_
        refine kt_norm ?_
        refine v_sel [9, 8, 0, 1, 2, 3, 22, 23, 24, 25, 26, 27, 28, 29, 30, 31, 32, 33] [1000] rfl rfl ?_
        refine v_region ?_
        refine l_val rfl (o_move rfl) ?_
        refine l_val rfl (o_subi rfl rfl ?_) ?_
        · omega
        refine l_val rfl (o_assign rfl) ?_
        refine l_nil ?_
        refine kt_norm ?_
        refine ⟨(j - 1, swapE cur j (j - 1)), ⟨by omega, by omega, hM.trans (by have hms := Mut.swap (l := cur) (j := j - 1) (by omega) (by rw [show j - 1 + 1 = j by omega]; omega) (a := a) (b := b) (by omega) (by omega); rwa [show j - 1 + 1 = j by omega] at hms), hI.step (by omega) (by omega) (by omega) (by omega)⟩, (by show j - 1 < j; omega), le_app (And.intro (congrArg (fun q => some (Value.int .i64 q)) (by omega)) (True.intro)) [8, 0, 1, 2, 3] rfl (And.intro (congrArg some (own_congr rfl (flat_swap (by omega) (by omega)))) (True.intro)) [] rfl⟩
      · skip
        refine d_val (fun _ => rfl) rfl rfl (fun _ => o_pickT rfl rfl) ?_
        refine d_nil (fun σ => ?_)
        refine l_nil ?_
        refine kt_norm ?_
        refine v_condF rfl ?_
        refine v_exit ?_
        refine kt_exit ?_
        refine kt_exit ?_
        refine kb_eq ?_
        refine kb_norm ?_
        refine kt_norm ?_
        refine v_sel [8, 0, 1, 2, 3, 22, 23, 24, 25, 26, 27, 28, 29, 30, 31, 32, 33] [1000] rfl rfl ?_
        refine v_region ?_
        refine l_val rfl (o_move rfl) ?_
        refine l_val rfl (o_addi rfl rfl ?_) ?_
        · omega
        refine l_val rfl (o_assign rfl) ?_
        refine l_nil ?_
        refine kt_norm ?_
        refine ⟨(i + 1, cur), ⟨by omega, .inl (by omega), hM, hI.done fun ha => by omega⟩, (by show b + 1 - (i + 1) < b + 1 - i; omega), le_app (And.intro rfl (True.intro)) [0, 1, 2, 3] rfl (And.intro rfl (True.intro)) [] rfl⟩
    · skip
      refine d_val (fun _ => rfl) rfl rfl (fun _ => o_move rfl) ?_
      refine d_no (fun _ => rfl) ?_
      refine d_no (fun _ => rfl) ?_
      refine d_no (fun _ => rfl) ?_
      refine d_no (fun _ => rfl) ?_
      refine d_no (fun _ => rfl) ?_
      refine d_no (fun _ => rfl) ?_
      refine d_no (fun _ => rfl) ?_
      refine d_no (fun _ => rfl) ?_
      refine d_no (fun _ => rfl) ?_
      refine d_no (fun _ => rfl) ?_
      refine d_no (fun _ => rfl) ?_
      refine d_no (fun _ => rfl) ?_
      refine d_val (fun _ => rfl) rfl rfl (fun _ => o_pickF rfl rfl) ?_
      refine d_nil (fun σ => ?_)
      refine l_nil ?_
      refine kt_norm ?_
      refine v_condF rfl ?_
      refine v_exit ?_
      refine kt_exit ?_
      refine kt_exit ?_
      refine kb_eq ?_
      refine kb_norm ?_
      refine kt_norm ?_
      refine v_sel [8, 0, 1, 2, 3, 22, 23, 24, 25, 26, 27, 28, 29, 30, 31, 32, 33] [1000] rfl rfl ?_
      refine v_region ?_
      refine l_val rfl (o_move rfl) ?_
      refine l_val rfl (o_addi rfl rfl ?_) ?_
      · omega
      refine l_val rfl (o_assign rfl) ?_
      refine l_nil ?_
      refine kt_norm ?_
      refine ⟨(i + 1, cur), ⟨by omega, .inl (by omega), hM, hI.done fun ha => by omega⟩, (by show b + 1 - (i + 1) < b + 1 - i; omega), le_app (And.intro rfl (True.intro)) [0, 1, 2, 3] rfl (And.intro rfl (True.intro)) [] rfl⟩
  · skip
    refine l_nil ?_
    refine kt_norm ?_
    refine v_condF rfl ?_
    refine v_exit ?_
    refine kt_exit ?_
    refine kt_exit ?_
    refine kb_eq ?_
    refine ⟨[], ResAll.nil, ?_⟩
    exact ⟨cur, ⟨hM, fun p q hp hq hqb => hS p q hp hq (by omega)⟩, rfl⟩
end Go.Proofs.Ytaijclimdfchfaa
