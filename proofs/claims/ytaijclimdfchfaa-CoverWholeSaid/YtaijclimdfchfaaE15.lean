import Derived.Test.YtaijclimdfchfaaE14
/- A merge of two sorted stretches, in place. Conditions: none. -/
namespace Go.Proofs.Ytaijclimdfchfaa
open Go.Proofs Go.RowKit Go.Shelf

/-! ### one element goes to its place -/
theorem swapE_comm {l : List EdgeT} {i j : Nat} (hi : i < l.length) (hj : j < l.length) : swapE l i j = swapE l j i := by
  refine ext_getD (by simp [swapE]) fun q _ => ?_
  rw [swapE_getD hi hj, swapE_getD hj hi]
  by_cases h1 : q = j
  · by_cases h2 : q = i
    · subst h1; subst h2; rfl
    · rw [if_pos h1, if_neg h2, if_pos h1]
  · rw [if_neg h1, if_neg h1]
/-- the a-th element has gone to place k -/
structure InsL (l : List EdgeT) (a k : Nat) (l' : List EdgeT) : Prop where
  len : l'.length = l.length
  get : ∀ q, l'.getD q dE = if a ≤ q ∧ q < k then l.getD (q + 1) dE else if q = k then l.getD a dE else l.getD q dE
theorem InsL.start (l : List EdgeT) (a : Nat) : InsL l a a l := ⟨rfl, fun q => by
  rw [if_neg (by omega)]
  split
  · rename_i h; rw [h]
  · rfl⟩
theorem InsL.step {l l' : List EdgeT} {a k : Nat} (h : InsL l a k l') (ha : a ≤ k) (hk : k + 1 < l.length) : InsL l a (k + 1) (swapE l' k (k + 1)) := by
  have hl := h.len
  refine ⟨(swapE_len _ _ _).trans hl, fun q => ?_⟩
  rw [swapE_getD (by omega) (by omega), h.get, h.get, h.get]
  (repeat' split) <;> first | (exfalso; omega) | rfl | (congr 1; omega)
theorem InsL.mut {l l' : List EdgeT} {a b k : Nat} (h : InsL l a k l') (hM : Mut a b l l') (ha : a ≤ k) (hk : k + 1 < l.length) (hkb : k + 2 ≤ b) (hlt : (l.getD (k + 1) dE).fr < (l.getD a dE).fr) : Mut a b l (swapE l' k (k + 1)) := by
  have hl := h.len
  rw [swapE_comm (by omega) (by omega)]
  refine hM.trans (Mut.swap (by omega) ?_ ha hkb)
  rw [h.get, h.get, if_neg (by omega), if_pos rfl, if_neg (by omega), if_neg (by omega)]
  omega
theorem InsL.srt {l l' : List EdgeT} {a b i : Nat} (h : InsL l a (i - 1) l') (ha : a + 1 ≤ i) (hib : i ≤ b) (hs : SrtOn l (a + 1) b) (h1 : ∀ q, a + 1 ≤ q → q < i → (l.getD q dE).fr < (l.getD a dE).fr) (h2 : ∀ q, i ≤ q → q < b → (l.getD a dE).fr ≤ (l.getD q dE).fr) : SrtOn l' a b := fun p q hp hq hb => by
  rw [h.get, h.get]
  by_cases hp1 : a ≤ p ∧ p < i - 1
  · rw [if_pos hp1]
    by_cases hq1 : a ≤ q ∧ q < i - 1
    · rw [if_pos hq1]; exact hs _ _ (by omega) (by omega) (by omega)
    · rw [if_neg hq1]
      by_cases hq2 : q = i - 1
      · rw [if_pos hq2]; have := h1 (p + 1) (by omega) (by omega); omega
      · rw [if_neg hq2]
        have := h1 (p + 1) (by omega) (by omega); have := h2 q (by omega) hb; omega
  · rw [if_neg hp1]
    rw [if_neg (show ¬ (a ≤ q ∧ q < i - 1) by omega), if_neg (show ¬ q = i - 1 by omega)]
    by_cases hp2 : p = i - 1
    · rw [if_pos hp2]; exact h2 q (by omega) hb
    · rw [if_neg hp2]; exact hs p q (by omega) hq hb
/-- the m-th element has gone back to place k -/
structure InsB (l : List EdgeT) (m k : Nat) (l' : List EdgeT) : Prop where
  len : l'.length = l.length
  get : ∀ q, l'.getD q dE = if k < q ∧ q ≤ m then l.getD (q - 1) dE else if q = k then l.getD m dE else l.getD q dE
theorem InsB.start (l : List EdgeT) (m : Nat) : InsB l m m l := ⟨rfl, fun q => by
  rw [if_neg (by omega)]
  split
  · rename_i h; rw [h]
  · rfl⟩
theorem InsB.step {l l' : List EdgeT} {m k : Nat} (h : InsB l m k l') (hk : k ≤ m) (h0 : 0 < k) (hm : m < l.length) : InsB l m (k - 1) (swapE l' k (k - 1)) := by
  have hl := h.len
  refine ⟨(swapE_len _ _ _).trans hl, fun q => ?_⟩
  rw [swapE_getD (by omega) (by omega), h.get, h.get, h.get]
  (repeat' split) <;> first | (exfalso; omega) | rfl | (congr 1; omega)
theorem InsB.mut {l l' : List EdgeT} {a b m k : Nat} (h : InsB l m k l') (hM : Mut a b l l') (hk : k ≤ m) (h0 : a < k) (hm : m < l.length) (hmb : m < b) (hlt : (l.getD m dE).fr < (l.getD (k - 1) dE).fr) : Mut a b l (swapE l' k (k - 1)) := by
  have hl := h.len
  have := Mut.swap (l := l') (j := k - 1) (by omega) (by
    rw [show k - 1 + 1 = k by omega, h.get, h.get, if_neg (by omega), if_neg (by omega), if_neg (by omega), if_pos rfl]
    omega) (a := a) (b := b) (by omega) (by omega)
  rw [show k - 1 + 1 = k by omega] at this
  exact hM.trans this
theorem InsB.srt {l l' : List EdgeT} {a b m i : Nat} (h : InsB l m i l') (hi : a ≤ i) (him : i ≤ m) (hb : b = m + 1) (hs : SrtOn l a m) (h1 : ∀ q, a ≤ q → q < i → (l.getD q dE).fr ≤ (l.getD m dE).fr) (h2 : ∀ q, i ≤ q → q < m → (l.getD m dE).fr < (l.getD q dE).fr) : SrtOn l' a b := fun p q hp hq hqb => by
  rw [h.get, h.get]
  by_cases hq1 : i < q ∧ q ≤ m
  · rw [if_pos hq1]
    by_cases hp1 : i < p ∧ p ≤ m
    · rw [if_pos hp1]; exact hs _ _ (by omega) (by omega) (by omega)
    · rw [if_neg hp1]
      by_cases hp2 : p = i
      · rw [if_pos hp2]; have := h2 (q - 1) (by omega) (by omega); omega
      · rw [if_neg hp2]
        have := h1 p hp (by omega); have := h2 (q - 1) (by omega) (by omega); omega
  · rw [if_neg hq1, if_neg (show ¬ (i < p ∧ p ≤ m) by omega), if_neg (show ¬ p = i by omega)]
    by_cases hq2 : q = i
    · rw [if_pos hq2]; exact h1 p hp (by omega)
    · rw [if_neg hq2]; exact hs p q hp hq (by omega)

/-! ### a merge, by halves -/
theorem cut3 {l : List EdgeT} {a b : Nat} (hab : a ≤ b) : l = l.take a ++ (l.take b).drop a ++ l.drop b := by
  have h1 : l.take a ++ (l.take b).drop a = l.take b := by
    have := List.take_append_drop a (l.take b)
    rwa [List.take_take, Nat.min_eq_left hab] at this
  rw [h1, List.take_append_drop]
theorem take_getD {l l' : List EdgeT} {a : Nat} (hl : l'.length = l.length) (h : ∀ i, i < a → l'.getD i dE = l.getD i dE) : l'.take a = l.take a := by
  refine ext_getD (by simp [hl]) fun i hi => ?_
  have hi' : i < a := by rw [List.length_take] at hi; omega
  have := h i hi'
  rw [List.getD_eq_getElem?_getD, List.getD_eq_getElem?_getD] at this ⊢
  rw [List.getElem?_take_of_lt hi', List.getElem?_take_of_lt hi']
  exact this
theorem drop_getD {l l' : List EdgeT} {b : Nat} (hl : l'.length = l.length) (h : ∀ i, b ≤ i → l'.getD i dE = l.getD i dE) : l'.drop b = l.drop b := by
  refine ext_getD (by simp [hl]) fun i hi => ?_
  have := h (b + i) (by omega)
  rw [List.getD_eq_getElem?_getD, List.getD_eq_getElem?_getD] at this ⊢
  rw [List.getElem?_drop, List.getElem?_drop]
  exact this
theorem seg_get {l : List EdgeT} {a b i : Nat} (hi : a + i < b) : ((l.take b).drop a)[i]? = l[a + i]? := by
  rw [List.getElem?_drop, List.getElem?_take_of_lt hi]
/-- what stands there now stood there ahead -/
theorem Mut.src {a b : Nat} {l l' : List EdgeT} (h : Mut a b l l') (hab : a ≤ b) (hb : b ≤ l.length) {q : Nat} (hq : a ≤ q) (hqb : q < b) : ∃ p, a ≤ p ∧ p < b ∧ l'.getD q dE = l.getD p dE := by
  have hl := h.st.len
  have hs : StEq ((l.take b).drop a) ((l'.take b).drop a) := by
    refine StEq.seg (A := l.take a) (B := l.drop b) ?_
    rw [← cut3 hab, ← take_getD hl fun i hi => h.out i (.inl hi), ← drop_getD hl fun i hi => h.out i (.inr hi), ← cut3 hab]
    exact h.st
  have hm : l'.getD q dE ∈ (l'.take b).drop a := by
    refine List.mem_iff_getElem?.2 ⟨q - a, ?_⟩
    rw [seg_get (by omega), show a + (q - a) = q by omega, List.getD_eq_getElem?_getD, List.getElem?_eq_getElem (by omega)]; rfl
  obtain ⟨i, hi⟩ := List.mem_iff_getElem?.1 (hs.mem hm)
  have hib : a + i < b := by
    have := (List.getElem?_eq_some_iff.1 hi).1
    simp at this; omega
  rw [seg_get hib] at hi
  exact ⟨a + i, by omega, hib, by rw [List.getD_eq_getElem?_getD, List.getD_eq_getElem?_getD] at *; rw [hi]; simp⟩
theorem RotQ.mut {l l' : List EdgeT} {s m e a b : Nat} (h : RotQ l s m e l') (hs : s ≤ m) (hm : m ≤ e) (he : e ≤ l.length) (ha : a ≤ s) (hb : e ≤ b) (hlt : ∀ p q, s ≤ p → p < m → m ≤ q → q < e → (l.getD q dE).fr < (l.getD p dE).fr) : Mut a b l l' := by
  refine ⟨?_, fun i hi => by rw [h.get]; unfold RotF; rw [if_neg (by omega), if_neg (by omega)]⟩
  have hl := h.len
  have e1 : l = l.take s ++ ((l.take m).drop s ++ (l.take e).drop m) ++ l.drop e := by
    have h1 := cut3 (l := l.take e) (a := s) (b := m) hs
    rw [List.take_take, List.take_take, Nat.min_eq_left (by omega), Nat.min_eq_left hm] at h1
    rw [← List.append_assoc, ← h1, List.take_append_drop]
  have e2 : l' = l.take s ++ ((l.take e).drop m ++ (l.take m).drop s) ++ l.drop e := by
    refine ext_getD (by simp; omega) fun i hi => ?_
    have l1 : (l.take s).length = s := by rw [List.length_take]; omega
    have l2 : ((l.take e).drop m).length = e - m := by simp; omega
    have l3 : ((l.take m).drop s).length = m - s := by simp; omega
    have hil : i < l.length := by simp at hi; omega
    rw [h.get]
    unfold RotF
    simp only [List.getD_eq_getElem?_getD, List.append_assoc]
    by_cases c1 : i < s
    · rw [if_neg (by omega), if_neg (by omega), List.getElem?_append_left (by omega), List.getElem?_take_of_lt c1]
    · rw [List.getElem?_append_right (by omega), l1]
      by_cases c2 : i < s + (e - m)
      · rw [if_pos (by omega), List.getElem?_append_left (by omega), seg_get (by omega)]
        congr 2; omega
      · rw [if_neg (by omega), List.getElem?_append_right (by omega), l2]
        by_cases c3 : i < e
        · rw [if_pos (by omega), List.getElem?_append_left (by omega), seg_get (by omega)]
          congr 2; omega
        · rw [if_neg (by omega), List.getElem?_append_right (by omega), l3, List.getElem?_drop]
          congr 2; omega
  rw [e2]
  conv => lhs; rw [e1]
  refine StEq.rot _ _ fun x hx y hy => ?_
  obtain ⟨i, hi⟩ := List.mem_iff_getElem?.1 hx
  obtain ⟨j, hj⟩ := List.mem_iff_getElem?.1 hy
  have hi1 := (List.getElem?_eq_some_iff.1 hi).1
  have hj1 := (List.getElem?_eq_some_iff.1 hj).1
  simp at hi1 hj1
  rw [seg_get (by omega)] at hi
  rw [seg_get (by omega)] at hj
  have := hlt (s + i) (m + j) (by omega) (by omega) (by omega) (by omega)
  rw [List.getD_eq_getElem?_getD, List.getD_eq_getElem?_getD, hi, hj] at this
  simp at this
  omega
theorem RotQ.id {l : List EdgeT} {s m e : Nat} (h : ¬ (s < m ∧ m < e)) (hs : s ≤ m) (hm : m ≤ e) : RotQ l s m e l := ⟨rfl, fun q => by
  unfold RotF
  (repeat' split) <;> first | (congr 1; omega) | rfl | (exfalso; omega)⟩
theorem RotQ.lo {l l1 : List EdgeT} {s m e : Nat} (h : RotQ l s m e l1) {q : Nat} (hq : q < s) : l1.getD q dE = l.getD q dE := by
  rw [h.get]; unfold RotF; rw [if_neg (by omega), if_neg (by omega)]
theorem RotQ.hi {l l1 : List EdgeT} {s m e : Nat} (h : RotQ l s m e l1) (hs : s ≤ m) (hm : m ≤ e) {q : Nat} (hq : e ≤ q) : l1.getD q dE = l.getD q dE := by
  rw [h.get]; unfold RotF; rw [if_neg (by omega), if_neg (by omega)]
theorem RotQ.m1 {l l1 : List EdgeT} {s m e : Nat} (h : RotQ l s m e l1) {q : Nat} (hs : s ≤ m) (hq : s ≤ q) (hq2 : q < s + (e - m)) : l1.getD q dE = l.getD (q + (m - s)) dE := by
  rw [h.get]; unfold RotF; rw [if_pos (by omega)]
theorem RotQ.m2 {l l1 : List EdgeT} {s m e : Nat} (h : RotQ l s m e l1) {q : Nat} (hq : s + (e - m) ≤ q) (hq2 : q < e) : l1.getD q dE = l.getD (q - (e - m)) dE := by
  rw [h.get]; unfold RotF; rw [if_neg (by omega), if_pos (by omega)]
/-- the search has ended: s from the left one, e from the right one -/
structure CutQ (l : List EdgeT) (a m b s e mid : Nat) : Prop where
  as_ : a ≤ s
  sm : s ≤ m
  me : m ≤ e
  eb : e ≤ b
  bl : b ≤ l.length
  sum : s + (e - m) = mid
  s1 : SrtOn l a m
  s2 : SrtOn l m b
  h1 : ∀ p q, a ≤ p → p < s → e ≤ q → q < b → (l.getD p dE).fr ≤ (l.getD q dE).fr
  h2 : ∀ p q, s ≤ p → p < m → m ≤ q → q < e → (l.getD q dE).fr < (l.getD p dE).fr
theorem CutQ.rot {l l1 : List EdgeT} {a m b s e mid : Nat} (c : CutQ l a m b s e mid) (h : RotQ l s m e l1) : Mut a b l l1 := h.mut c.sm c.me (by have := c.eb; have := c.bl; omega) c.as_ c.eb c.h2
theorem CutQ.p1 {l l1 : List EdgeT} {a m b s e mid : Nat} (c : CutQ l a m b s e mid) (h : RotQ l s m e l1) : SrtOn l1 a s := fun p q hp hq hs => by
  rw [h.lo (by omega), h.lo hs]; exact c.s1 p q hp hq (by have := c.sm; omega)
theorem CutQ.p2 {l l1 : List EdgeT} {a m b s e mid : Nat} (c : CutQ l a m b s e mid) (h : RotQ l s m e l1) : SrtOn l1 s mid := fun p q hp hq hs => by
  have := c.sum; have := c.sm; have := c.me; have := c.eb
  rw [h.m1 c.sm hp (by omega), h.m1 c.sm (by omega) (by omega)]; exact c.s2 _ _ (by omega) (by omega) (by omega)
theorem CutQ.p3 {l l1 : List EdgeT} {a m b s e mid : Nat} (c : CutQ l a m b s e mid) (h : RotQ l s m e l1) : SrtOn l1 mid e := fun p q hp hq hs => by
  have := c.sum; have := c.sm; have := c.me; have := c.as_
  rw [h.m2 (by omega) (by omega), h.m2 (by omega) hs]; exact c.s1 _ _ (by omega) (by omega) (by omega)
theorem CutQ.p4 {l l1 : List EdgeT} {a m b s e mid : Nat} (c : CutQ l a m b s e mid) (h : RotQ l s m e l1) : SrtOn l1 e b := fun p q hp hq hs => by
  have := c.me
  rw [h.hi c.sm c.me hp, h.hi c.sm c.me (by omega)]; exact c.s2 _ _ (by omega) hq hs
theorem CutQ.cross {l l1 : List EdgeT} {a m b s e mid : Nat} (c : CutQ l a m b s e mid) (h : RotQ l s m e l1) {p q : Nat} (hp : a ≤ p) (hpm : p < mid) (hq : mid ≤ q) (hqb : q < b) : (l1.getD p dE).fr ≤ (l1.getD q dE).fr := by
  have := c.sum; have := c.sm; have := c.me; have := c.eb; have := c.as_
  by_cases c1 : p < s
  · rw [h.lo c1]
    by_cases c2 : q < e
    · rw [h.m2 (by omega) c2]; exact c.s1 _ _ hp (by omega) (by omega)
    · rw [h.hi c.sm c.me (by omega)]; exact c.h1 _ _ hp c1 (by omega) hqb
  · rw [h.m1 c.sm (by omega) (by omega)]
    by_cases c2 : q < e
    · rw [h.m2 (by omega) c2]; exact Int.le_of_lt (c.h2 _ _ (by omega) (by omega) (by omega) (by omega))
    · rw [h.hi c.sm c.me (by omega)]; exact c.s2 _ _ (by omega) (by omega) hqb
theorem CutQ.done {l l1 l2 l3 : List EdgeT} {a m b s e mid : Nat} (c : CutQ l a m b s e mid) (h : RotQ l s m e l1) (h2 : SrtQ l1 a mid l2) (h3 : SrtQ l2 mid b l3) : SrtQ l a b l3 := by
  have := c.sum; have := c.sm; have := c.me; have := c.eb; have := c.as_; have := c.bl
  have hl1 := h.len
  have hl2 := h2.mut_.st.len
  refine ⟨(c.rot h).trans ((h2.mut_.wide (Nat.le_refl _) (by omega)).trans (h3.mut_.wide (by omega) (Nat.le_refl _))), fun p q hp hq hb => ?_⟩
  by_cases c1 : mid ≤ p
  · exact h3.srt p q c1 hq hb
  · rw [h3.mut_.out p (.inl (by omega))]
    by_cases c2 : q < mid
    · rw [h3.mut_.out q (.inl c2)]; exact h2.srt p q hp hq c2
    · obtain ⟨x, hx1, hx2, hx⟩ := h2.mut_.src (by omega) (by omega) hp (show p < mid by omega)
      obtain ⟨y, hy1, hy2, hy⟩ := h3.mut_.src (by omega) (by omega) (show mid ≤ q by omega) hb
      rw [hx, hy, h2.mut_.out y (.inr hy1)]
      exact c.cross h hx1 hx2 hy1 hy2
/-- the first half, where there is nothing to merge -/
theorem SrtQ.same {l : List EdgeT} {a b m : Nat} (h1 : SrtOn l a m) (h2 : SrtOn l m b) (h : ¬ (a < m ∧ m < b)) : SrtQ l a b l := ⟨Mut.refl _ _ _, fun p q hp hq hb => by
  by_cases c : q < m
  · exact h1 p q hp hq c
  · exact h2 p q (by omega) hq hb⟩
theorem cut_of {l : List EdgeT} {a m b s lo hi mid : Nat} (ham : a < m) (hmb : m < b) (hbl : b ≤ l.length) (hmid : mid = (a + b) / 2) (hlh : (mid < m ∧ lo = mid + m - b ∧ hi = mid) ∨ (m ≤ mid ∧ lo = a ∧ hi = m)) (h1 : lo ≤ s) (h2 : s ≤ hi) (hs1 : SrtOn l a m) (hs2 : SrtOn l m b)
    (hA : ∀ c, lo ≤ c → c < s → (l.getD c dE).fr ≤ (l.getD (mid + m - 1 - c) dE).fr) (hB : ∀ c, s ≤ c → c < hi → (l.getD (mid + m - 1 - c) dE).fr < (l.getD c dE).fr) : CutQ l a m b s (mid + m - s) mid := by
  refine ⟨by omega, by omega, by omega, by omega, hbl, by omega, hs1, hs2, fun p q hp hps hq hqb => ?_, fun p q hp hpm hq hqe => ?_⟩
  · have h3 := hA (s - 1) (by omega) (by omega)
    rw [show mid + m - 1 - (s - 1) = mid + m - s by omega] at h3
    have h4 : (l.getD p dE).fr ≤ (l.getD (s - 1) dE).fr := by
      by_cases c : p = s - 1
      · rw [c]; exact Int.le_refl _
      · exact hs1 p (s - 1) hp (by omega) (by omega)
    have h5 : (l.getD (mid + m - s) dE).fr ≤ (l.getD q dE).fr := by
      by_cases c : q = mid + m - s
      · rw [c]; exact Int.le_refl _
      · exact hs2 _ q (by omega) (by omega) hqb
    omega
  · have h3 := hB s (Nat.le_refl _) (by omega)
    have h4 : (l.getD s dE).fr ≤ (l.getD p dE).fr := by
      by_cases c : p = s
      · rw [c]; exact Int.le_refl _
      · exact hs1 s p (by omega) (by omega) hpm
    have h5 : (l.getD q dE).fr ≤ (l.getD (mid + m - 1 - s) dE).fr := by
      by_cases c : q = mid + m - 1 - s
      · rw [c]; exact Int.le_refl _
      · exact hs2 q _ hq (by omega) (by omega)
    omega

set_option maxHeartbeats 2000000 in
theorem a_SymStep (w : World) (v : Value) (l : List EdgeT) (a m b : Nat) (ih : ∀ (w : World) (v : Value) (l : List EdgeT) (a' m' b' : Nat), b' - a' < b - a → l.length ≤ 1099511627776 → a' < m' → m' < b' → b' ≤ l.length → (Hp.own v 90 7 l.length (l.flatMap eE)).ok w → (∀ e ∈ l, FrOk e) → SrtOn l a' m' → SrtOn l m' b' → Calls Try.prog 95 #[v, .int .i64 ((a' : Nat) : Int), .int .i64 ((m' : Nat) : Int), .int .i64 ((b' : Nat) : Int), .func (.func 63) #[] #[]] w fun e w' => (∃ y, e = .returned y) ∧ ∃ l', SrtQ l a' b' l' ∧ Chg (fun b => v.ownBlock = some b) w w' ∧ (Hp.own v 90 7 l.length (l'.flatMap eE)).ok w') (hl : l.length ≤ 1099511627776) (ham : a < m) (hmb : m < b) (hb : b ≤ l.length) (hok : (Hp.own v 90 7 l.length (l.flatMap eE)).ok w) (hfr : ∀ e ∈ l, FrOk e) (hs1 : SrtOn l a m) (hs2 : SrtOn l m b) : Calls Try.prog 95 #[v, .int .i64 ((a : Nat) : Int), .int .i64 ((m : Nat) : Int), .int .i64 ((b : Nat) : Int), .func (.func 63) #[] #[]] w fun e w' => (∃ y, e = .returned y) ∧ ∃ l', SrtQ l a b l' ∧ Chg (fun b => v.ownBlock = some b) w w' ∧ (Hp.own v 90 7 l.length (l'.flatMap eE)).ok w' := by
  have hV := rowV_own hok
  refine calls_mutX (args := [v, .int .i64 ((a : Nat) : Int), .int .i64 ((m : Nat) : Int), .int .i64 ((b : Nat) : Int), .func (.func 63) #[] #[]]) v (fun l' => SrtQ l a b l') (fun l' => l'.flatMap eE) Try.func95 rfl Try.ntmps95 Try.results95 rfl hok ?_
  refine v_seq ?_
  refine v_seq ?_
  refine v_region ?_
  refine l_val rfl (o_move rfl) ?_
  refine l_val rfl (o_move rfl) ?_
  refine l_val rfl (o_subi rfl rfl ?_) ?_
  · omega
  refine l_split rfl (o_eql rfl rfl) (fun q1 => ?_) (fun q1 => ?_)
  · skip
    refine l_nil ?_
    refine kt_norm ?_
    refine v_condT rfl ?_
    refine v_seq ?_
    refine v_region ?_
    refine l_val rfl (o_move rfl) ?_
    refine l_val rfl (o_assign rfl) ?_
    refine l_nil ?_
    refine kt_norm ?_
    refine v_sel [0, 1, 3, 4, 10] [1000] rfl rfl ?_
    refine v_seq ?_
    refine v_region ?_
    refine l_val rfl (o_move rfl) ?_
    refine l_val rfl (o_assign rfl) ?_
    refine l_nil ?_
    refine kt_norm ?_
    refine v_seq ?_
    refine v_block ?_
    refine v_loopS (α := Nat × Nat) (fun ⟨i, j⟩ => [(10, .int .i64 (i : Int)), (11, .int .i64 (j : Int))]) (fun ⟨i, j⟩ => [])  (fun ⟨i, j⟩ => m ≤ i ∧ i ≤ j ∧ j ≤ b ∧ (∀ q, m ≤ q → q < i → (l.getD q dE).fr < (l.getD a dE).fr) ∧ (∀ q, j ≤ q → q < b → (l.getD a dE).fr ≤ (l.getD q dE).fr)) (fun ⟨i, j⟩ => j - i) (m, b) [0, 1, 4] [1000] ⟨Nat.le_refl _, by omega, Nat.le_refl _, fun q h1 h2 => by omega, fun q h1 h2 => by omega⟩  (And.intro rfl (And.intro rfl (True.intro))) rfl (True.intro) rfl ?_
    rintro ⟨i, j⟩ ⟨hmi, hij, hjb, hA, hB⟩
    refine v_seq ?_
    refine v_seq ?_
    refine v_region ?_
    refine l_val rfl (o_move rfl) ?_
    refine l_val rfl (o_move rfl) ?_
    refine l_split rfl (o_lss rfl rfl) (fun q2 => ?_) (fun q2 => ?_)
    · skip
      refine l_nil ?_
      refine kt_norm ?_
      refine v_condT rfl ?_
      refine v_skip ?_
      refine kt_norm ?_
      refine v_block ?_
      refine v_seq ?_
      refine v_region ?_
      refine l_val rfl (o_move rfl) ?_
      refine l_val rfl (o_move rfl) ?_
      refine l_val rfl (o_addi rfl rfl ?_) ?_
      · omega
      refine l_val rfl (o_convu rfl) ?_
      refine l_val rfl (o_shr (n := 1) (p := 2) rfl rfl (by decide) rfl (by decide)) ?_
      refine l_val rfl (o_convi rfl ?_) ?_
      · omega
      refine l_val rfl (o_assign rfl) ?_
      refine l_nil ?_
      refine kt_norm ?_
      refine v_sel [10, 11, 0, 1, 4, 12] [1000] rfl rfl ?_
      refine v_seq ?_
      refine v_drawZ [[], [], [], [], [1000], [], [], [], [1000], [], []] mixed ?_ (by kernel_rfl) (by kernel_rfl)
      refine d_val (fun _ => rfl) rfl rfl (fun _ => o_move rfl) ?_
      refine d_val (fun _ => rfl) rfl rfl (fun _ => o_move rfl) ?_
      refine d_val (fun _ => rfl) rfl rfl (fun _ => o_move rfl) ?_
      refine d_val (fun _ => rfl) rfl rfl (fun _ => o_idx (((i + j) / 2)) rfl hV rfl (by first | rfl | omega) (by omega)) ?_
      refine d_val (fun _ => rfl) rfl rfl (fun _ => o_loadRE (c' := [_, _, _, _, _, _, _]) rfl (row_own (key := 1000) rfl) (el_flat eE_len dE l (((i + j) / 2)) (by omega)) rfl) ?_
      refine d_val (fun _ => rfl) rfl rfl (fun _ => o_move rfl) ?_
      refine d_val (fun _ => rfl) rfl rfl (fun _ => o_move rfl) ?_
      refine d_val (fun _ => rfl) rfl rfl (fun _ => o_idx (a) rfl hV rfl (by first | rfl | omega) (by omega)) ?_
      refine d_val (fun _ => rfl) rfl rfl (fun _ => o_loadRE (c' := [_, _, _, _, _, _, _]) rfl (row_own (key := 1000) rfl) (el_flat eE_len dE l (a) (by omega)) rfl) ?_
      refine d_ansv (vs := [_, _]) (fun _ => rfl) (fun _ => rfl) (fun _ => rfl) (a_CmpF (l.getD (((i + j) / 2)) dE) (l.getD (a) dE) (frOk_getD hfr (by omega)) (frOk_getD hfr (by omega))) ?_
      refine d_lss (fun _ => rfl) (fun _ => rfl) (fun _ => rfl) (fun q3 => ?_) (fun q3 => ?_)
      · skip
        refine d_nil (fun σ => ?_)
        refine l_nil ?_
        refine kt_norm ?_
        refine v_sel [10, 11, 0, 1, 4, 12, 50] [1000] rfl rfl ?_
        refine v_condT rfl ?_
        refine v_region ?_
        refine l_val rfl (o_move rfl) ?_
        refine l_val rfl (o_addi rfl rfl ?_) ?_
        · omega
        refine l_val rfl (o_assign rfl) ?_
        refine l_nil ?_
        refine kb_norm ?_
        refine kt_norm ?_
        refine ⟨(((i + j) / 2) + 1, j), ⟨by omega, by omega, hjb, fun q h1 h2 => by (by_cases c : q < i); exact hA q h1 c; (by_cases c2 : q = (i + j) / 2); (rw [c2]; omega); (have := hs2 q ((i + j) / 2) (by omega) (by omega) (by omega)); omega, hB⟩, (by show j - ((i + j) / 2 + 1) < j - i; omega), le_app (And.intro (congrArg (fun q => some (Value.int .i64 q)) (by omega)) (And.intro rfl (True.intro))) [0, 1, 4] rfl (True.intro) [1000] rfl⟩
      · skip
        refine d_nil (fun σ => ?_)
        refine l_nil ?_
        refine kt_norm ?_
        refine v_sel [10, 11, 0, 1, 4, 12, 50] [1000] rfl rfl ?_
        refine v_condF rfl ?_
        refine v_region ?_
        refine l_val rfl (o_move rfl) ?_
        refine l_val rfl (o_assign rfl) ?_
        refine l_nil ?_
        refine kb_norm ?_
        refine kt_norm ?_
        refine ⟨(i, ((i + j) / 2)), ⟨hmi, by omega, by omega, hA, fun q h1 h2 => by (by_cases c2 : q = (i + j) / 2); (rw [c2]; omega); (have := hs2 ((i + j) / 2) q (by omega) (by omega) h2); omega⟩, (by show (i + j) / 2 - i < j - i; omega), le_app (And.intro rfl (And.intro (congrArg (fun q => some (Value.int .i64 q)) (by omega)) (True.intro))) [0, 1, 4] rfl (True.intro) [1000] rfl⟩
    · skip
      refine l_nil ?_
      refine kt_norm ?_
      refine v_condF rfl ?_
      refine v_exit ?_
      refine kt_exit ?_
      refine kt_exit ?_
      refine kb_eq ?_
      refine kt_norm ?_
      refine v_seq ?_
      refine v_seq ?_
      refine v_region ?_
      obtain rfl : i = j := by omega
      refine l_val rfl (o_move rfl) ?_
      refine l_val rfl (o_assign rfl) ?_
      refine l_nil ?_
      refine kt_norm ?_
      refine v_sel [10, 0, 13] [1000] rfl rfl ?_
      refine v_block ?_
      refine v_loopS (α := Nat × List EdgeT) (fun ⟨k, cur⟩ => [(13, .int .i64 (k : Int))]) (fun ⟨k, cur⟩ => [(1000, Hp.own v 90 7 l.length (cur.flatMap eE))])  (fun ⟨k, cur⟩ => a ≤ k ∧ k + 1 ≤ i ∧ InsL l a k cur ∧ Mut a b l cur) (fun ⟨k, cur⟩ => i - k) (a, l) [10, 0] [] ⟨Nat.le_refl _, by omega, InsL.start l a, Mut.refl a b l⟩  (And.intro rfl (True.intro)) rfl (And.intro rfl (True.intro)) rfl ?_
      rintro ⟨k, cur⟩ ⟨hak, hki, hI, hM⟩
      have hcl : cur.length = l.length := hI.len
      refine v_seq ?_
      refine v_seq ?_
      refine v_region ?_
      refine l_val rfl (o_move rfl) ?_
      refine l_val rfl (o_move rfl) ?_
      refine l_val rfl (o_subi rfl rfl ?_) ?_
      · omega
      refine l_split rfl (o_lss rfl rfl) (fun q4 => ?_) (fun q4 => ?_)
      · skip
        refine l_nil ?_
        refine kt_norm ?_
        refine v_condT rfl ?_
        refine v_skip ?_
        refine kt_norm ?_
        refine v_seq ?_
        refine v_block ?_
        refine v_drawZ [[], [], [], [], [], [], [], [], [], [1000], [], [], [], [1000], [], [1000], [], [1000]] mixed ?_ (by kernel_rfl) (by kernel_rfl)
        refine d_val (fun _ => rfl) rfl rfl (fun _ => o_move rfl) ?_
        refine d_val (fun _ => rfl) rfl rfl (fun _ => o_move rfl) ?_
        refine d_val (fun _ => rfl) rfl rfl (fun _ => o_move rfl) ?_
        refine d_val (fun _ => rfl) rfl rfl (fun _ => o_move rfl) ?_
        refine d_val (fun _ => rfl) rfl rfl (fun _ => o_addi rfl rfl ?_) ?_
        · omega
        refine d_val (fun _ => rfl) rfl rfl (fun _ => o_move rfl) ?_
        refine d_val (fun _ => rfl) rfl rfl (fun _ => o_move rfl) ?_
        refine d_val (fun _ => rfl) rfl rfl (fun _ => o_addi rfl rfl ?_) ?_
        · omega
        refine d_val (fun _ => rfl) rfl rfl (fun _ => o_idx (k + 1) rfl hV rfl (by first | rfl | omega) (by omega)) ?_
        refine d_val (fun _ => rfl) rfl rfl (fun _ => o_loadRE (c' := [_, _, _, _, _, _, _]) rfl (row_own (key := 1000) rfl) (el_flat eE_len dE cur (k + 1) (by omega)) rfl) ?_
        refine d_val (fun _ => rfl) rfl rfl (fun _ => o_move rfl) ?_
        refine d_val (fun _ => rfl) rfl rfl (fun _ => o_move rfl) ?_
        refine d_val (fun _ => rfl) rfl rfl (fun _ => o_idx (k) rfl hV rfl (by first | rfl | omega) (by omega)) ?_
        refine d_val (fun _ => rfl) rfl rfl (fun _ => o_loadRE (c' := [_, _, _, _, _, _, _]) rfl (row_own (key := 1000) rfl) (el_flat eE_len dE cur (k) (by omega)) rfl) ?_
        refine d_val (fun _ => rfl) rfl rfl (fun _ => o_idx (k) rfl hV rfl (by first | rfl | omega) (by omega)) ?_
        refine d_store (fun _ => rfl) rfl rfl (fun _ => o_storeRE (key := 1000) (c := [_, _, _, _, _, _, _]) (by decide) rfl rfl rfl rfl rfl rfl (by omega)) ?_
        refine d_val (fun _ => rfl) rfl rfl (fun _ => o_idx (k + 1) rfl hV rfl (by first | rfl | omega) (by omega)) ?_
        refine d_store (fun _ => rfl) rfl rfl (fun _ => o_storeRE (key := 1000) (c := [_, _, _, _, _, _, _]) (by decide) rfl rfl rfl rfl rfl rfl (by omega)) ?_
        refine d_nil (fun σ => ?_)
        refine l_nil ?_
        refine kb_norm ?_
        refine kt_norm ?_
        refine v_sel [13, 10, 0] [1000] rfl rfl ?_
        refine v_region ?_
        refine l_val rfl (o_move rfl) ?_
        refine l_val rfl (o_addi rfl rfl ?_) ?_
        · omega
        refine l_val rfl (o_assign rfl) ?_
        refine l_nil ?_
        refine kt_norm ?_
        refine ⟨(k + 1, swapE cur k (k + 1)), ⟨by omega, by omega, hI.step hak (by omega), hI.mut hM hak (by omega) (by omega) (hA (k + 1) (by omega) (by omega))⟩, (by show i - (k + 1) < i - k; omega), le_app (And.intro rfl (True.intro)) [10, 0] rfl (And.intro (congrArg some (own_congr rfl (flat_swap (by omega) (by omega)))) (True.intro)) [] rfl⟩
      · skip
        refine l_nil ?_
        refine kt_norm ?_
        refine v_condF rfl ?_
        refine v_exit ?_
        refine kt_exit ?_
        refine kt_exit ?_
        refine kb_eq ?_
        refine kt_norm ?_
        refine v_sel [] [1000] rfl rfl ?_
        refine v_ret ?_
        refine kt_ret ?_
        refine ⟨[], ResAll.nil, ?_⟩
        first
          | exact ⟨cur, ⟨hM, InsL.srt (show InsL l a (i - 1) cur from (show k = i - 1 by omega) ▸ hI) (by omega) hjb (fun p q h1 h2 h3 => hs2 p q (by omega) h2 h3) (fun q h1 h2 => hA q (by omega) h2) hB⟩, rfl⟩
          | exact ⟨cur, ⟨hM, InsB.srt (show InsB l m i cur from (show k = i by omega) ▸ hI) hmi hjb (by omega) hs1 hA hB⟩, rfl⟩
          | exact ⟨_, hC.done hR hM1 hM2, rfl⟩
          | exact ⟨_, hC.done hR hM1 (SrtQ.same hsa2 hsb2 (by omega)), rfl⟩
  · skip
    refine l_nil ?_
    refine kt_norm ?_
    refine v_condF rfl ?_
    refine v_skip ?_
    refine kt_norm ?_
    refine v_seq ?_
    refine v_seq ?_
    refine v_region ?_
    refine l_val rfl (o_move rfl) ?_
    refine l_val rfl (o_move rfl) ?_
    refine l_val rfl (o_subi rfl rfl ?_) ?_
    · omega
    refine l_split rfl (o_eql rfl rfl) (fun q5 => ?_) (fun q5 => ?_)
    · skip
      refine l_nil ?_
      refine kt_norm ?_
      refine v_sel [0, 1, 2, 3, 4, 80] [1000] rfl rfl ?_
      refine v_condT rfl ?_
      refine v_seq ?_
      refine v_region ?_
      refine l_val rfl (o_move rfl) ?_
      refine l_val rfl (o_assign rfl) ?_
      refine l_nil ?_
      refine kt_norm ?_
      refine v_seq ?_
      refine v_region ?_
      refine l_val rfl (o_move rfl) ?_
      refine l_val rfl (o_assign rfl) ?_
      refine l_nil ?_
      refine kt_norm ?_
      refine v_seq ?_
      refine v_block ?_
      refine v_loopS (α := Nat × Nat) (fun ⟨i, j⟩ => [(14, .int .i64 (i : Int)), (15, .int .i64 (j : Int))]) (fun ⟨i, j⟩ => [])  (fun ⟨i, j⟩ => a ≤ i ∧ i ≤ j ∧ j ≤ m ∧ (∀ q, a ≤ q → q < i → (l.getD q dE).fr ≤ (l.getD m dE).fr) ∧ (∀ q, j ≤ q → q < m → (l.getD m dE).fr < (l.getD q dE).fr)) (fun ⟨i, j⟩ => j - i) (a, m) [0, 2, 4] [1000] ⟨Nat.le_refl _, by omega, Nat.le_refl _, fun q h1 h2 => by omega, fun q h1 h2 => by omega⟩  (And.intro rfl (And.intro rfl (True.intro))) rfl (True.intro) rfl ?_
      rintro ⟨i, j⟩ ⟨hmi, hij, hjb, hA, hB⟩
      refine v_seq ?_
      refine v_seq ?_
      refine v_region ?_
      refine l_val rfl (o_move rfl) ?_
      refine l_val rfl (o_move rfl) ?_
      refine l_split rfl (o_lss rfl rfl) (fun q6 => ?_) (fun q6 => ?_)
      · skip
        refine l_nil ?_
        refine kt_norm ?_
        refine v_condT rfl ?_
        refine v_skip ?_
        refine kt_norm ?_
        refine v_block ?_
        refine v_seq ?_
        refine v_region ?_
        refine l_val rfl (o_move rfl) ?_
        refine l_val rfl (o_move rfl) ?_
        refine l_val rfl (o_addi rfl rfl ?_) ?_
        · omega
        refine l_val rfl (o_convu rfl) ?_
        refine l_val rfl (o_shr (n := 1) (p := 2) rfl rfl (by decide) rfl (by decide)) ?_
        refine l_val rfl (o_convi rfl ?_) ?_
        · omega
        refine l_val rfl (o_assign rfl) ?_
        refine l_nil ?_
        refine kt_norm ?_
        refine v_sel [14, 15, 0, 2, 4, 16] [1000] rfl rfl ?_
        refine v_seq ?_
        refine v_drawZ [[], [], [], [], [1000], [], [], [], [1000], [], [], []] mixed ?_ (by kernel_rfl) (by kernel_rfl)
        refine d_val (fun _ => rfl) rfl rfl (fun _ => o_move rfl) ?_
        refine d_val (fun _ => rfl) rfl rfl (fun _ => o_move rfl) ?_
        refine d_val (fun _ => rfl) rfl rfl (fun _ => o_move rfl) ?_
        refine d_val (fun _ => rfl) rfl rfl (fun _ => o_idx (m) rfl hV rfl (by first | rfl | omega) (by omega)) ?_
        refine d_val (fun _ => rfl) rfl rfl (fun _ => o_loadRE (c' := [_, _, _, _, _, _, _]) rfl (row_own (key := 1000) rfl) (el_flat eE_len dE l (m) (by omega)) rfl) ?_
        refine d_val (fun _ => rfl) rfl rfl (fun _ => o_move rfl) ?_
        refine d_val (fun _ => rfl) rfl rfl (fun _ => o_move rfl) ?_
        refine d_val (fun _ => rfl) rfl rfl (fun _ => o_idx (((i + j) / 2)) rfl hV rfl (by first | rfl | omega) (by omega)) ?_
        refine d_val (fun _ => rfl) rfl rfl (fun _ => o_loadRE (c' := [_, _, _, _, _, _, _]) rfl (row_own (key := 1000) rfl) (el_flat eE_len dE l (((i + j) / 2)) (by omega)) rfl) ?_
        refine d_ansv (vs := [_, _]) (fun _ => rfl) (fun _ => rfl) (fun _ => rfl) (a_CmpF (l.getD (m) dE) (l.getD (((i + j) / 2)) dE) (frOk_getD hfr (by omega)) (frOk_getD hfr (by omega))) ?_
        refine d_lss (fun _ => rfl) (fun _ => rfl) (fun _ => rfl) (fun q7 => ?_) (fun q7 => ?_)
        · skip
          refine d_val (fun _ => rfl) rfl rfl (fun _ => o_not rfl rfl) ?_
          refine d_nil (fun σ => ?_)
          refine l_nil ?_
          refine kt_norm ?_
          refine v_sel [14, 15, 0, 2, 4, 16, 103] [1000] rfl rfl ?_
          refine v_condF rfl ?_
          refine v_region ?_
          refine l_val rfl (o_move rfl) ?_
          refine l_val rfl (o_assign rfl) ?_
          refine l_nil ?_
          refine kb_norm ?_
          refine kt_norm ?_
          refine ⟨(i, ((i + j) / 2)), ⟨hmi, by omega, by omega, hA, fun q h1 h2 => by (by_cases c : j ≤ q); exact hB q c h2; (by_cases c2 : q = (i + j) / 2); (rw [c2]; omega); (have := hs1 ((i + j) / 2) q (by omega) (by omega) h2); omega⟩, (by show (i + j) / 2 - i < j - i; omega), le_app (And.intro rfl (And.intro (congrArg (fun q => some (Value.int .i64 q)) (by omega)) (True.intro))) [0, 2, 4] rfl (True.intro) [1000] rfl⟩
        · skip
          refine d_val (fun _ => rfl) rfl rfl (fun _ => o_not rfl rfl) ?_
          refine d_nil (fun σ => ?_)
          refine l_nil ?_
          refine kt_norm ?_
          refine v_sel [14, 15, 0, 2, 4, 16, 103] [1000] rfl rfl ?_
          refine v_condT rfl ?_
          refine v_region ?_
          refine l_val rfl (o_move rfl) ?_
          refine l_val rfl (o_addi rfl rfl ?_) ?_
          · omega
          refine l_val rfl (o_assign rfl) ?_
          refine l_nil ?_
          refine kb_norm ?_
          refine kt_norm ?_
          refine ⟨(((i + j) / 2) + 1, j), ⟨by omega, by omega, hjb, fun q h1 h2 => by (by_cases c2 : q = (i + j) / 2); (rw [c2]; omega); (have := hs1 q ((i + j) / 2) h1 (by omega) (by omega)); omega, hB⟩, (by show j - ((i + j) / 2 + 1) < j - i; omega), le_app (And.intro (congrArg (fun q => some (Value.int .i64 q)) (by omega)) (And.intro rfl (True.intro))) [0, 2, 4] rfl (True.intro) [1000] rfl⟩
      · skip
        refine l_nil ?_
        refine kt_norm ?_
        refine v_condF rfl ?_
        refine v_exit ?_
        refine kt_exit ?_
        refine kt_exit ?_
        refine kb_eq ?_
        refine kt_norm ?_
        refine v_seq ?_
        refine v_seq ?_
        refine v_region ?_
        obtain rfl : i = j := by omega
        refine l_val rfl (o_move rfl) ?_
        refine l_val rfl (o_assign rfl) ?_
        refine l_nil ?_
        refine kt_norm ?_
        refine v_sel [14, 0, 17] [1000] rfl rfl ?_
        refine v_block ?_
        refine v_loopS (α := Nat × List EdgeT) (fun ⟨k, cur⟩ => [(17, .int .i64 (k : Int))]) (fun ⟨k, cur⟩ => [(1000, Hp.own v 90 7 l.length (cur.flatMap eE))])  (fun ⟨k, cur⟩ => i ≤ k ∧ k ≤ m ∧ InsB l m k cur ∧ Mut a b l cur) (fun ⟨k, cur⟩ => k) (m, l) [14, 0] [] ⟨by omega, Nat.le_refl _, InsB.start l m, Mut.refl a b l⟩  (And.intro rfl (True.intro)) rfl (And.intro rfl (True.intro)) rfl ?_
        rintro ⟨k, cur⟩ ⟨hik, hkm, hI, hM⟩
        have hcl : cur.length = l.length := hI.len
        refine v_seq ?_
        refine v_seq ?_
        refine v_region ?_
        refine l_val rfl (o_move rfl) ?_
        refine l_val rfl (o_move rfl) ?_
        refine l_split rfl (o_gtr rfl rfl) (fun q8 => ?_) (fun q8 => ?_)
        · skip
          refine l_nil ?_
          refine kt_norm ?_
          refine v_condT rfl ?_
          refine v_skip ?_
          refine kt_norm ?_
          refine v_seq ?_
          refine v_block ?_
          refine v_drawZ [[], [], [], [], [], [], [], [], [], [1000], [], [], [], [1000], [], [1000], [], [1000]] mixed ?_ (by kernel_rfl) (by kernel_rfl)
          refine d_val (fun _ => rfl) rfl rfl (fun _ => o_move rfl) ?_
          refine d_val (fun _ => rfl) rfl rfl (fun _ => o_move rfl) ?_
          refine d_val (fun _ => rfl) rfl rfl (fun _ => o_move rfl) ?_
          refine d_val (fun _ => rfl) rfl rfl (fun _ => o_move rfl) ?_
          refine d_val (fun _ => rfl) rfl rfl (fun _ => o_subi rfl rfl ?_) ?_
          · omega
          refine d_val (fun _ => rfl) rfl rfl (fun _ => o_move rfl) ?_
          refine d_val (fun _ => rfl) rfl rfl (fun _ => o_move rfl) ?_
          refine d_val (fun _ => rfl) rfl rfl (fun _ => o_subi rfl rfl ?_) ?_
          · omega
          refine d_val (fun _ => rfl) rfl rfl (fun _ => o_idx (k - 1) rfl hV rfl (by first | rfl | omega) (by omega)) ?_
          refine d_val (fun _ => rfl) rfl rfl (fun _ => o_loadRE (c' := [_, _, _, _, _, _, _]) rfl (row_own (key := 1000) rfl) (el_flat eE_len dE cur (k - 1) (by omega)) rfl) ?_
          refine d_val (fun _ => rfl) rfl rfl (fun _ => o_move rfl) ?_
          refine d_val (fun _ => rfl) rfl rfl (fun _ => o_move rfl) ?_
          refine d_val (fun _ => rfl) rfl rfl (fun _ => o_idx (k) rfl hV rfl (by first | rfl | omega) (by omega)) ?_
          refine d_val (fun _ => rfl) rfl rfl (fun _ => o_loadRE (c' := [_, _, _, _, _, _, _]) rfl (row_own (key := 1000) rfl) (el_flat eE_len dE cur (k) (by omega)) rfl) ?_
          refine d_val (fun _ => rfl) rfl rfl (fun _ => o_idx (k) rfl hV rfl (by first | rfl | omega) (by omega)) ?_
          refine d_store (fun _ => rfl) rfl rfl (fun _ => o_storeRE (key := 1000) (c := [_, _, _, _, _, _, _]) (by decide) rfl rfl rfl rfl rfl rfl (by omega)) ?_
          refine d_val (fun _ => rfl) rfl rfl (fun _ => o_idx (k - 1) rfl hV rfl (by first | rfl | omega) (by omega)) ?_
          refine d_store (fun _ => rfl) rfl rfl (fun _ => o_storeRE (key := 1000) (c := [_, _, _, _, _, _, _]) (by decide) rfl rfl rfl rfl rfl rfl (by omega)) ?_
          refine d_nil (fun σ => ?_)
          refine l_nil ?_
          refine kb_norm ?_
          refine kt_norm ?_
          refine v_sel [17, 14, 0] [1000] rfl rfl ?_
          refine v_region ?_
          refine l_val rfl (o_move rfl) ?_
          refine l_val rfl (o_subi rfl rfl ?_) ?_
          · omega
          refine l_val rfl (o_assign rfl) ?_
          refine l_nil ?_
          refine kt_norm ?_
          refine ⟨(k - 1, swapE cur k (k - 1)), ⟨by omega, by omega, hI.step hkm (by omega) (by omega), hI.mut hM hkm (by omega) (by omega) hmb (hB (k - 1) (by omega) (by omega))⟩, (by show k - 1 < k; omega), le_app (And.intro (congrArg (fun q => some (Value.int .i64 q)) (by omega)) (True.intro)) [14, 0] rfl (And.intro (congrArg some (own_congr rfl (flat_swap (by omega) (by omega)))) (True.intro)) [] rfl⟩
        · skip
          refine l_nil ?_
          refine kt_norm ?_
          refine v_condF rfl ?_
          refine v_exit ?_
          refine kt_exit ?_
          refine kt_exit ?_
          refine kb_eq ?_
          refine kt_norm ?_
          refine v_sel [] [1000] rfl rfl ?_
          refine v_ret ?_
          refine kt_ret ?_
          refine ⟨[], ResAll.nil, ?_⟩
          first
            | exact ⟨cur, ⟨hM, InsL.srt (show InsL l a (i - 1) cur from (show k = i - 1 by omega) ▸ hI) (by omega) hjb (fun p q h1 h2 h3 => hs2 p q (by omega) h2 h3) (fun q h1 h2 => hA q (by omega) h2) hB⟩, rfl⟩
            | exact ⟨cur, ⟨hM, InsB.srt (show InsB l m i cur from (show k = i by omega) ▸ hI) hmi hjb (by omega) hs1 hA hB⟩, rfl⟩
            | exact ⟨_, hC.done hR hM1 hM2, rfl⟩
            | exact ⟨_, hC.done hR hM1 (SrtQ.same hsa2 hsb2 (by omega)), rfl⟩
    · skip
      refine l_nil ?_
      refine kt_norm ?_
      refine v_sel [0, 1, 2, 3, 4, 80] [1000] rfl rfl ?_
      refine v_condF rfl ?_
      refine v_skip ?_
      refine kt_norm ?_
      refine v_seq ?_
      refine v_region ?_
      refine l_val rfl (o_move rfl) ?_
      refine l_val rfl (o_move rfl) ?_
      refine l_val rfl (o_addi rfl rfl ?_) ?_
      · omega
      refine l_val rfl (o_convu rfl) ?_
      refine l_val rfl (o_shr (n := 1) (p := 2) rfl rfl (by decide) rfl (by decide)) ?_
      refine l_val rfl (o_convi rfl ?_) ?_
      · omega
      refine l_val rfl (o_assign rfl) ?_
      refine l_nil ?_
      refine kt_norm ?_
      refine v_sel [0, 1, 2, 3, 4, 18] [1000] rfl rfl ?_
      refine v_seq ?_
      refine v_region ?_
      refine l_val rfl (o_move rfl) ?_
      refine l_val rfl (o_move rfl) ?_
      refine l_val rfl (o_addi rfl rfl ?_) ?_
      · omega
      refine l_val rfl (o_assign rfl) ?_
      refine l_nil ?_
      refine kt_norm ?_
      refine v_seq ?_
      refine v_region ?_
      refine l_val rfl (o_assign rfl) ?_
      refine l_val rfl (o_assign rfl) ?_
      refine l_nil ?_
      refine kt_norm ?_
      refine v_seq ?_
      refine v_seq ?_
      refine v_region ?_
      refine l_val rfl (o_move rfl) ?_
      refine l_val rfl (o_move rfl) ?_
      refine l_split rfl (o_gtr rfl rfl) (fun q9 => ?_) (fun q9 => ?_)
      · obtain ⟨lo, hlo⟩ : ∃ lo, lo = (a + b) / 2 + m - b := ⟨_, rfl⟩
        obtain ⟨hi, hhi⟩ : ∃ hi, hi = (a + b) / 2 := ⟨_, rfl⟩
        refine l_nil ?_
        refine kt_norm ?_
        refine v_sel [0, 1, 2, 3, 4, 18, 19, 140] [1000] rfl rfl ?_
        refine v_condT rfl ?_
        refine v_seq ?_
        refine v_region ?_
        refine l_val rfl (o_move rfl) ?_
        refine l_val rfl (o_move rfl) ?_
        refine l_val rfl (o_subi rfl rfl ?_) ?_
        · omega
        refine l_val rfl (o_assign rfl) ?_
        refine l_nil ?_
        refine kt_norm ?_
        refine v_region ?_
        refine l_val rfl (o_move rfl) ?_
        refine l_val rfl (o_assign rfl) ?_
        refine l_nil ?_
        refine kt_norm ?_
        refine v_seq ?_
        refine v_region ?_
        refine l_val rfl (o_move rfl) ?_
        refine l_val rfl (o_subi rfl rfl ?_) ?_
        · omega
        refine l_val rfl (o_assign rfl) ?_
        refine l_nil ?_
        refine kt_norm ?_
        refine v_sel [0, 1, 2, 3, 4, 18, 19, 20, 21, 22] [1000] rfl rfl ?_
        refine v_seq ?_
        refine v_block ?_
        refine v_loopS (α := Nat × Nat) (fun ⟨s, r⟩ => [(20, .int .i64 (s : Int)), (21, .int .i64 (r : Int))]) (fun ⟨s, r⟩ => [])  (fun ⟨s, r⟩ => lo ≤ s ∧ s ≤ r ∧ r ≤ hi ∧ (∀ c, lo ≤ c → c < s → (l.getD c dE).fr ≤ (l.getD ((a + b) / 2 + m - 1 - c) dE).fr) ∧ (∀ c, r ≤ c → c < hi → (l.getD ((a + b) / 2 + m - 1 - c) dE).fr < (l.getD c dE).fr)) (fun ⟨s, r⟩ => r - s) (lo, hi) [0, 1, 2, 3, 4, 18, 19, 22] [1000] ⟨Nat.le_refl _, by omega, Nat.le_refl _, fun c h1 h2 => by omega, fun c h1 h2 => by omega⟩  (And.intro (congrArg (fun q => some (Value.int .i64 q)) (by omega)) (And.intro (congrArg (fun q => some (Value.int .i64 q)) (by omega)) (True.intro))) rfl (True.intro) rfl ?_
        rintro ⟨s, r⟩ ⟨hls, hsr, hrh, hA, hB⟩
        refine v_seq ?_
        refine v_seq ?_
        refine v_region ?_
        refine l_val rfl (o_move rfl) ?_
        refine l_val rfl (o_move rfl) ?_
        refine l_split rfl (o_lss rfl rfl) (fun q10 => ?_) (fun q10 => ?_)
        · skip
          refine l_nil ?_
          refine kt_norm ?_
          refine v_condT rfl ?_
          refine v_skip ?_
          refine kt_norm ?_
          refine v_block ?_
          refine v_seq ?_
          refine v_region ?_
          refine l_val rfl (o_move rfl) ?_
          refine l_val rfl (o_move rfl) ?_
          refine l_val rfl (o_addi rfl rfl ?_) ?_
          · omega
          refine l_val rfl (o_convu rfl) ?_
          refine l_val rfl (o_shr (n := 1) (p := 2) rfl rfl (by decide) rfl (by decide)) ?_
          refine l_val rfl (o_convi rfl ?_) ?_
          · omega
          refine l_val rfl (o_assign rfl) ?_
          refine l_nil ?_
          refine kt_norm ?_
          refine v_sel [20, 21, 0, 1, 2, 3, 4, 18, 19, 22, 23] [1000] rfl rfl ?_
          refine v_seq ?_
          refine v_drawZ [[], [], [], [], [], [], [1000], [], [], [], [1000], [], [], []] mixed ?_ (by kernel_rfl) (by kernel_rfl)
          refine d_val (fun _ => rfl) rfl rfl (fun _ => o_move rfl) ?_
          refine d_val (fun _ => rfl) rfl rfl (fun _ => o_move rfl) ?_
          refine d_val (fun _ => rfl) rfl rfl (fun _ => o_move rfl) ?_
          refine d_val (fun _ => rfl) rfl rfl (fun _ => o_move rfl) ?_
          refine d_val (fun _ => rfl) rfl rfl (fun _ => o_subi rfl rfl ?_) ?_
          · omega
          refine d_val (fun _ => rfl) rfl rfl (fun _ => o_idx ((a + b) / 2 + m - 1 - (s + r) / 2) rfl hV rfl (by first | rfl | omega) (by omega)) ?_
          refine d_val (fun _ => rfl) rfl rfl (fun _ => o_loadRE (c' := [_, _, _, _, _, _, _]) rfl (row_own (key := 1000) rfl) (el_flat eE_len dE l ((a + b) / 2 + m - 1 - (s + r) / 2) (by omega)) rfl) ?_
          refine d_val (fun _ => rfl) rfl rfl (fun _ => o_move rfl) ?_
          refine d_val (fun _ => rfl) rfl rfl (fun _ => o_move rfl) ?_
          refine d_val (fun _ => rfl) rfl rfl (fun _ => o_idx (((s + r) / 2)) rfl hV rfl (by first | rfl | omega) (by omega)) ?_
          refine d_val (fun _ => rfl) rfl rfl (fun _ => o_loadRE (c' := [_, _, _, _, _, _, _]) rfl (row_own (key := 1000) rfl) (el_flat eE_len dE l (((s + r) / 2)) (by omega)) rfl) ?_
          refine d_ansv (vs := [_, _]) (fun _ => rfl) (fun _ => rfl) (fun _ => rfl) (a_CmpF (l.getD ((a + b) / 2 + m - 1 - (s + r) / 2) dE) (l.getD (((s + r) / 2)) dE) (frOk_getD hfr (by omega)) (frOk_getD hfr (by omega))) ?_
          refine d_lss (fun _ => rfl) (fun _ => rfl) (fun _ => rfl) (fun q11 => ?_) (fun q11 => ?_)
          · skip
            refine d_val (fun _ => rfl) rfl rfl (fun _ => o_not rfl rfl) ?_
            refine d_nil (fun σ => ?_)
            refine l_nil ?_
            refine kt_norm ?_
            refine v_sel [20, 21, 0, 1, 2, 3, 4, 18, 19, 22, 23, 171] [1000] rfl rfl ?_
            refine v_condF rfl ?_
            refine v_region ?_
            refine l_val rfl (o_move rfl) ?_
            refine l_val rfl (o_assign rfl) ?_
            refine l_nil ?_
            refine kb_norm ?_
            refine kt_norm ?_
            refine ⟨(s, ((s + r) / 2)), ⟨hls, by omega, by omega, hA, fun c h1 h2 => by (by_cases c2 : c = (s + r) / 2); (rw [c2]; omega); (by_cases c3 : r ≤ c); exact hB c c3 h2; (have := hs1 ((s + r) / 2) c (by omega) (by omega) (by omega)); (have := hs2 ((a + b) / 2 + m - 1 - c) ((a + b) / 2 + m - 1 - (s + r) / 2) (by omega) (by omega) (by omega)); omega⟩, (by show (s + r) / 2 - s < r - s; omega), le_app (And.intro rfl (And.intro (congrArg (fun q => some (Value.int .i64 q)) (by omega)) (True.intro))) [0, 1, 2, 3, 4, 18, 19, 22] rfl (True.intro) [1000] rfl⟩
          · skip
            refine d_val (fun _ => rfl) rfl rfl (fun _ => o_not rfl rfl) ?_
            refine d_nil (fun σ => ?_)
            refine l_nil ?_
            refine kt_norm ?_
            refine v_sel [20, 21, 0, 1, 2, 3, 4, 18, 19, 22, 23, 171] [1000] rfl rfl ?_
            refine v_condT rfl ?_
            refine v_region ?_
            refine l_val rfl (o_move rfl) ?_
            refine l_val rfl (o_addi rfl rfl ?_) ?_
            · omega
            refine l_val rfl (o_assign rfl) ?_
            refine l_nil ?_
            refine kb_norm ?_
            refine kt_norm ?_
            refine ⟨(((s + r) / 2) + 1, r), ⟨by omega, by omega, hrh, fun c h1 h2 => by (by_cases c2 : c = (s + r) / 2); (rw [c2]; omega); (by_cases c3 : c < s); exact hA c h1 c3; (have := hs1 c ((s + r) / 2) (by omega) (by omega) (by omega)); (have := hs2 ((a + b) / 2 + m - 1 - (s + r) / 2) ((a + b) / 2 + m - 1 - c) (by omega) (by omega) (by omega)); omega, hB⟩, (by show r - ((s + r) / 2 + 1) < r - s; omega), le_app (And.intro (congrArg (fun q => some (Value.int .i64 q)) (by omega)) (And.intro rfl (True.intro))) [0, 1, 2, 3, 4, 18, 19, 22] rfl (True.intro) [1000] rfl⟩
        · skip
          refine l_nil ?_
          refine kt_norm ?_
          refine v_condF rfl ?_
          refine v_exit ?_
          refine kt_exit ?_
          refine kt_exit ?_
          refine kb_eq ?_
          refine kt_norm ?_
          refine v_seq ?_
          refine v_region ?_
          obtain rfl : s = r := by omega
          have hC := cut_of (mid := (a + b) / 2) ham hmb hb rfl (lo := lo) (hi := hi) (s := s) (by omega) hls hrh hs1 hs2 hA hB
          refine l_val rfl (o_move rfl) ?_
          refine l_val rfl (o_move rfl) ?_
          refine l_val rfl (o_subi rfl rfl ?_) ?_
          · omega
          refine l_val rfl (o_assign rfl) ?_
          refine l_nil ?_
          refine kt_norm ?_
          refine v_sel [20, 0, 1, 2, 3, 4, 18, 24] [1000] rfl rfl ?_
          refine v_seq ?_
          refine v_seq ?_
          refine v_region ?_
          refine l_val rfl (o_move rfl) ?_
          refine l_val rfl (o_move rfl) ?_
          refine l_split rfl (o_lss rfl rfl) (fun q12 => ?_) (fun q12 => ?_)
          · skip
            refine l_val rfl (o_move rfl) ?_
            refine l_val rfl (o_move rfl) ?_
            refine l_val rfl (o_move rfl) ?_
            refine l_split rfl (o_lss rfl rfl) (fun q13 => ?_) (fun q13 => ?_)
            · skip
              refine l_val rfl (o_pickT rfl rfl) ?_
              refine l_nil ?_
              refine kt_norm ?_
              refine v_sel [20, 0, 1, 2, 3, 4, 18, 24, 185] [1000] rfl rfl ?_
              refine v_condT rfl ?_
              refine v_region ?_
              refine l_val rfl (o_move rfl) ?_
              refine l_val rfl (o_move rfl) ?_
              refine l_val rfl (o_move rfl) ?_
              refine l_val rfl (o_move rfl) ?_
              refine l_val rfl (o_move rfl) ?_
              refine l_gmutX (ks := []) 1000 (fun l1 => RotQ l s m ((a + b) / 2 + m - s) l1) (fun l1 => l1.flatMap eE) (n := l.length) (caps := #[]) (vs := [_, _, _, _, _]) rfl rfl (ent_of Try.func104 rfl rfl) rfl rfl (fun w' hg hh hok2 => ?_) (fun l1 y1 hR => ?_)
              · have hres := a_Rotate w' v l s m ((a + b) / 2 + m - s) (by omega) (by omega) (by omega) (by omega) hok2
                have e0 : (((a + b) / 2 + m - s : Nat) : Int) = ((a : Int) + (b : Int)) % 18446744073709551616 / 2 + (m : Int) - (s : Int) := by omega
                rw [e0] at hres
                exact hres
              refine l_nil ?_
              refine kt_norm ?_
              refine v_sel [20, 0, 1, 3, 4, 18, 24] [1000] rfl rfl ?_
              refine v_seq ?_
              refine v_seq ?_
              refine v_region ?_
              have hRm := hC.rot hR
              have hlen1 : l1.length = l.length := hR.len
              have hfo1 := hRm.st.frOk hfr
              have hsa1 := hC.p1 hR
              have hsb1 := hC.p2 hR
              refine l_val rfl (o_move rfl) ?_
              refine l_val rfl (o_move rfl) ?_
              refine l_split rfl (o_lss rfl rfl) (fun q14 => ?_) (fun q14 => ?_)
              · skip
                refine l_val rfl (o_move rfl) ?_
                refine l_val rfl (o_move rfl) ?_
                refine l_val rfl (o_move rfl) ?_
                refine l_split rfl (o_lss rfl rfl) (fun q15 => ?_) (fun q15 => ?_)
                · skip
                  refine l_val rfl (o_pickT rfl rfl) ?_
                  refine l_nil ?_
                  refine kt_norm ?_
                  refine v_sel [20, 0, 1, 3, 4, 18, 24, 199] [1000] rfl rfl ?_
                  refine v_condT rfl ?_
                  refine v_region ?_
                  refine l_val rfl (o_move rfl) ?_
                  refine l_val rfl (o_move rfl) ?_
                  refine l_val rfl (o_move rfl) ?_
                  refine l_val rfl (o_move rfl) ?_
                  refine l_val rfl (o_move rfl) ?_
                  refine l_gmutX (ks := []) 1000 (fun lz => SrtQ l1 a ((a + b) / 2) lz) (fun lz => lz.flatMap eE) (n := l.length) (caps := #[]) (vs := [_, _, _, _, _]) rfl rfl (ent_of Try.func95 rfl rfl) rfl rfl (fun w' hg hh hok2 => ?_) (fun l2 y1 hM1 => ?_)
                  · have hsl : l1.length = l.length := hlen1
                    have hres := ih w' v l1 a s ((a + b) / 2) (by omega) (by omega) (by omega) (by omega) (by rw [hsl]; omega) (by rw [hsl]; exact hok2) hfo1 hsa1 hsb1
                    rw [hsl] at hres
                    have e0 : (((a + b) / 2 : Nat) : Int) = ((a : Int) + (b : Int)) % 18446744073709551616 / 2 := by omega
                    rw [e0] at hres
                    exact hres
                  refine l_nil ?_
                  refine kt_norm ?_
                  refine v_sel [0, 3, 4, 18, 24] [1000] rfl rfl ?_
                  refine v_seq ?_
                  refine v_region ?_
                  have hlen2 : l2.length = l.length := hM1.mut_.st.len.trans hlen1
                  have hfo2 := hM1.mut_.st.frOk hfo1
                  have hsa2 : SrtOn l2 ((a + b) / 2) ((a + b) / 2 + m - s) := fun p q h1 h2 h3 => by rw [hM1.mut_.out p (.inr h1), hM1.mut_.out q (.inr (by omega))]; exact hC.p3 hR p q h1 h2 h3
                  have hsb2 : SrtOn l2 ((a + b) / 2 + m - s) b := fun p q h1 h2 h3 => by rw [hM1.mut_.out p (.inr (by omega)), hM1.mut_.out q (.inr (by omega))]; exact hC.p4 hR p q h1 h2 h3
                  refine l_val rfl (o_move rfl) ?_
                  refine l_val rfl (o_move rfl) ?_
                  refine l_split rfl (o_lss rfl rfl) (fun q16 => ?_) (fun q16 => ?_)
                  · skip
                    refine l_val rfl (o_move rfl) ?_
                    refine l_val rfl (o_move rfl) ?_
                    refine l_val rfl (o_move rfl) ?_
                    refine l_split rfl (o_lss rfl rfl) (fun q17 => ?_) (fun q17 => ?_)
                    · skip
                      refine l_val rfl (o_pickT rfl rfl) ?_
                      refine l_nil ?_
                      refine kt_norm ?_
                      refine v_sel [0, 3, 4, 18, 24, 213] [1000] rfl rfl ?_
                      refine v_condT rfl ?_
                      refine v_region ?_
                      refine l_val rfl (o_move rfl) ?_
                      refine l_val rfl (o_move rfl) ?_
                      refine l_val rfl (o_move rfl) ?_
                      refine l_val rfl (o_move rfl) ?_
                      refine l_val rfl (o_move rfl) ?_
                      refine l_gmutX (ks := []) 1000 (fun lz => SrtQ l2 ((a + b) / 2) b lz) (fun lz => lz.flatMap eE) (n := l.length) (caps := #[]) (vs := [_, _, _, _, _]) rfl rfl (ent_of Try.func95 rfl rfl) rfl rfl (fun w' hg hh hok2 => ?_) (fun l3 y2 hM2 => ?_)
                      · have hsl : l2.length = l.length := hlen2
                        have hres := ih w' v l2 ((a + b) / 2) ((a + b) / 2 + m - s) b (by omega) (by omega) (by omega) (by omega) (by rw [hsl]; omega) (by rw [hsl]; exact hok2) hfo2 hsa2 hsb2
                        rw [hsl] at hres
                        have e0 : (((a + b) / 2 : Nat) : Int) = ((a : Int) + (b : Int)) % 18446744073709551616 / 2 := by omega
                        have e1 : (((a + b) / 2 + m - s : Nat) : Int) = ((a : Int) + (b : Int)) % 18446744073709551616 / 2 + (m : Int) - (s : Int) := by omega
                        rw [e1] at hres
                        rw [e0] at hres
                        exact hres
                      refine l_nil ?_
                      refine ⟨[], ResAll.nil, ?_⟩
                      first
                        | exact ⟨cur, ⟨hM, InsL.srt (show InsL l a (i - 1) cur from (show k = i - 1 by omega) ▸ hI) (by omega) hjb (fun p q h1 h2 h3 => hs2 p q (by omega) h2 h3) (fun q h1 h2 => hA q (by omega) h2) hB⟩, rfl⟩
                        | exact ⟨cur, ⟨hM, InsB.srt (show InsB l m i cur from (show k = i by omega) ▸ hI) hmi hjb (by omega) hs1 hA hB⟩, rfl⟩
                        | exact ⟨_, hC.done hR hM1 hM2, rfl⟩
                        | exact ⟨_, hC.done hR hM1 (SrtQ.same hsa2 hsb2 (by omega)), rfl⟩
                    · skip
                      refine l_val rfl (o_pickT rfl rfl) ?_
                      refine l_nil ?_
                      refine kt_norm ?_
                      refine v_sel [0, 3, 4, 18, 24, 213] [1000] rfl rfl ?_
                      refine v_condF rfl ?_
                      refine v_skip ?_
                      refine ⟨[], ResAll.nil, ?_⟩
                      first
                        | exact ⟨cur, ⟨hM, InsL.srt (show InsL l a (i - 1) cur from (show k = i - 1 by omega) ▸ hI) (by omega) hjb (fun p q h1 h2 h3 => hs2 p q (by omega) h2 h3) (fun q h1 h2 => hA q (by omega) h2) hB⟩, rfl⟩
                        | exact ⟨cur, ⟨hM, InsB.srt (show InsB l m i cur from (show k = i by omega) ▸ hI) hmi hjb (by omega) hs1 hA hB⟩, rfl⟩
                        | exact ⟨_, hC.done hR hM1 hM2, rfl⟩
                        | exact ⟨_, hC.done hR hM1 (SrtQ.same hsa2 hsb2 (by omega)), rfl⟩
                  · skip
                    refine l_val rfl (o_move rfl) ?_
                    refine l_no rfl ?_
                    refine l_no rfl ?_
                    refine l_no rfl ?_
                    refine l_val rfl (o_pickF rfl rfl) ?_
                    refine l_nil ?_
                    refine kt_norm ?_
                    refine v_sel [0, 3, 4, 18, 24, 213] [1000] rfl rfl ?_
                    refine v_condF rfl ?_
                    refine v_skip ?_
                    refine ⟨[], ResAll.nil, ?_⟩
                    first
                      | exact ⟨cur, ⟨hM, InsL.srt (show InsL l a (i - 1) cur from (show k = i - 1 by omega) ▸ hI) (by omega) hjb (fun p q h1 h2 h3 => hs2 p q (by omega) h2 h3) (fun q h1 h2 => hA q (by omega) h2) hB⟩, rfl⟩
                      | exact ⟨cur, ⟨hM, InsB.srt (show InsB l m i cur from (show k = i by omega) ▸ hI) hmi hjb (by omega) hs1 hA hB⟩, rfl⟩
                      | exact ⟨_, hC.done hR hM1 hM2, rfl⟩
                      | exact ⟨_, hC.done hR hM1 (SrtQ.same hsa2 hsb2 (by omega)), rfl⟩
                · skip
                  refine l_val rfl (o_pickT rfl rfl) ?_
                  refine l_nil ?_
                  refine kt_norm ?_
                  refine v_sel [20, 0, 1, 3, 4, 18, 24, 199] [1000] rfl rfl ?_
                  refine v_condF rfl ?_
                  refine v_skip ?_
                  refine kt_norm ?_
                  refine v_seq ?_
                  refine v_region ?_
                  have hM1 : SrtQ l1 a ((a + b) / 2) l1 := SrtQ.same hsa1 hsb1 (by omega)
                  have hlen2 : l1.length = l.length := hM1.mut_.st.len.trans hlen1
                  have hfo2 := hM1.mut_.st.frOk hfo1
                  have hsa2 : SrtOn l1 ((a + b) / 2) ((a + b) / 2 + m - s) := fun p q h1 h2 h3 => by rw [hM1.mut_.out p (.inr h1), hM1.mut_.out q (.inr (by omega))]; exact hC.p3 hR p q h1 h2 h3
                  have hsb2 : SrtOn l1 ((a + b) / 2 + m - s) b := fun p q h1 h2 h3 => by rw [hM1.mut_.out p (.inr (by omega)), hM1.mut_.out q (.inr (by omega))]; exact hC.p4 hR p q h1 h2 h3
                  refine l_val rfl (o_move rfl) ?_
                  refine l_val rfl (o_move rfl) ?_
                  refine l_split rfl (o_lss rfl rfl) (fun q18 => ?_) (fun q18 => ?_)
                  · skip
                    refine l_val rfl (o_move rfl) ?_
                    refine l_val rfl (o_move rfl) ?_
                    refine l_val rfl (o_move rfl) ?_
                    refine l_split rfl (o_lss rfl rfl) (fun q19 => ?_) (fun q19 => ?_)
                    · skip
                      refine l_val rfl (o_pickT rfl rfl) ?_
                      refine l_nil ?_
                      refine kt_norm ?_
                      refine v_sel [0, 3, 4, 18, 24, 213] [1000] rfl rfl ?_
                      refine v_condT rfl ?_
                      refine v_region ?_
                      refine l_val rfl (o_move rfl) ?_
                      refine l_val rfl (o_move rfl) ?_
                      refine l_val rfl (o_move rfl) ?_
                      refine l_val rfl (o_move rfl) ?_
                      refine l_val rfl (o_move rfl) ?_
                      refine l_gmutX (ks := []) 1000 (fun lz => SrtQ l1 ((a + b) / 2) b lz) (fun lz => lz.flatMap eE) (n := l.length) (caps := #[]) (vs := [_, _, _, _, _]) rfl rfl (ent_of Try.func95 rfl rfl) rfl rfl (fun w' hg hh hok2 => ?_) (fun l3 y2 hM2 => ?_)
                      · have hsl : l1.length = l.length := hlen2
                        have hres := ih w' v l1 ((a + b) / 2) ((a + b) / 2 + m - s) b (by omega) (by omega) (by omega) (by omega) (by rw [hsl]; omega) (by rw [hsl]; exact hok2) hfo2 hsa2 hsb2
                        rw [hsl] at hres
                        have e0 : (((a + b) / 2 : Nat) : Int) = ((a : Int) + (b : Int)) % 18446744073709551616 / 2 := by omega
                        have e1 : (((a + b) / 2 + m - s : Nat) : Int) = ((a : Int) + (b : Int)) % 18446744073709551616 / 2 + (m : Int) - (s : Int) := by omega
                        rw [e1] at hres
                        rw [e0] at hres
                        exact hres
                      refine l_nil ?_
                      refine ⟨[], ResAll.nil, ?_⟩
                      first
                        | exact ⟨cur, ⟨hM, InsL.srt (show InsL l a (i - 1) cur from (show k = i - 1 by omega) ▸ hI) (by omega) hjb (fun p q h1 h2 h3 => hs2 p q (by omega) h2 h3) (fun q h1 h2 => hA q (by omega) h2) hB⟩, rfl⟩
                        | exact ⟨cur, ⟨hM, InsB.srt (show InsB l m i cur from (show k = i by omega) ▸ hI) hmi hjb (by omega) hs1 hA hB⟩, rfl⟩
                        | exact ⟨_, hC.done hR hM1 hM2, rfl⟩
                        | exact ⟨_, hC.done hR hM1 (SrtQ.same hsa2 hsb2 (by omega)), rfl⟩
                    · skip
                      refine l_val rfl (o_pickT rfl rfl) ?_
                      refine l_nil ?_
                      refine kt_norm ?_
                      refine v_sel [0, 3, 4, 18, 24, 213] [1000] rfl rfl ?_
                      refine v_condF rfl ?_
                      refine v_skip ?_
                      refine ⟨[], ResAll.nil, ?_⟩
                      first
                        | exact ⟨cur, ⟨hM, InsL.srt (show InsL l a (i - 1) cur from (show k = i - 1 by omega) ▸ hI) (by omega) hjb (fun p q h1 h2 h3 => hs2 p q (by omega) h2 h3) (fun q h1 h2 => hA q (by omega) h2) hB⟩, rfl⟩
                        | exact ⟨cur, ⟨hM, InsB.srt (show InsB l m i cur from (show k = i by omega) ▸ hI) hmi hjb (by omega) hs1 hA hB⟩, rfl⟩
                        | exact ⟨_, hC.done hR hM1 hM2, rfl⟩
                        | exact ⟨_, hC.done hR hM1 (SrtQ.same hsa2 hsb2 (by omega)), rfl⟩
                  · skip
                    refine l_val rfl (o_move rfl) ?_
                    refine l_no rfl ?_
                    refine l_no rfl ?_
                    refine l_no rfl ?_
                    refine l_val rfl (o_pickF rfl rfl) ?_
                    refine l_nil ?_
                    refine kt_norm ?_
                    refine v_sel [0, 3, 4, 18, 24, 213] [1000] rfl rfl ?_
                    refine v_condF rfl ?_
                    refine v_skip ?_
                    refine ⟨[], ResAll.nil, ?_⟩
                    first
                      | exact ⟨cur, ⟨hM, InsL.srt (show InsL l a (i - 1) cur from (show k = i - 1 by omega) ▸ hI) (by omega) hjb (fun p q h1 h2 h3 => hs2 p q (by omega) h2 h3) (fun q h1 h2 => hA q (by omega) h2) hB⟩, rfl⟩
                      | exact ⟨cur, ⟨hM, InsB.srt (show InsB l m i cur from (show k = i by omega) ▸ hI) hmi hjb (by omega) hs1 hA hB⟩, rfl⟩
                      | exact ⟨_, hC.done hR hM1 hM2, rfl⟩
                      | exact ⟨_, hC.done hR hM1 (SrtQ.same hsa2 hsb2 (by omega)), rfl⟩
              · skip
                refine l_val rfl (o_move rfl) ?_
                refine l_no rfl ?_
                refine l_no rfl ?_
                refine l_no rfl ?_
                refine l_val rfl (o_pickF rfl rfl) ?_
                refine l_nil ?_
                refine kt_norm ?_
                refine v_sel [20, 0, 1, 3, 4, 18, 24, 199] [1000] rfl rfl ?_
                refine v_condF rfl ?_
                refine v_skip ?_
                refine kt_norm ?_
                refine v_seq ?_
                refine v_region ?_
                have hM1 : SrtQ l1 a ((a + b) / 2) l1 := SrtQ.same hsa1 hsb1 (by omega)
                have hlen2 : l1.length = l.length := hM1.mut_.st.len.trans hlen1
                have hfo2 := hM1.mut_.st.frOk hfo1
                have hsa2 : SrtOn l1 ((a + b) / 2) ((a + b) / 2 + m - s) := fun p q h1 h2 h3 => by rw [hM1.mut_.out p (.inr h1), hM1.mut_.out q (.inr (by omega))]; exact hC.p3 hR p q h1 h2 h3
                have hsb2 : SrtOn l1 ((a + b) / 2 + m - s) b := fun p q h1 h2 h3 => by rw [hM1.mut_.out p (.inr (by omega)), hM1.mut_.out q (.inr (by omega))]; exact hC.p4 hR p q h1 h2 h3
                refine l_val rfl (o_move rfl) ?_
                refine l_val rfl (o_move rfl) ?_
                refine l_split rfl (o_lss rfl rfl) (fun q20 => ?_) (fun q20 => ?_)
                · skip
                  refine l_val rfl (o_move rfl) ?_
                  refine l_val rfl (o_move rfl) ?_
                  refine l_val rfl (o_move rfl) ?_
                  refine l_split rfl (o_lss rfl rfl) (fun q21 => ?_) (fun q21 => ?_)
                  · skip
                    refine l_val rfl (o_pickT rfl rfl) ?_
                    refine l_nil ?_
                    refine kt_norm ?_
                    refine v_sel [0, 3, 4, 18, 24, 213] [1000] rfl rfl ?_
                    refine v_condT rfl ?_
                    refine v_region ?_
                    refine l_val rfl (o_move rfl) ?_
                    refine l_val rfl (o_move rfl) ?_
                    refine l_val rfl (o_move rfl) ?_
                    refine l_val rfl (o_move rfl) ?_
                    refine l_val rfl (o_move rfl) ?_
                    refine l_gmutX (ks := []) 1000 (fun lz => SrtQ l1 ((a + b) / 2) b lz) (fun lz => lz.flatMap eE) (n := l.length) (caps := #[]) (vs := [_, _, _, _, _]) rfl rfl (ent_of Try.func95 rfl rfl) rfl rfl (fun w' hg hh hok2 => ?_) (fun l3 y2 hM2 => ?_)
                    · have hsl : l1.length = l.length := hlen2
                      have hres := ih w' v l1 ((a + b) / 2) ((a + b) / 2 + m - s) b (by omega) (by omega) (by omega) (by omega) (by rw [hsl]; omega) (by rw [hsl]; exact hok2) hfo2 hsa2 hsb2
                      rw [hsl] at hres
                      have e0 : (((a + b) / 2 : Nat) : Int) = ((a : Int) + (b : Int)) % 18446744073709551616 / 2 := by omega
                      have e1 : (((a + b) / 2 + m - s : Nat) : Int) = ((a : Int) + (b : Int)) % 18446744073709551616 / 2 + (m : Int) - (s : Int) := by omega
                      rw [e1] at hres
                      rw [e0] at hres
                      exact hres
                    refine l_nil ?_
                    refine ⟨[], ResAll.nil, ?_⟩
                    first
                      | exact ⟨cur, ⟨hM, InsL.srt (show InsL l a (i - 1) cur from (show k = i - 1 by omega) ▸ hI) (by omega) hjb (fun p q h1 h2 h3 => hs2 p q (by omega) h2 h3) (fun q h1 h2 => hA q (by omega) h2) hB⟩, rfl⟩
                      | exact ⟨cur, ⟨hM, InsB.srt (show InsB l m i cur from (show k = i by omega) ▸ hI) hmi hjb (by omega) hs1 hA hB⟩, rfl⟩
                      | exact ⟨_, hC.done hR hM1 hM2, rfl⟩
                      | exact ⟨_, hC.done hR hM1 (SrtQ.same hsa2 hsb2 (by omega)), rfl⟩
                  · skip
                    refine l_val rfl (o_pickT rfl rfl) ?_
                    refine l_nil ?_
                    refine kt_norm ?_
                    refine v_sel [0, 3, 4, 18, 24, 213] [1000] rfl rfl ?_
                    refine v_condF rfl ?_
                    refine v_skip ?_
                    refine ⟨[], ResAll.nil, ?_⟩
                    first
                      | exact ⟨cur, ⟨hM, InsL.srt (show InsL l a (i - 1) cur from (show k = i - 1 by omega) ▸ hI) (by omega) hjb (fun p q h1 h2 h3 => hs2 p q (by omega) h2 h3) (fun q h1 h2 => hA q (by omega) h2) hB⟩, rfl⟩
                      | exact ⟨cur, ⟨hM, InsB.srt (show InsB l m i cur from (show k = i by omega) ▸ hI) hmi hjb (by omega) hs1 hA hB⟩, rfl⟩
                      | exact ⟨_, hC.done hR hM1 hM2, rfl⟩
                      | exact ⟨_, hC.done hR hM1 (SrtQ.same hsa2 hsb2 (by omega)), rfl⟩
                · skip
                  refine l_val rfl (o_move rfl) ?_
                  refine l_no rfl ?_
                  refine l_no rfl ?_
                  refine l_no rfl ?_
                  refine l_val rfl (o_pickF rfl rfl) ?_
                  refine l_nil ?_
                  refine kt_norm ?_
                  refine v_sel [0, 3, 4, 18, 24, 213] [1000] rfl rfl ?_
                  refine v_condF rfl ?_
                  refine v_skip ?_
                  refine ⟨[], ResAll.nil, ?_⟩
                  first
                    | exact ⟨cur, ⟨hM, InsL.srt (show InsL l a (i - 1) cur from (show k = i - 1 by omega) ▸ hI) (by omega) hjb (fun p q h1 h2 h3 => hs2 p q (by omega) h2 h3) (fun q h1 h2 => hA q (by omega) h2) hB⟩, rfl⟩
                    | exact ⟨cur, ⟨hM, InsB.srt (show InsB l m i cur from (show k = i by omega) ▸ hI) hmi hjb (by omega) hs1 hA hB⟩, rfl⟩
                    | exact ⟨_, hC.done hR hM1 hM2, rfl⟩
                    | exact ⟨_, hC.done hR hM1 (SrtQ.same hsa2 hsb2 (by omega)), rfl⟩
            · skip
              refine l_val rfl (o_pickT rfl rfl) ?_
              refine l_nil ?_
              refine kt_norm ?_
              refine v_sel [20, 0, 1, 2, 3, 4, 18, 24, 185] [1000] rfl rfl ?_
              refine v_condF rfl ?_
              refine v_skip ?_
              refine kt_norm ?_
              refine v_seq ?_
              refine v_seq ?_
              refine v_region ?_
              have hR : RotQ l s m ((a + b) / 2 + m - s) l := RotQ.id (by omega) (by omega) (by omega)
              have hRm := hC.rot hR
              have hlen1 : l.length = l.length := hR.len
              have hfo1 := hRm.st.frOk hfr
              have hsa1 := hC.p1 hR
              have hsb1 := hC.p2 hR
              refine l_val rfl (o_move rfl) ?_
              refine l_val rfl (o_move rfl) ?_
              refine l_split rfl (o_lss rfl rfl) (fun q22 => ?_) (fun q22 => ?_)
              · skip
                refine l_val rfl (o_move rfl) ?_
                refine l_val rfl (o_move rfl) ?_
                refine l_val rfl (o_move rfl) ?_
                refine l_split rfl (o_lss rfl rfl) (fun q23 => ?_) (fun q23 => ?_)
                · skip
                  refine l_val rfl (o_pickT rfl rfl) ?_
                  refine l_nil ?_
                  refine kt_norm ?_
                  refine v_sel [20, 0, 1, 3, 4, 18, 24, 199] [1000] rfl rfl ?_
                  refine v_condT rfl ?_
                  refine v_region ?_
                  refine l_val rfl (o_move rfl) ?_
                  refine l_val rfl (o_move rfl) ?_
                  refine l_val rfl (o_move rfl) ?_
                  refine l_val rfl (o_move rfl) ?_
                  refine l_val rfl (o_move rfl) ?_
                  refine l_gmutX (ks := []) 1000 (fun lz => SrtQ l a ((a + b) / 2) lz) (fun lz => lz.flatMap eE) (n := l.length) (caps := #[]) (vs := [_, _, _, _, _]) rfl rfl (ent_of Try.func95 rfl rfl) rfl rfl (fun w' hg hh hok2 => ?_) (fun l2 y1 hM1 => ?_)
                  · have hsl : l.length = l.length := hlen1
                    have hres := ih w' v l a s ((a + b) / 2) (by omega) (by omega) (by omega) (by omega) (by rw [hsl]; omega) (by rw [hsl]; exact hok2) hfo1 hsa1 hsb1
                    rw [hsl] at hres
                    have e0 : (((a + b) / 2 : Nat) : Int) = ((a : Int) + (b : Int)) % 18446744073709551616 / 2 := by omega
                    rw [e0] at hres
                    exact hres
                  refine l_nil ?_
                  refine kt_norm ?_
                  refine v_sel [0, 3, 4, 18, 24] [1000] rfl rfl ?_
                  refine v_seq ?_
                  refine v_region ?_
                  have hlen2 : l2.length = l.length := hM1.mut_.st.len.trans hlen1
                  have hfo2 := hM1.mut_.st.frOk hfo1
                  have hsa2 : SrtOn l2 ((a + b) / 2) ((a + b) / 2 + m - s) := fun p q h1 h2 h3 => by rw [hM1.mut_.out p (.inr h1), hM1.mut_.out q (.inr (by omega))]; exact hC.p3 hR p q h1 h2 h3
                  have hsb2 : SrtOn l2 ((a + b) / 2 + m - s) b := fun p q h1 h2 h3 => by rw [hM1.mut_.out p (.inr (by omega)), hM1.mut_.out q (.inr (by omega))]; exact hC.p4 hR p q h1 h2 h3
                  refine l_val rfl (o_move rfl) ?_
                  refine l_val rfl (o_move rfl) ?_
                  refine l_split rfl (o_lss rfl rfl) (fun q24 => ?_) (fun q24 => ?_)
                  · skip
                    refine l_val rfl (o_move rfl) ?_
                    refine l_val rfl (o_move rfl) ?_
                    refine l_val rfl (o_move rfl) ?_
                    refine l_split rfl (o_lss rfl rfl) (fun q25 => ?_) (fun q25 => ?_)
                    · skip
                      refine l_val rfl (o_pickT rfl rfl) ?_
                      refine l_nil ?_
                      refine kt_norm ?_
                      refine v_sel [0, 3, 4, 18, 24, 213] [1000] rfl rfl ?_
                      refine v_condT rfl ?_
                      refine v_region ?_
                      refine l_val rfl (o_move rfl) ?_
                      refine l_val rfl (o_move rfl) ?_
                      refine l_val rfl (o_move rfl) ?_
                      refine l_val rfl (o_move rfl) ?_
                      refine l_val rfl (o_move rfl) ?_
                      refine l_gmutX (ks := []) 1000 (fun lz => SrtQ l2 ((a + b) / 2) b lz) (fun lz => lz.flatMap eE) (n := l.length) (caps := #[]) (vs := [_, _, _, _, _]) rfl rfl (ent_of Try.func95 rfl rfl) rfl rfl (fun w' hg hh hok2 => ?_) (fun l3 y2 hM2 => ?_)
                      · have hsl : l2.length = l.length := hlen2
                        have hres := ih w' v l2 ((a + b) / 2) ((a + b) / 2 + m - s) b (by omega) (by omega) (by omega) (by omega) (by rw [hsl]; omega) (by rw [hsl]; exact hok2) hfo2 hsa2 hsb2
                        rw [hsl] at hres
                        have e0 : (((a + b) / 2 : Nat) : Int) = ((a : Int) + (b : Int)) % 18446744073709551616 / 2 := by omega
                        have e1 : (((a + b) / 2 + m - s : Nat) : Int) = ((a : Int) + (b : Int)) % 18446744073709551616 / 2 + (m : Int) - (s : Int) := by omega
                        rw [e1] at hres
                        rw [e0] at hres
                        exact hres
                      refine l_nil ?_
                      refine ⟨[], ResAll.nil, ?_⟩
                      first
                        | exact ⟨cur, ⟨hM, InsL.srt (show InsL l a (i - 1) cur from (show k = i - 1 by omega) ▸ hI) (by omega) hjb (fun p q h1 h2 h3 => hs2 p q (by omega) h2 h3) (fun q h1 h2 => hA q (by omega) h2) hB⟩, rfl⟩
                        | exact ⟨cur, ⟨hM, InsB.srt (show InsB l m i cur from (show k = i by omega) ▸ hI) hmi hjb (by omega) hs1 hA hB⟩, rfl⟩
                        | exact ⟨_, hC.done hR hM1 hM2, rfl⟩
                        | exact ⟨_, hC.done hR hM1 (SrtQ.same hsa2 hsb2 (by omega)), rfl⟩
                    · skip
                      refine l_val rfl (o_pickT rfl rfl) ?_
                      refine l_nil ?_
                      refine kt_norm ?_
                      refine v_sel [0, 3, 4, 18, 24, 213] [1000] rfl rfl ?_
                      refine v_condF rfl ?_
                      refine v_skip ?_
                      refine ⟨[], ResAll.nil, ?_⟩
                      first
                        | exact ⟨cur, ⟨hM, InsL.srt (show InsL l a (i - 1) cur from (show k = i - 1 by omega) ▸ hI) (by omega) hjb (fun p q h1 h2 h3 => hs2 p q (by omega) h2 h3) (fun q h1 h2 => hA q (by omega) h2) hB⟩, rfl⟩
                        | exact ⟨cur, ⟨hM, InsB.srt (show InsB l m i cur from (show k = i by omega) ▸ hI) hmi hjb (by omega) hs1 hA hB⟩, rfl⟩
                        | exact ⟨_, hC.done hR hM1 hM2, rfl⟩
                        | exact ⟨_, hC.done hR hM1 (SrtQ.same hsa2 hsb2 (by omega)), rfl⟩
                  · skip
                    refine l_val rfl (o_move rfl) ?_
                    refine l_no rfl ?_
                    refine l_no rfl ?_
                    refine l_no rfl ?_
                    refine l_val rfl (o_pickF rfl rfl) ?_
                    refine l_nil ?_
                    refine kt_norm ?_
                    refine v_sel [0, 3, 4, 18, 24, 213] [1000] rfl rfl ?_
                    refine v_condF rfl ?_
                    refine v_skip ?_
                    refine ⟨[], ResAll.nil, ?_⟩
                    first
                      | exact ⟨cur, ⟨hM, InsL.srt (show InsL l a (i - 1) cur from (show k = i - 1 by omega) ▸ hI) (by omega) hjb (fun p q h1 h2 h3 => hs2 p q (by omega) h2 h3) (fun q h1 h2 => hA q (by omega) h2) hB⟩, rfl⟩
                      | exact ⟨cur, ⟨hM, InsB.srt (show InsB l m i cur from (show k = i by omega) ▸ hI) hmi hjb (by omega) hs1 hA hB⟩, rfl⟩
                      | exact ⟨_, hC.done hR hM1 hM2, rfl⟩
                      | exact ⟨_, hC.done hR hM1 (SrtQ.same hsa2 hsb2 (by omega)), rfl⟩
                · skip
                  refine l_val rfl (o_pickT rfl rfl) ?_
                  refine l_nil ?_
                  refine kt_norm ?_
                  refine v_sel [20, 0, 1, 3, 4, 18, 24, 199] [1000] rfl rfl ?_
                  refine v_condF rfl ?_
                  refine v_skip ?_
                  refine kt_norm ?_
                  refine v_seq ?_
                  refine v_region ?_
                  have hM1 : SrtQ l a ((a + b) / 2) l := SrtQ.same hsa1 hsb1 (by omega)
                  have hlen2 : l.length = l.length := hM1.mut_.st.len.trans hlen1
                  have hfo2 := hM1.mut_.st.frOk hfo1
                  have hsa2 : SrtOn l ((a + b) / 2) ((a + b) / 2 + m - s) := fun p q h1 h2 h3 => by rw [hM1.mut_.out p (.inr h1), hM1.mut_.out q (.inr (by omega))]; exact hC.p3 hR p q h1 h2 h3
                  have hsb2 : SrtOn l ((a + b) / 2 + m - s) b := fun p q h1 h2 h3 => by rw [hM1.mut_.out p (.inr (by omega)), hM1.mut_.out q (.inr (by omega))]; exact hC.p4 hR p q h1 h2 h3
                  refine l_val rfl (o_move rfl) ?_
                  refine l_val rfl (o_move rfl) ?_
                  refine l_split rfl (o_lss rfl rfl) (fun q26 => ?_) (fun q26 => ?_)
                  · skip
                    refine l_val rfl (o_move rfl) ?_
                    refine l_val rfl (o_move rfl) ?_
                    refine l_val rfl (o_move rfl) ?_
                    refine l_split rfl (o_lss rfl rfl) (fun q27 => ?_) (fun q27 => ?_)
                    · skip
                      refine l_val rfl (o_pickT rfl rfl) ?_
                      refine l_nil ?_
                      refine kt_norm ?_
                      refine v_sel [0, 3, 4, 18, 24, 213] [1000] rfl rfl ?_
                      refine v_condT rfl ?_
                      refine v_region ?_
                      refine l_val rfl (o_move rfl) ?_
                      refine l_val rfl (o_move rfl) ?_
                      refine l_val rfl (o_move rfl) ?_
                      refine l_val rfl (o_move rfl) ?_
                      refine l_val rfl (o_move rfl) ?_
                      refine l_gmutX (ks := []) 1000 (fun lz => SrtQ l ((a + b) / 2) b lz) (fun lz => lz.flatMap eE) (n := l.length) (caps := #[]) (vs := [_, _, _, _, _]) rfl rfl (ent_of Try.func95 rfl rfl) rfl rfl (fun w' hg hh hok2 => ?_) (fun l3 y2 hM2 => ?_)
                      · have hsl : l.length = l.length := hlen2
                        have hres := ih w' v l ((a + b) / 2) ((a + b) / 2 + m - s) b (by omega) (by omega) (by omega) (by omega) (by rw [hsl]; omega) (by rw [hsl]; exact hok2) hfo2 hsa2 hsb2
                        rw [hsl] at hres
                        have e0 : (((a + b) / 2 : Nat) : Int) = ((a : Int) + (b : Int)) % 18446744073709551616 / 2 := by omega
                        have e1 : (((a + b) / 2 + m - s : Nat) : Int) = ((a : Int) + (b : Int)) % 18446744073709551616 / 2 + (m : Int) - (s : Int) := by omega
                        rw [e1] at hres
                        rw [e0] at hres
                        exact hres
                      refine l_nil ?_
                      refine ⟨[], ResAll.nil, ?_⟩
                      first
                        | exact ⟨cur, ⟨hM, InsL.srt (show InsL l a (i - 1) cur from (show k = i - 1 by omega) ▸ hI) (by omega) hjb (fun p q h1 h2 h3 => hs2 p q (by omega) h2 h3) (fun q h1 h2 => hA q (by omega) h2) hB⟩, rfl⟩
                        | exact ⟨cur, ⟨hM, InsB.srt (show InsB l m i cur from (show k = i by omega) ▸ hI) hmi hjb (by omega) hs1 hA hB⟩, rfl⟩
                        | exact ⟨_, hC.done hR hM1 hM2, rfl⟩
                        | exact ⟨_, hC.done hR hM1 (SrtQ.same hsa2 hsb2 (by omega)), rfl⟩
                    · skip
                      refine l_val rfl (o_pickT rfl rfl) ?_
                      refine l_nil ?_
                      refine kt_norm ?_
                      refine v_sel [0, 3, 4, 18, 24, 213] [1000] rfl rfl ?_
                      refine v_condF rfl ?_
                      refine v_skip ?_
                      refine ⟨[], ResAll.nil, ?_⟩
                      first
                        | exact ⟨cur, ⟨hM, InsL.srt (show InsL l a (i - 1) cur from (show k = i - 1 by omega) ▸ hI) (by omega) hjb (fun p q h1 h2 h3 => hs2 p q (by omega) h2 h3) (fun q h1 h2 => hA q (by omega) h2) hB⟩, rfl⟩
                        | exact ⟨cur, ⟨hM, InsB.srt (show InsB l m i cur from (show k = i by omega) ▸ hI) hmi hjb (by omega) hs1 hA hB⟩, rfl⟩
                        | exact ⟨_, hC.done hR hM1 hM2, rfl⟩
                        | exact ⟨_, hC.done hR hM1 (SrtQ.same hsa2 hsb2 (by omega)), rfl⟩
                  · skip
                    refine l_val rfl (o_move rfl) ?_
                    refine l_no rfl ?_
                    refine l_no rfl ?_
                    refine l_no rfl ?_
                    refine l_val rfl (o_pickF rfl rfl) ?_
                    refine l_nil ?_
                    refine kt_norm ?_
                    refine v_sel [0, 3, 4, 18, 24, 213] [1000] rfl rfl ?_
                    refine v_condF rfl ?_
                    refine v_skip ?_
                    refine ⟨[], ResAll.nil, ?_⟩
                    first
                      | exact ⟨cur, ⟨hM, InsL.srt (show InsL l a (i - 1) cur from (show k = i - 1 by omega) ▸ hI) (by omega) hjb (fun p q h1 h2 h3 => hs2 p q (by omega) h2 h3) (fun q h1 h2 => hA q (by omega) h2) hB⟩, rfl⟩
                      | exact ⟨cur, ⟨hM, InsB.srt (show InsB l m i cur from (show k = i by omega) ▸ hI) hmi hjb (by omega) hs1 hA hB⟩, rfl⟩
                      | exact ⟨_, hC.done hR hM1 hM2, rfl⟩
                      | exact ⟨_, hC.done hR hM1 (SrtQ.same hsa2 hsb2 (by omega)), rfl⟩
              · skip
                refine l_val rfl (o_move rfl) ?_
                refine l_no rfl ?_
                refine l_no rfl ?_
                refine l_no rfl ?_
                refine l_val rfl (o_pickF rfl rfl) ?_
                refine l_nil ?_
                refine kt_norm ?_
                refine v_sel [20, 0, 1, 3, 4, 18, 24, 199] [1000] rfl rfl ?_
                refine v_condF rfl ?_
                refine v_skip ?_
                refine kt_norm ?_
                refine v_seq ?_
                refine v_region ?_
                have hM1 : SrtQ l a ((a + b) / 2) l := SrtQ.same hsa1 hsb1 (by omega)
                have hlen2 : l.length = l.length := hM1.mut_.st.len.trans hlen1
                have hfo2 := hM1.mut_.st.frOk hfo1
                have hsa2 : SrtOn l ((a + b) / 2) ((a + b) / 2 + m - s) := fun p q h1 h2 h3 => by rw [hM1.mut_.out p (.inr h1), hM1.mut_.out q (.inr (by omega))]; exact hC.p3 hR p q h1 h2 h3
                have hsb2 : SrtOn l ((a + b) / 2 + m - s) b := fun p q h1 h2 h3 => by rw [hM1.mut_.out p (.inr (by omega)), hM1.mut_.out q (.inr (by omega))]; exact hC.p4 hR p q h1 h2 h3
                refine l_val rfl (o_move rfl) ?_
                refine l_val rfl (o_move rfl) ?_
                refine l_split rfl (o_lss rfl rfl) (fun q28 => ?_) (fun q28 => ?_)
                · skip
                  refine l_val rfl (o_move rfl) ?_
                  refine l_val rfl (o_move rfl) ?_
                  refine l_val rfl (o_move rfl) ?_
                  refine l_split rfl (o_lss rfl rfl) (fun q29 => ?_) (fun q29 => ?_)
                  · skip
                    refine l_val rfl (o_pickT rfl rfl) ?_
                    refine l_nil ?_
                    refine kt_norm ?_
                    refine v_sel [0, 3, 4, 18, 24, 213] [1000] rfl rfl ?_
                    refine v_condT rfl ?_
                    refine v_region ?_
                    refine l_val rfl (o_move rfl) ?_
                    refine l_val rfl (o_move rfl) ?_
                    refine l_val rfl (o_move rfl) ?_
                    refine l_val rfl (o_move rfl) ?_
                    refine l_val rfl (o_move rfl) ?_
                    refine l_gmutX (ks := []) 1000 (fun lz => SrtQ l ((a + b) / 2) b lz) (fun lz => lz.flatMap eE) (n := l.length) (caps := #[]) (vs := [_, _, _, _, _]) rfl rfl (ent_of Try.func95 rfl rfl) rfl rfl (fun w' hg hh hok2 => ?_) (fun l3 y2 hM2 => ?_)
                    · have hsl : l.length = l.length := hlen2
                      have hres := ih w' v l ((a + b) / 2) ((a + b) / 2 + m - s) b (by omega) (by omega) (by omega) (by omega) (by rw [hsl]; omega) (by rw [hsl]; exact hok2) hfo2 hsa2 hsb2
                      rw [hsl] at hres
                      have e0 : (((a + b) / 2 : Nat) : Int) = ((a : Int) + (b : Int)) % 18446744073709551616 / 2 := by omega
                      have e1 : (((a + b) / 2 + m - s : Nat) : Int) = ((a : Int) + (b : Int)) % 18446744073709551616 / 2 + (m : Int) - (s : Int) := by omega
                      rw [e1] at hres
                      rw [e0] at hres
                      exact hres
                    refine l_nil ?_
                    refine ⟨[], ResAll.nil, ?_⟩
                    first
                      | exact ⟨cur, ⟨hM, InsL.srt (show InsL l a (i - 1) cur from (show k = i - 1 by omega) ▸ hI) (by omega) hjb (fun p q h1 h2 h3 => hs2 p q (by omega) h2 h3) (fun q h1 h2 => hA q (by omega) h2) hB⟩, rfl⟩
                      | exact ⟨cur, ⟨hM, InsB.srt (show InsB l m i cur from (show k = i by omega) ▸ hI) hmi hjb (by omega) hs1 hA hB⟩, rfl⟩
                      | exact ⟨_, hC.done hR hM1 hM2, rfl⟩
                      | exact ⟨_, hC.done hR hM1 (SrtQ.same hsa2 hsb2 (by omega)), rfl⟩
                  · skip
                    refine l_val rfl (o_pickT rfl rfl) ?_
                    refine l_nil ?_
                    refine kt_norm ?_
                    refine v_sel [0, 3, 4, 18, 24, 213] [1000] rfl rfl ?_
                    refine v_condF rfl ?_
                    refine v_skip ?_
                    refine ⟨[], ResAll.nil, ?_⟩
                    first
                      | exact ⟨cur, ⟨hM, InsL.srt (show InsL l a (i - 1) cur from (show k = i - 1 by omega) ▸ hI) (by omega) hjb (fun p q h1 h2 h3 => hs2 p q (by omega) h2 h3) (fun q h1 h2 => hA q (by omega) h2) hB⟩, rfl⟩
                      | exact ⟨cur, ⟨hM, InsB.srt (show InsB l m i cur from (show k = i by omega) ▸ hI) hmi hjb (by omega) hs1 hA hB⟩, rfl⟩
                      | exact ⟨_, hC.done hR hM1 hM2, rfl⟩
                      | exact ⟨_, hC.done hR hM1 (SrtQ.same hsa2 hsb2 (by omega)), rfl⟩
                · skip
                  refine l_val rfl (o_move rfl) ?_
                  refine l_no rfl ?_
                  refine l_no rfl ?_
                  refine l_no rfl ?_
                  refine l_val rfl (o_pickF rfl rfl) ?_
                  refine l_nil ?_
                  refine kt_norm ?_
                  refine v_sel [0, 3, 4, 18, 24, 213] [1000] rfl rfl ?_
                  refine v_condF rfl ?_
                  refine v_skip ?_
                  refine ⟨[], ResAll.nil, ?_⟩
                  first
                    | exact ⟨cur, ⟨hM, InsL.srt (show InsL l a (i - 1) cur from (show k = i - 1 by omega) ▸ hI) (by omega) hjb (fun p q h1 h2 h3 => hs2 p q (by omega) h2 h3) (fun q h1 h2 => hA q (by omega) h2) hB⟩, rfl⟩
                    | exact ⟨cur, ⟨hM, InsB.srt (show InsB l m i cur from (show k = i by omega) ▸ hI) hmi hjb (by omega) hs1 hA hB⟩, rfl⟩
                    | exact ⟨_, hC.done hR hM1 hM2, rfl⟩
                    | exact ⟨_, hC.done hR hM1 (SrtQ.same hsa2 hsb2 (by omega)), rfl⟩
          · skip
            refine l_val rfl (o_move rfl) ?_
            refine l_no rfl ?_
            refine l_no rfl ?_
            refine l_no rfl ?_
            refine l_val rfl (o_pickF rfl rfl) ?_
            refine l_nil ?_
            refine kt_norm ?_
            refine v_sel [20, 0, 1, 2, 3, 4, 18, 24, 185] [1000] rfl rfl ?_
            refine v_condF rfl ?_
            refine v_skip ?_
            refine kt_norm ?_
            refine v_seq ?_
            refine v_seq ?_
            refine v_region ?_
            have hR : RotQ l s m ((a + b) / 2 + m - s) l := RotQ.id (by omega) (by omega) (by omega)
            have hRm := hC.rot hR
            have hlen1 : l.length = l.length := hR.len
            have hfo1 := hRm.st.frOk hfr
            have hsa1 := hC.p1 hR
            have hsb1 := hC.p2 hR
            refine l_val rfl (o_move rfl) ?_
            refine l_val rfl (o_move rfl) ?_
            refine l_split rfl (o_lss rfl rfl) (fun q30 => ?_) (fun q30 => ?_)
            · skip
              refine l_val rfl (o_move rfl) ?_
              refine l_val rfl (o_move rfl) ?_
              refine l_val rfl (o_move rfl) ?_
              refine l_split rfl (o_lss rfl rfl) (fun q31 => ?_) (fun q31 => ?_)
              · skip
                refine l_val rfl (o_pickT rfl rfl) ?_
                refine l_nil ?_
                refine kt_norm ?_
                refine v_sel [20, 0, 1, 3, 4, 18, 24, 199] [1000] rfl rfl ?_
                refine v_condT rfl ?_
                refine v_region ?_
                refine l_val rfl (o_move rfl) ?_
                refine l_val rfl (o_move rfl) ?_
                refine l_val rfl (o_move rfl) ?_
                refine l_val rfl (o_move rfl) ?_
                refine l_val rfl (o_move rfl) ?_
                refine l_gmutX (ks := []) 1000 (fun lz => SrtQ l a ((a + b) / 2) lz) (fun lz => lz.flatMap eE) (n := l.length) (caps := #[]) (vs := [_, _, _, _, _]) rfl rfl (ent_of Try.func95 rfl rfl) rfl rfl (fun w' hg hh hok2 => ?_) (fun l2 y1 hM1 => ?_)
                · have hsl : l.length = l.length := hlen1
                  have hres := ih w' v l a s ((a + b) / 2) (by omega) (by omega) (by omega) (by omega) (by rw [hsl]; omega) (by rw [hsl]; exact hok2) hfo1 hsa1 hsb1
                  rw [hsl] at hres
                  have e0 : (((a + b) / 2 : Nat) : Int) = ((a : Int) + (b : Int)) % 18446744073709551616 / 2 := by omega
                  rw [e0] at hres
                  exact hres
                refine l_nil ?_
                refine kt_norm ?_
                refine v_sel [0, 3, 4, 18, 24] [1000] rfl rfl ?_
                refine v_seq ?_
                refine v_region ?_
                have hlen2 : l2.length = l.length := hM1.mut_.st.len.trans hlen1
                have hfo2 := hM1.mut_.st.frOk hfo1
                have hsa2 : SrtOn l2 ((a + b) / 2) ((a + b) / 2 + m - s) := fun p q h1 h2 h3 => by rw [hM1.mut_.out p (.inr h1), hM1.mut_.out q (.inr (by omega))]; exact hC.p3 hR p q h1 h2 h3
                have hsb2 : SrtOn l2 ((a + b) / 2 + m - s) b := fun p q h1 h2 h3 => by rw [hM1.mut_.out p (.inr (by omega)), hM1.mut_.out q (.inr (by omega))]; exact hC.p4 hR p q h1 h2 h3
                refine l_val rfl (o_move rfl) ?_
                refine l_val rfl (o_move rfl) ?_
                refine l_split rfl (o_lss rfl rfl) (fun q32 => ?_) (fun q32 => ?_)
                · skip
                  refine l_val rfl (o_move rfl) ?_
                  refine l_val rfl (o_move rfl) ?_
                  refine l_val rfl (o_move rfl) ?_
                  refine l_split rfl (o_lss rfl rfl) (fun q33 => ?_) (fun q33 => ?_)
                  · skip
                    refine l_val rfl (o_pickT rfl rfl) ?_
                    refine l_nil ?_
                    refine kt_norm ?_
                    refine v_sel [0, 3, 4, 18, 24, 213] [1000] rfl rfl ?_
                    refine v_condT rfl ?_
                    refine v_region ?_
                    refine l_val rfl (o_move rfl) ?_
                    refine l_val rfl (o_move rfl) ?_
                    refine l_val rfl (o_move rfl) ?_
                    refine l_val rfl (o_move rfl) ?_
                    refine l_val rfl (o_move rfl) ?_
                    refine l_gmutX (ks := []) 1000 (fun lz => SrtQ l2 ((a + b) / 2) b lz) (fun lz => lz.flatMap eE) (n := l.length) (caps := #[]) (vs := [_, _, _, _, _]) rfl rfl (ent_of Try.func95 rfl rfl) rfl rfl (fun w' hg hh hok2 => ?_) (fun l3 y2 hM2 => ?_)
                    · have hsl : l2.length = l.length := hlen2
                      have hres := ih w' v l2 ((a + b) / 2) ((a + b) / 2 + m - s) b (by omega) (by omega) (by omega) (by omega) (by rw [hsl]; omega) (by rw [hsl]; exact hok2) hfo2 hsa2 hsb2
                      rw [hsl] at hres
                      have e0 : (((a + b) / 2 : Nat) : Int) = ((a : Int) + (b : Int)) % 18446744073709551616 / 2 := by omega
                      have e1 : (((a + b) / 2 + m - s : Nat) : Int) = ((a : Int) + (b : Int)) % 18446744073709551616 / 2 + (m : Int) - (s : Int) := by omega
                      rw [e1] at hres
                      rw [e0] at hres
                      exact hres
                    refine l_nil ?_
                    refine ⟨[], ResAll.nil, ?_⟩
                    first
                      | exact ⟨cur, ⟨hM, InsL.srt (show InsL l a (i - 1) cur from (show k = i - 1 by omega) ▸ hI) (by omega) hjb (fun p q h1 h2 h3 => hs2 p q (by omega) h2 h3) (fun q h1 h2 => hA q (by omega) h2) hB⟩, rfl⟩
                      | exact ⟨cur, ⟨hM, InsB.srt (show InsB l m i cur from (show k = i by omega) ▸ hI) hmi hjb (by omega) hs1 hA hB⟩, rfl⟩
                      | exact ⟨_, hC.done hR hM1 hM2, rfl⟩
                      | exact ⟨_, hC.done hR hM1 (SrtQ.same hsa2 hsb2 (by omega)), rfl⟩
                  · skip
                    refine l_val rfl (o_pickT rfl rfl) ?_
                    refine l_nil ?_
                    refine kt_norm ?_
                    refine v_sel [0, 3, 4, 18, 24, 213] [1000] rfl rfl ?_
                    refine v_condF rfl ?_
                    refine v_skip ?_
                    refine ⟨[], ResAll.nil, ?_⟩
                    first
                      | exact ⟨cur, ⟨hM, InsL.srt (show InsL l a (i - 1) cur from (show k = i - 1 by omega) ▸ hI) (by omega) hjb (fun p q h1 h2 h3 => hs2 p q (by omega) h2 h3) (fun q h1 h2 => hA q (by omega) h2) hB⟩, rfl⟩
                      | exact ⟨cur, ⟨hM, InsB.srt (show InsB l m i cur from (show k = i by omega) ▸ hI) hmi hjb (by omega) hs1 hA hB⟩, rfl⟩
                      | exact ⟨_, hC.done hR hM1 hM2, rfl⟩
                      | exact ⟨_, hC.done hR hM1 (SrtQ.same hsa2 hsb2 (by omega)), rfl⟩
                · skip
                  refine l_val rfl (o_move rfl) ?_
                  refine l_no rfl ?_
                  refine l_no rfl ?_
                  refine l_no rfl ?_
                  refine l_val rfl (o_pickF rfl rfl) ?_
                  refine l_nil ?_
                  refine kt_norm ?_
                  refine v_sel [0, 3, 4, 18, 24, 213] [1000] rfl rfl ?_
                  refine v_condF rfl ?_
                  refine v_skip ?_
                  refine ⟨[], ResAll.nil, ?_⟩
                  first
                    | exact ⟨cur, ⟨hM, InsL.srt (show InsL l a (i - 1) cur from (show k = i - 1 by omega) ▸ hI) (by omega) hjb (fun p q h1 h2 h3 => hs2 p q (by omega) h2 h3) (fun q h1 h2 => hA q (by omega) h2) hB⟩, rfl⟩
                    | exact ⟨cur, ⟨hM, InsB.srt (show InsB l m i cur from (show k = i by omega) ▸ hI) hmi hjb (by omega) hs1 hA hB⟩, rfl⟩
                    | exact ⟨_, hC.done hR hM1 hM2, rfl⟩
                    | exact ⟨_, hC.done hR hM1 (SrtQ.same hsa2 hsb2 (by omega)), rfl⟩
              · skip
                refine l_val rfl (o_pickT rfl rfl) ?_
                refine l_nil ?_
                refine kt_norm ?_
                refine v_sel [20, 0, 1, 3, 4, 18, 24, 199] [1000] rfl rfl ?_
                refine v_condF rfl ?_
                refine v_skip ?_
                refine kt_norm ?_
                refine v_seq ?_
                refine v_region ?_
                have hM1 : SrtQ l a ((a + b) / 2) l := SrtQ.same hsa1 hsb1 (by omega)
                have hlen2 : l.length = l.length := hM1.mut_.st.len.trans hlen1
                have hfo2 := hM1.mut_.st.frOk hfo1
                have hsa2 : SrtOn l ((a + b) / 2) ((a + b) / 2 + m - s) := fun p q h1 h2 h3 => by rw [hM1.mut_.out p (.inr h1), hM1.mut_.out q (.inr (by omega))]; exact hC.p3 hR p q h1 h2 h3
                have hsb2 : SrtOn l ((a + b) / 2 + m - s) b := fun p q h1 h2 h3 => by rw [hM1.mut_.out p (.inr (by omega)), hM1.mut_.out q (.inr (by omega))]; exact hC.p4 hR p q h1 h2 h3
                refine l_val rfl (o_move rfl) ?_
                refine l_val rfl (o_move rfl) ?_
                refine l_split rfl (o_lss rfl rfl) (fun q34 => ?_) (fun q34 => ?_)
                · skip
                  refine l_val rfl (o_move rfl) ?_
                  refine l_val rfl (o_move rfl) ?_
                  refine l_val rfl (o_move rfl) ?_
                  refine l_split rfl (o_lss rfl rfl) (fun q35 => ?_) (fun q35 => ?_)
                  · skip
                    refine l_val rfl (o_pickT rfl rfl) ?_
                    refine l_nil ?_
                    refine kt_norm ?_
                    refine v_sel [0, 3, 4, 18, 24, 213] [1000] rfl rfl ?_
                    refine v_condT rfl ?_
                    refine v_region ?_
                    refine l_val rfl (o_move rfl) ?_
                    refine l_val rfl (o_move rfl) ?_
                    refine l_val rfl (o_move rfl) ?_
                    refine l_val rfl (o_move rfl) ?_
                    refine l_val rfl (o_move rfl) ?_
                    refine l_gmutX (ks := []) 1000 (fun lz => SrtQ l ((a + b) / 2) b lz) (fun lz => lz.flatMap eE) (n := l.length) (caps := #[]) (vs := [_, _, _, _, _]) rfl rfl (ent_of Try.func95 rfl rfl) rfl rfl (fun w' hg hh hok2 => ?_) (fun l3 y2 hM2 => ?_)
                    · have hsl : l.length = l.length := hlen2
                      have hres := ih w' v l ((a + b) / 2) ((a + b) / 2 + m - s) b (by omega) (by omega) (by omega) (by omega) (by rw [hsl]; omega) (by rw [hsl]; exact hok2) hfo2 hsa2 hsb2
                      rw [hsl] at hres
                      have e0 : (((a + b) / 2 : Nat) : Int) = ((a : Int) + (b : Int)) % 18446744073709551616 / 2 := by omega
                      have e1 : (((a + b) / 2 + m - s : Nat) : Int) = ((a : Int) + (b : Int)) % 18446744073709551616 / 2 + (m : Int) - (s : Int) := by omega
                      rw [e1] at hres
                      rw [e0] at hres
                      exact hres
                    refine l_nil ?_
                    refine ⟨[], ResAll.nil, ?_⟩
                    first
                      | exact ⟨cur, ⟨hM, InsL.srt (show InsL l a (i - 1) cur from (show k = i - 1 by omega) ▸ hI) (by omega) hjb (fun p q h1 h2 h3 => hs2 p q (by omega) h2 h3) (fun q h1 h2 => hA q (by omega) h2) hB⟩, rfl⟩
                      | exact ⟨cur, ⟨hM, InsB.srt (show InsB l m i cur from (show k = i by omega) ▸ hI) hmi hjb (by omega) hs1 hA hB⟩, rfl⟩
                      | exact ⟨_, hC.done hR hM1 hM2, rfl⟩
                      | exact ⟨_, hC.done hR hM1 (SrtQ.same hsa2 hsb2 (by omega)), rfl⟩
                  · skip
                    refine l_val rfl (o_pickT rfl rfl) ?_
                    refine l_nil ?_
                    refine kt_norm ?_
                    refine v_sel [0, 3, 4, 18, 24, 213] [1000] rfl rfl ?_
                    refine v_condF rfl ?_
                    refine v_skip ?_
                    refine ⟨[], ResAll.nil, ?_⟩
                    first
                      | exact ⟨cur, ⟨hM, InsL.srt (show InsL l a (i - 1) cur from (show k = i - 1 by omega) ▸ hI) (by omega) hjb (fun p q h1 h2 h3 => hs2 p q (by omega) h2 h3) (fun q h1 h2 => hA q (by omega) h2) hB⟩, rfl⟩
                      | exact ⟨cur, ⟨hM, InsB.srt (show InsB l m i cur from (show k = i by omega) ▸ hI) hmi hjb (by omega) hs1 hA hB⟩, rfl⟩
                      | exact ⟨_, hC.done hR hM1 hM2, rfl⟩
                      | exact ⟨_, hC.done hR hM1 (SrtQ.same hsa2 hsb2 (by omega)), rfl⟩
                · skip
                  refine l_val rfl (o_move rfl) ?_
                  refine l_no rfl ?_
                  refine l_no rfl ?_
                  refine l_no rfl ?_
                  refine l_val rfl (o_pickF rfl rfl) ?_
                  refine l_nil ?_
                  refine kt_norm ?_
                  refine v_sel [0, 3, 4, 18, 24, 213] [1000] rfl rfl ?_
                  refine v_condF rfl ?_
                  refine v_skip ?_
                  refine ⟨[], ResAll.nil, ?_⟩
                  first
                    | exact ⟨cur, ⟨hM, InsL.srt (show InsL l a (i - 1) cur from (show k = i - 1 by omega) ▸ hI) (by omega) hjb (fun p q h1 h2 h3 => hs2 p q (by omega) h2 h3) (fun q h1 h2 => hA q (by omega) h2) hB⟩, rfl⟩
                    | exact ⟨cur, ⟨hM, InsB.srt (show InsB l m i cur from (show k = i by omega) ▸ hI) hmi hjb (by omega) hs1 hA hB⟩, rfl⟩
                    | exact ⟨_, hC.done hR hM1 hM2, rfl⟩
                    | exact ⟨_, hC.done hR hM1 (SrtQ.same hsa2 hsb2 (by omega)), rfl⟩
            · skip
              refine l_val rfl (o_move rfl) ?_
              refine l_no rfl ?_
              refine l_no rfl ?_
              refine l_no rfl ?_
              refine l_val rfl (o_pickF rfl rfl) ?_
              refine l_nil ?_
              refine kt_norm ?_
              refine v_sel [20, 0, 1, 3, 4, 18, 24, 199] [1000] rfl rfl ?_
              refine v_condF rfl ?_
              refine v_skip ?_
              refine kt_norm ?_
              refine v_seq ?_
              refine v_region ?_
              have hM1 : SrtQ l a ((a + b) / 2) l := SrtQ.same hsa1 hsb1 (by omega)
              have hlen2 : l.length = l.length := hM1.mut_.st.len.trans hlen1
              have hfo2 := hM1.mut_.st.frOk hfo1
              have hsa2 : SrtOn l ((a + b) / 2) ((a + b) / 2 + m - s) := fun p q h1 h2 h3 => by rw [hM1.mut_.out p (.inr h1), hM1.mut_.out q (.inr (by omega))]; exact hC.p3 hR p q h1 h2 h3
              have hsb2 : SrtOn l ((a + b) / 2 + m - s) b := fun p q h1 h2 h3 => by rw [hM1.mut_.out p (.inr (by omega)), hM1.mut_.out q (.inr (by omega))]; exact hC.p4 hR p q h1 h2 h3
              refine l_val rfl (o_move rfl) ?_
              refine l_val rfl (o_move rfl) ?_
              refine l_split rfl (o_lss rfl rfl) (fun q36 => ?_) (fun q36 => ?_)
              · skip
                refine l_val rfl (o_move rfl) ?_
                refine l_val rfl (o_move rfl) ?_
                refine l_val rfl (o_move rfl) ?_
                refine l_split rfl (o_lss rfl rfl) (fun q37 => ?_) (fun q37 => ?_)
                · skip
                  refine l_val rfl (o_pickT rfl rfl) ?_
                  refine l_nil ?_
                  refine kt_norm ?_
                  refine v_sel [0, 3, 4, 18, 24, 213] [1000] rfl rfl ?_
                  refine v_condT rfl ?_
                  refine v_region ?_
                  refine l_val rfl (o_move rfl) ?_
                  refine l_val rfl (o_move rfl) ?_
                  refine l_val rfl (o_move rfl) ?_
                  refine l_val rfl (o_move rfl) ?_
                  refine l_val rfl (o_move rfl) ?_
                  refine l_gmutX (ks := []) 1000 (fun lz => SrtQ l ((a + b) / 2) b lz) (fun lz => lz.flatMap eE) (n := l.length) (caps := #[]) (vs := [_, _, _, _, _]) rfl rfl (ent_of Try.func95 rfl rfl) rfl rfl (fun w' hg hh hok2 => ?_) (fun l3 y2 hM2 => ?_)
                  · have hsl : l.length = l.length := hlen2
                    have hres := ih w' v l ((a + b) / 2) ((a + b) / 2 + m - s) b (by omega) (by omega) (by omega) (by omega) (by rw [hsl]; omega) (by rw [hsl]; exact hok2) hfo2 hsa2 hsb2
                    rw [hsl] at hres
                    have e0 : (((a + b) / 2 : Nat) : Int) = ((a : Int) + (b : Int)) % 18446744073709551616 / 2 := by omega
                    have e1 : (((a + b) / 2 + m - s : Nat) : Int) = ((a : Int) + (b : Int)) % 18446744073709551616 / 2 + (m : Int) - (s : Int) := by omega
                    rw [e1] at hres
                    rw [e0] at hres
                    exact hres
                  refine l_nil ?_
                  refine ⟨[], ResAll.nil, ?_⟩
                  first
                    | exact ⟨cur, ⟨hM, InsL.srt (show InsL l a (i - 1) cur from (show k = i - 1 by omega) ▸ hI) (by omega) hjb (fun p q h1 h2 h3 => hs2 p q (by omega) h2 h3) (fun q h1 h2 => hA q (by omega) h2) hB⟩, rfl⟩
                    | exact ⟨cur, ⟨hM, InsB.srt (show InsB l m i cur from (show k = i by omega) ▸ hI) hmi hjb (by omega) hs1 hA hB⟩, rfl⟩
                    | exact ⟨_, hC.done hR hM1 hM2, rfl⟩
                    | exact ⟨_, hC.done hR hM1 (SrtQ.same hsa2 hsb2 (by omega)), rfl⟩
                · skip
                  refine l_val rfl (o_pickT rfl rfl) ?_
                  refine l_nil ?_
                  refine kt_norm ?_
                  refine v_sel [0, 3, 4, 18, 24, 213] [1000] rfl rfl ?_
                  refine v_condF rfl ?_
                  refine v_skip ?_
                  refine ⟨[], ResAll.nil, ?_⟩
                  first
                    | exact ⟨cur, ⟨hM, InsL.srt (show InsL l a (i - 1) cur from (show k = i - 1 by omega) ▸ hI) (by omega) hjb (fun p q h1 h2 h3 => hs2 p q (by omega) h2 h3) (fun q h1 h2 => hA q (by omega) h2) hB⟩, rfl⟩
                    | exact ⟨cur, ⟨hM, InsB.srt (show InsB l m i cur from (show k = i by omega) ▸ hI) hmi hjb (by omega) hs1 hA hB⟩, rfl⟩
                    | exact ⟨_, hC.done hR hM1 hM2, rfl⟩
                    | exact ⟨_, hC.done hR hM1 (SrtQ.same hsa2 hsb2 (by omega)), rfl⟩
              · skip
                refine l_val rfl (o_move rfl) ?_
                refine l_no rfl ?_
                refine l_no rfl ?_
                refine l_no rfl ?_
                refine l_val rfl (o_pickF rfl rfl) ?_
                refine l_nil ?_
                refine kt_norm ?_
                refine v_sel [0, 3, 4, 18, 24, 213] [1000] rfl rfl ?_
                refine v_condF rfl ?_
                refine v_skip ?_
                refine ⟨[], ResAll.nil, ?_⟩
                first
                  | exact ⟨cur, ⟨hM, InsL.srt (show InsL l a (i - 1) cur from (show k = i - 1 by omega) ▸ hI) (by omega) hjb (fun p q h1 h2 h3 => hs2 p q (by omega) h2 h3) (fun q h1 h2 => hA q (by omega) h2) hB⟩, rfl⟩
                  | exact ⟨cur, ⟨hM, InsB.srt (show InsB l m i cur from (show k = i by omega) ▸ hI) hmi hjb (by omega) hs1 hA hB⟩, rfl⟩
                  | exact ⟨_, hC.done hR hM1 hM2, rfl⟩
                  | exact ⟨_, hC.done hR hM1 (SrtQ.same hsa2 hsb2 (by omega)), rfl⟩
      · obtain ⟨lo, hlo⟩ : ∃ lo, lo = a := ⟨_, rfl⟩
        obtain ⟨hi, hhi⟩ : ∃ hi, hi = m := ⟨_, rfl⟩
        refine l_nil ?_
        refine kt_norm ?_
        refine v_sel [0, 1, 2, 3, 4, 18, 19, 140] [1000] rfl rfl ?_
        refine v_condF rfl ?_
        refine v_seq ?_
        refine v_region ?_
        refine l_val rfl (o_move rfl) ?_
        refine l_val rfl (o_assign rfl) ?_
        refine l_nil ?_
        refine kt_norm ?_
        refine v_region ?_
        refine l_val rfl (o_move rfl) ?_
        refine l_val rfl (o_assign rfl) ?_
        refine l_nil ?_
        refine kt_norm ?_
        refine v_seq ?_
        refine v_region ?_
        refine l_val rfl (o_move rfl) ?_
        refine l_val rfl (o_subi rfl rfl ?_) ?_
        · omega
        refine l_val rfl (o_assign rfl) ?_
        refine l_nil ?_
        refine kt_norm ?_
        refine v_seq ?_
        refine v_block ?_
        refine v_loopS (α := Nat × Nat) (fun ⟨s, r⟩ => [(20, .int .i64 (s : Int)), (21, .int .i64 (r : Int))]) (fun ⟨s, r⟩ => [])  (fun ⟨s, r⟩ => lo ≤ s ∧ s ≤ r ∧ r ≤ hi ∧ (∀ c, lo ≤ c → c < s → (l.getD c dE).fr ≤ (l.getD ((a + b) / 2 + m - 1 - c) dE).fr) ∧ (∀ c, r ≤ c → c < hi → (l.getD ((a + b) / 2 + m - 1 - c) dE).fr < (l.getD c dE).fr)) (fun ⟨s, r⟩ => r - s) (lo, hi) [0, 1, 2, 3, 4, 18, 19, 22] [1000] ⟨Nat.le_refl _, by omega, Nat.le_refl _, fun c h1 h2 => by omega, fun c h1 h2 => by omega⟩  (And.intro (congrArg (fun q => some (Value.int .i64 q)) (by omega)) (And.intro (congrArg (fun q => some (Value.int .i64 q)) (by omega)) (True.intro))) rfl (True.intro) rfl ?_
        rintro ⟨s, r⟩ ⟨hls, hsr, hrh, hA, hB⟩
        refine v_seq ?_
        refine v_seq ?_
        refine v_region ?_
        refine l_val rfl (o_move rfl) ?_
        refine l_val rfl (o_move rfl) ?_
        refine l_split rfl (o_lss rfl rfl) (fun q38 => ?_) (fun q38 => ?_)
        · skip
          refine l_nil ?_
          refine kt_norm ?_
          refine v_condT rfl ?_
          refine v_skip ?_
          refine kt_norm ?_
          refine v_block ?_
          refine v_seq ?_
          refine v_region ?_
          refine l_val rfl (o_move rfl) ?_
          refine l_val rfl (o_move rfl) ?_
          refine l_val rfl (o_addi rfl rfl ?_) ?_
          · omega
          refine l_val rfl (o_convu rfl) ?_
          refine l_val rfl (o_shr (n := 1) (p := 2) rfl rfl (by decide) rfl (by decide)) ?_
          refine l_val rfl (o_convi rfl ?_) ?_
          · omega
          refine l_val rfl (o_assign rfl) ?_
          refine l_nil ?_
          refine kt_norm ?_
          refine v_sel [20, 21, 0, 1, 2, 3, 4, 18, 19, 22, 23] [1000] rfl rfl ?_
          refine v_seq ?_
          refine v_drawZ [[], [], [], [], [], [], [1000], [], [], [], [1000], [], [], []] mixed ?_ (by kernel_rfl) (by kernel_rfl)
          refine d_val (fun _ => rfl) rfl rfl (fun _ => o_move rfl) ?_
          refine d_val (fun _ => rfl) rfl rfl (fun _ => o_move rfl) ?_
          refine d_val (fun _ => rfl) rfl rfl (fun _ => o_move rfl) ?_
          refine d_val (fun _ => rfl) rfl rfl (fun _ => o_move rfl) ?_
          refine d_val (fun _ => rfl) rfl rfl (fun _ => o_subi rfl rfl ?_) ?_
          · omega
          refine d_val (fun _ => rfl) rfl rfl (fun _ => o_idx ((a + b) / 2 + m - 1 - (s + r) / 2) rfl hV rfl (by first | rfl | omega) (by omega)) ?_
          refine d_val (fun _ => rfl) rfl rfl (fun _ => o_loadRE (c' := [_, _, _, _, _, _, _]) rfl (row_own (key := 1000) rfl) (el_flat eE_len dE l ((a + b) / 2 + m - 1 - (s + r) / 2) (by omega)) rfl) ?_
          refine d_val (fun _ => rfl) rfl rfl (fun _ => o_move rfl) ?_
          refine d_val (fun _ => rfl) rfl rfl (fun _ => o_move rfl) ?_
          refine d_val (fun _ => rfl) rfl rfl (fun _ => o_idx (((s + r) / 2)) rfl hV rfl (by first | rfl | omega) (by omega)) ?_
          refine d_val (fun _ => rfl) rfl rfl (fun _ => o_loadRE (c' := [_, _, _, _, _, _, _]) rfl (row_own (key := 1000) rfl) (el_flat eE_len dE l (((s + r) / 2)) (by omega)) rfl) ?_
          refine d_ansv (vs := [_, _]) (fun _ => rfl) (fun _ => rfl) (fun _ => rfl) (a_CmpF (l.getD ((a + b) / 2 + m - 1 - (s + r) / 2) dE) (l.getD (((s + r) / 2)) dE) (frOk_getD hfr (by omega)) (frOk_getD hfr (by omega))) ?_
          refine d_lss (fun _ => rfl) (fun _ => rfl) (fun _ => rfl) (fun q39 => ?_) (fun q39 => ?_)
          · skip
            refine d_val (fun _ => rfl) rfl rfl (fun _ => o_not rfl rfl) ?_
            refine d_nil (fun σ => ?_)
            refine l_nil ?_
            refine kt_norm ?_
            refine v_sel [20, 21, 0, 1, 2, 3, 4, 18, 19, 22, 23, 171] [1000] rfl rfl ?_
            refine v_condF rfl ?_
            refine v_region ?_
            refine l_val rfl (o_move rfl) ?_
            refine l_val rfl (o_assign rfl) ?_
            refine l_nil ?_
            refine kb_norm ?_
            refine kt_norm ?_
            refine ⟨(s, ((s + r) / 2)), ⟨hls, by omega, by omega, hA, fun c h1 h2 => by (by_cases c2 : c = (s + r) / 2); (rw [c2]; omega); (by_cases c3 : r ≤ c); exact hB c c3 h2; (have := hs1 ((s + r) / 2) c (by omega) (by omega) (by omega)); (have := hs2 ((a + b) / 2 + m - 1 - c) ((a + b) / 2 + m - 1 - (s + r) / 2) (by omega) (by omega) (by omega)); omega⟩, (by show (s + r) / 2 - s < r - s; omega), le_app (And.intro rfl (And.intro (congrArg (fun q => some (Value.int .i64 q)) (by omega)) (True.intro))) [0, 1, 2, 3, 4, 18, 19, 22] rfl (True.intro) [1000] rfl⟩
          · skip
            refine d_val (fun _ => rfl) rfl rfl (fun _ => o_not rfl rfl) ?_
            refine d_nil (fun σ => ?_)
            refine l_nil ?_
            refine kt_norm ?_
            refine v_sel [20, 21, 0, 1, 2, 3, 4, 18, 19, 22, 23, 171] [1000] rfl rfl ?_
            refine v_condT rfl ?_
            refine v_region ?_
            refine l_val rfl (o_move rfl) ?_
            refine l_val rfl (o_addi rfl rfl ?_) ?_
            · omega
            refine l_val rfl (o_assign rfl) ?_
            refine l_nil ?_
            refine kb_norm ?_
            refine kt_norm ?_
            refine ⟨(((s + r) / 2) + 1, r), ⟨by omega, by omega, hrh, fun c h1 h2 => by (by_cases c2 : c = (s + r) / 2); (rw [c2]; omega); (by_cases c3 : c < s); exact hA c h1 c3; (have := hs1 c ((s + r) / 2) (by omega) (by omega) (by omega)); (have := hs2 ((a + b) / 2 + m - 1 - (s + r) / 2) ((a + b) / 2 + m - 1 - c) (by omega) (by omega) (by omega)); omega, hB⟩, (by show r - ((s + r) / 2 + 1) < r - s; omega), le_app (And.intro (congrArg (fun q => some (Value.int .i64 q)) (by omega)) (And.intro rfl (True.intro))) [0, 1, 2, 3, 4, 18, 19, 22] rfl (True.intro) [1000] rfl⟩
        · skip
          refine l_nil ?_
          refine kt_norm ?_
          refine v_condF rfl ?_
          refine v_exit ?_
          refine kt_exit ?_
          refine kt_exit ?_
          refine kb_eq ?_
          refine kt_norm ?_
          refine v_seq ?_
          refine v_region ?_
          obtain rfl : s = r := by omega
          have hC := cut_of (mid := (a + b) / 2) ham hmb hb rfl (lo := lo) (hi := hi) (s := s) (by omega) hls hrh hs1 hs2 hA hB
          refine l_val rfl (o_move rfl) ?_
          refine l_val rfl (o_move rfl) ?_
          refine l_val rfl (o_subi rfl rfl ?_) ?_
          · omega
          refine l_val rfl (o_assign rfl) ?_
          refine l_nil ?_
          refine kt_norm ?_
          refine v_sel [20, 0, 1, 2, 3, 4, 18, 24] [1000] rfl rfl ?_
          refine v_seq ?_
          refine v_seq ?_
          refine v_region ?_
          refine l_val rfl (o_move rfl) ?_
          refine l_val rfl (o_move rfl) ?_
          refine l_split rfl (o_lss rfl rfl) (fun q40 => ?_) (fun q40 => ?_)
          · skip
            refine l_val rfl (o_move rfl) ?_
            refine l_val rfl (o_move rfl) ?_
            refine l_val rfl (o_move rfl) ?_
            refine l_split rfl (o_lss rfl rfl) (fun q41 => ?_) (fun q41 => ?_)
            · skip
              refine l_val rfl (o_pickT rfl rfl) ?_
              refine l_nil ?_
              refine kt_norm ?_
              refine v_sel [20, 0, 1, 2, 3, 4, 18, 24, 185] [1000] rfl rfl ?_
              refine v_condT rfl ?_
              refine v_region ?_
              refine l_val rfl (o_move rfl) ?_
              refine l_val rfl (o_move rfl) ?_
              refine l_val rfl (o_move rfl) ?_
              refine l_val rfl (o_move rfl) ?_
              refine l_val rfl (o_move rfl) ?_
              refine l_gmutX (ks := []) 1000 (fun l1 => RotQ l s m ((a + b) / 2 + m - s) l1) (fun l1 => l1.flatMap eE) (n := l.length) (caps := #[]) (vs := [_, _, _, _, _]) rfl rfl (ent_of Try.func104 rfl rfl) rfl rfl (fun w' hg hh hok2 => ?_) (fun l1 y1 hR => ?_)
              · have hres := a_Rotate w' v l s m ((a + b) / 2 + m - s) (by omega) (by omega) (by omega) (by omega) hok2
                have e0 : (((a + b) / 2 + m - s : Nat) : Int) = ((a : Int) + (b : Int)) % 18446744073709551616 / 2 + (m : Int) - (s : Int) := by omega
                rw [e0] at hres
                exact hres
              refine l_nil ?_
              refine kt_norm ?_
              refine v_sel [20, 0, 1, 3, 4, 18, 24] [1000] rfl rfl ?_
              refine v_seq ?_
              refine v_seq ?_
              refine v_region ?_
              have hRm := hC.rot hR
              have hlen1 : l1.length = l.length := hR.len
              have hfo1 := hRm.st.frOk hfr
              have hsa1 := hC.p1 hR
              have hsb1 := hC.p2 hR
              refine l_val rfl (o_move rfl) ?_
              refine l_val rfl (o_move rfl) ?_
              refine l_split rfl (o_lss rfl rfl) (fun q42 => ?_) (fun q42 => ?_)
              · skip
                refine l_val rfl (o_move rfl) ?_
                refine l_val rfl (o_move rfl) ?_
                refine l_val rfl (o_move rfl) ?_
                refine l_split rfl (o_lss rfl rfl) (fun q43 => ?_) (fun q43 => ?_)
                · skip
                  refine l_val rfl (o_pickT rfl rfl) ?_
                  refine l_nil ?_
                  refine kt_norm ?_
                  refine v_sel [20, 0, 1, 3, 4, 18, 24, 199] [1000] rfl rfl ?_
                  refine v_condT rfl ?_
                  refine v_region ?_
                  refine l_val rfl (o_move rfl) ?_
                  refine l_val rfl (o_move rfl) ?_
                  refine l_val rfl (o_move rfl) ?_
                  refine l_val rfl (o_move rfl) ?_
                  refine l_val rfl (o_move rfl) ?_
                  refine l_gmutX (ks := []) 1000 (fun lz => SrtQ l1 a ((a + b) / 2) lz) (fun lz => lz.flatMap eE) (n := l.length) (caps := #[]) (vs := [_, _, _, _, _]) rfl rfl (ent_of Try.func95 rfl rfl) rfl rfl (fun w' hg hh hok2 => ?_) (fun l2 y1 hM1 => ?_)
                  · have hsl : l1.length = l.length := hlen1
                    have hres := ih w' v l1 a s ((a + b) / 2) (by omega) (by omega) (by omega) (by omega) (by rw [hsl]; omega) (by rw [hsl]; exact hok2) hfo1 hsa1 hsb1
                    rw [hsl] at hres
                    have e0 : (((a + b) / 2 : Nat) : Int) = ((a : Int) + (b : Int)) % 18446744073709551616 / 2 := by omega
                    rw [e0] at hres
                    exact hres
                  refine l_nil ?_
                  refine kt_norm ?_
                  refine v_sel [0, 3, 4, 18, 24] [1000] rfl rfl ?_
                  refine v_seq ?_
                  refine v_region ?_
                  have hlen2 : l2.length = l.length := hM1.mut_.st.len.trans hlen1
                  have hfo2 := hM1.mut_.st.frOk hfo1
                  have hsa2 : SrtOn l2 ((a + b) / 2) ((a + b) / 2 + m - s) := fun p q h1 h2 h3 => by rw [hM1.mut_.out p (.inr h1), hM1.mut_.out q (.inr (by omega))]; exact hC.p3 hR p q h1 h2 h3
                  have hsb2 : SrtOn l2 ((a + b) / 2 + m - s) b := fun p q h1 h2 h3 => by rw [hM1.mut_.out p (.inr (by omega)), hM1.mut_.out q (.inr (by omega))]; exact hC.p4 hR p q h1 h2 h3
                  refine l_val rfl (o_move rfl) ?_
                  refine l_val rfl (o_move rfl) ?_
                  refine l_split rfl (o_lss rfl rfl) (fun q44 => ?_) (fun q44 => ?_)
                  · skip
                    refine l_val rfl (o_move rfl) ?_
                    refine l_val rfl (o_move rfl) ?_
                    refine l_val rfl (o_move rfl) ?_
                    refine l_split rfl (o_lss rfl rfl) (fun q45 => ?_) (fun q45 => ?_)
                    · skip
                      refine l_val rfl (o_pickT rfl rfl) ?_
                      refine l_nil ?_
                      refine kt_norm ?_
                      refine v_sel [0, 3, 4, 18, 24, 213] [1000] rfl rfl ?_
                      refine v_condT rfl ?_
                      refine v_region ?_
                      refine l_val rfl (o_move rfl) ?_
                      refine l_val rfl (o_move rfl) ?_
                      refine l_val rfl (o_move rfl) ?_
                      refine l_val rfl (o_move rfl) ?_
                      refine l_val rfl (o_move rfl) ?_
                      refine l_gmutX (ks := []) 1000 (fun lz => SrtQ l2 ((a + b) / 2) b lz) (fun lz => lz.flatMap eE) (n := l.length) (caps := #[]) (vs := [_, _, _, _, _]) rfl rfl (ent_of Try.func95 rfl rfl) rfl rfl (fun w' hg hh hok2 => ?_) (fun l3 y2 hM2 => ?_)
                      · have hsl : l2.length = l.length := hlen2
                        have hres := ih w' v l2 ((a + b) / 2) ((a + b) / 2 + m - s) b (by omega) (by omega) (by omega) (by omega) (by rw [hsl]; omega) (by rw [hsl]; exact hok2) hfo2 hsa2 hsb2
                        rw [hsl] at hres
                        have e0 : (((a + b) / 2 : Nat) : Int) = ((a : Int) + (b : Int)) % 18446744073709551616 / 2 := by omega
                        have e1 : (((a + b) / 2 + m - s : Nat) : Int) = ((a : Int) + (b : Int)) % 18446744073709551616 / 2 + (m : Int) - (s : Int) := by omega
                        rw [e1] at hres
                        rw [e0] at hres
                        exact hres
                      refine l_nil ?_
                      refine ⟨[], ResAll.nil, ?_⟩
                      first
                        | exact ⟨cur, ⟨hM, InsL.srt (show InsL l a (i - 1) cur from (show k = i - 1 by omega) ▸ hI) (by omega) hjb (fun p q h1 h2 h3 => hs2 p q (by omega) h2 h3) (fun q h1 h2 => hA q (by omega) h2) hB⟩, rfl⟩
                        | exact ⟨cur, ⟨hM, InsB.srt (show InsB l m i cur from (show k = i by omega) ▸ hI) hmi hjb (by omega) hs1 hA hB⟩, rfl⟩
                        | exact ⟨_, hC.done hR hM1 hM2, rfl⟩
                        | exact ⟨_, hC.done hR hM1 (SrtQ.same hsa2 hsb2 (by omega)), rfl⟩
                    · skip
                      refine l_val rfl (o_pickT rfl rfl) ?_
                      refine l_nil ?_
                      refine kt_norm ?_
                      refine v_sel [0, 3, 4, 18, 24, 213] [1000] rfl rfl ?_
                      refine v_condF rfl ?_
                      refine v_skip ?_
                      refine ⟨[], ResAll.nil, ?_⟩
                      first
                        | exact ⟨cur, ⟨hM, InsL.srt (show InsL l a (i - 1) cur from (show k = i - 1 by omega) ▸ hI) (by omega) hjb (fun p q h1 h2 h3 => hs2 p q (by omega) h2 h3) (fun q h1 h2 => hA q (by omega) h2) hB⟩, rfl⟩
                        | exact ⟨cur, ⟨hM, InsB.srt (show InsB l m i cur from (show k = i by omega) ▸ hI) hmi hjb (by omega) hs1 hA hB⟩, rfl⟩
                        | exact ⟨_, hC.done hR hM1 hM2, rfl⟩
                        | exact ⟨_, hC.done hR hM1 (SrtQ.same hsa2 hsb2 (by omega)), rfl⟩
                  · skip
                    refine l_val rfl (o_move rfl) ?_
                    refine l_no rfl ?_
                    refine l_no rfl ?_
                    refine l_no rfl ?_
                    refine l_val rfl (o_pickF rfl rfl) ?_
                    refine l_nil ?_
                    refine kt_norm ?_
                    refine v_sel [0, 3, 4, 18, 24, 213] [1000] rfl rfl ?_
                    refine v_condF rfl ?_
                    refine v_skip ?_
                    refine ⟨[], ResAll.nil, ?_⟩
                    first
                      | exact ⟨cur, ⟨hM, InsL.srt (show InsL l a (i - 1) cur from (show k = i - 1 by omega) ▸ hI) (by omega) hjb (fun p q h1 h2 h3 => hs2 p q (by omega) h2 h3) (fun q h1 h2 => hA q (by omega) h2) hB⟩, rfl⟩
                      | exact ⟨cur, ⟨hM, InsB.srt (show InsB l m i cur from (show k = i by omega) ▸ hI) hmi hjb (by omega) hs1 hA hB⟩, rfl⟩
                      | exact ⟨_, hC.done hR hM1 hM2, rfl⟩
                      | exact ⟨_, hC.done hR hM1 (SrtQ.same hsa2 hsb2 (by omega)), rfl⟩
                · skip
                  refine l_val rfl (o_pickT rfl rfl) ?_
                  refine l_nil ?_
                  refine kt_norm ?_
                  refine v_sel [20, 0, 1, 3, 4, 18, 24, 199] [1000] rfl rfl ?_
                  refine v_condF rfl ?_
                  refine v_skip ?_
                  refine kt_norm ?_
                  refine v_seq ?_
                  refine v_region ?_
                  have hM1 : SrtQ l1 a ((a + b) / 2) l1 := SrtQ.same hsa1 hsb1 (by omega)
                  have hlen2 : l1.length = l.length := hM1.mut_.st.len.trans hlen1
                  have hfo2 := hM1.mut_.st.frOk hfo1
                  have hsa2 : SrtOn l1 ((a + b) / 2) ((a + b) / 2 + m - s) := fun p q h1 h2 h3 => by rw [hM1.mut_.out p (.inr h1), hM1.mut_.out q (.inr (by omega))]; exact hC.p3 hR p q h1 h2 h3
                  have hsb2 : SrtOn l1 ((a + b) / 2 + m - s) b := fun p q h1 h2 h3 => by rw [hM1.mut_.out p (.inr (by omega)), hM1.mut_.out q (.inr (by omega))]; exact hC.p4 hR p q h1 h2 h3
                  refine l_val rfl (o_move rfl) ?_
                  refine l_val rfl (o_move rfl) ?_
                  refine l_split rfl (o_lss rfl rfl) (fun q46 => ?_) (fun q46 => ?_)
                  · skip
                    refine l_val rfl (o_move rfl) ?_
                    refine l_val rfl (o_move rfl) ?_
                    refine l_val rfl (o_move rfl) ?_
                    refine l_split rfl (o_lss rfl rfl) (fun q47 => ?_) (fun q47 => ?_)
                    · skip
                      refine l_val rfl (o_pickT rfl rfl) ?_
                      refine l_nil ?_
                      refine kt_norm ?_
                      refine v_sel [0, 3, 4, 18, 24, 213] [1000] rfl rfl ?_
                      refine v_condT rfl ?_
                      refine v_region ?_
                      refine l_val rfl (o_move rfl) ?_
                      refine l_val rfl (o_move rfl) ?_
                      refine l_val rfl (o_move rfl) ?_
                      refine l_val rfl (o_move rfl) ?_
                      refine l_val rfl (o_move rfl) ?_
                      refine l_gmutX (ks := []) 1000 (fun lz => SrtQ l1 ((a + b) / 2) b lz) (fun lz => lz.flatMap eE) (n := l.length) (caps := #[]) (vs := [_, _, _, _, _]) rfl rfl (ent_of Try.func95 rfl rfl) rfl rfl (fun w' hg hh hok2 => ?_) (fun l3 y2 hM2 => ?_)
                      · have hsl : l1.length = l.length := hlen2
                        have hres := ih w' v l1 ((a + b) / 2) ((a + b) / 2 + m - s) b (by omega) (by omega) (by omega) (by omega) (by rw [hsl]; omega) (by rw [hsl]; exact hok2) hfo2 hsa2 hsb2
                        rw [hsl] at hres
                        have e0 : (((a + b) / 2 : Nat) : Int) = ((a : Int) + (b : Int)) % 18446744073709551616 / 2 := by omega
                        have e1 : (((a + b) / 2 + m - s : Nat) : Int) = ((a : Int) + (b : Int)) % 18446744073709551616 / 2 + (m : Int) - (s : Int) := by omega
                        rw [e1] at hres
                        rw [e0] at hres
                        exact hres
                      refine l_nil ?_
                      refine ⟨[], ResAll.nil, ?_⟩
                      first
                        | exact ⟨cur, ⟨hM, InsL.srt (show InsL l a (i - 1) cur from (show k = i - 1 by omega) ▸ hI) (by omega) hjb (fun p q h1 h2 h3 => hs2 p q (by omega) h2 h3) (fun q h1 h2 => hA q (by omega) h2) hB⟩, rfl⟩
                        | exact ⟨cur, ⟨hM, InsB.srt (show InsB l m i cur from (show k = i by omega) ▸ hI) hmi hjb (by omega) hs1 hA hB⟩, rfl⟩
                        | exact ⟨_, hC.done hR hM1 hM2, rfl⟩
                        | exact ⟨_, hC.done hR hM1 (SrtQ.same hsa2 hsb2 (by omega)), rfl⟩
                    · skip
                      refine l_val rfl (o_pickT rfl rfl) ?_
                      refine l_nil ?_
                      refine kt_norm ?_
                      refine v_sel [0, 3, 4, 18, 24, 213] [1000] rfl rfl ?_
                      refine v_condF rfl ?_
                      refine v_skip ?_
                      refine ⟨[], ResAll.nil, ?_⟩
                      first
                        | exact ⟨cur, ⟨hM, InsL.srt (show InsL l a (i - 1) cur from (show k = i - 1 by omega) ▸ hI) (by omega) hjb (fun p q h1 h2 h3 => hs2 p q (by omega) h2 h3) (fun q h1 h2 => hA q (by omega) h2) hB⟩, rfl⟩
                        | exact ⟨cur, ⟨hM, InsB.srt (show InsB l m i cur from (show k = i by omega) ▸ hI) hmi hjb (by omega) hs1 hA hB⟩, rfl⟩
                        | exact ⟨_, hC.done hR hM1 hM2, rfl⟩
                        | exact ⟨_, hC.done hR hM1 (SrtQ.same hsa2 hsb2 (by omega)), rfl⟩
                  · skip
                    refine l_val rfl (o_move rfl) ?_
                    refine l_no rfl ?_
                    refine l_no rfl ?_
                    refine l_no rfl ?_
                    refine l_val rfl (o_pickF rfl rfl) ?_
                    refine l_nil ?_
                    refine kt_norm ?_
                    refine v_sel [0, 3, 4, 18, 24, 213] [1000] rfl rfl ?_
                    refine v_condF rfl ?_
                    refine v_skip ?_
                    refine ⟨[], ResAll.nil, ?_⟩
                    first
                      | exact ⟨cur, ⟨hM, InsL.srt (show InsL l a (i - 1) cur from (show k = i - 1 by omega) ▸ hI) (by omega) hjb (fun p q h1 h2 h3 => hs2 p q (by omega) h2 h3) (fun q h1 h2 => hA q (by omega) h2) hB⟩, rfl⟩
                      | exact ⟨cur, ⟨hM, InsB.srt (show InsB l m i cur from (show k = i by omega) ▸ hI) hmi hjb (by omega) hs1 hA hB⟩, rfl⟩
                      | exact ⟨_, hC.done hR hM1 hM2, rfl⟩
                      | exact ⟨_, hC.done hR hM1 (SrtQ.same hsa2 hsb2 (by omega)), rfl⟩
              · skip
                refine l_val rfl (o_move rfl) ?_
                refine l_no rfl ?_
                refine l_no rfl ?_
                refine l_no rfl ?_
                refine l_val rfl (o_pickF rfl rfl) ?_
                refine l_nil ?_
                refine kt_norm ?_
                refine v_sel [20, 0, 1, 3, 4, 18, 24, 199] [1000] rfl rfl ?_
                refine v_condF rfl ?_
                refine v_skip ?_
                refine kt_norm ?_
                refine v_seq ?_
                refine v_region ?_
                have hM1 : SrtQ l1 a ((a + b) / 2) l1 := SrtQ.same hsa1 hsb1 (by omega)
                have hlen2 : l1.length = l.length := hM1.mut_.st.len.trans hlen1
                have hfo2 := hM1.mut_.st.frOk hfo1
                have hsa2 : SrtOn l1 ((a + b) / 2) ((a + b) / 2 + m - s) := fun p q h1 h2 h3 => by rw [hM1.mut_.out p (.inr h1), hM1.mut_.out q (.inr (by omega))]; exact hC.p3 hR p q h1 h2 h3
                have hsb2 : SrtOn l1 ((a + b) / 2 + m - s) b := fun p q h1 h2 h3 => by rw [hM1.mut_.out p (.inr (by omega)), hM1.mut_.out q (.inr (by omega))]; exact hC.p4 hR p q h1 h2 h3
                refine l_val rfl (o_move rfl) ?_
                refine l_val rfl (o_move rfl) ?_
                refine l_split rfl (o_lss rfl rfl) (fun q48 => ?_) (fun q48 => ?_)
                · skip
                  refine l_val rfl (o_move rfl) ?_
                  refine l_val rfl (o_move rfl) ?_
                  refine l_val rfl (o_move rfl) ?_
                  refine l_split rfl (o_lss rfl rfl) (fun q49 => ?_) (fun q49 => ?_)
                  · skip
                    refine l_val rfl (o_pickT rfl rfl) ?_
                    refine l_nil ?_
                    refine kt_norm ?_
                    refine v_sel [0, 3, 4, 18, 24, 213] [1000] rfl rfl ?_
                    refine v_condT rfl ?_
                    refine v_region ?_
                    refine l_val rfl (o_move rfl) ?_
                    refine l_val rfl (o_move rfl) ?_
                    refine l_val rfl (o_move rfl) ?_
                    refine l_val rfl (o_move rfl) ?_
                    refine l_val rfl (o_move rfl) ?_
                    refine l_gmutX (ks := []) 1000 (fun lz => SrtQ l1 ((a + b) / 2) b lz) (fun lz => lz.flatMap eE) (n := l.length) (caps := #[]) (vs := [_, _, _, _, _]) rfl rfl (ent_of Try.func95 rfl rfl) rfl rfl (fun w' hg hh hok2 => ?_) (fun l3 y2 hM2 => ?_)
                    · have hsl : l1.length = l.length := hlen2
                      have hres := ih w' v l1 ((a + b) / 2) ((a + b) / 2 + m - s) b (by omega) (by omega) (by omega) (by omega) (by rw [hsl]; omega) (by rw [hsl]; exact hok2) hfo2 hsa2 hsb2
                      rw [hsl] at hres
                      have e0 : (((a + b) / 2 : Nat) : Int) = ((a : Int) + (b : Int)) % 18446744073709551616 / 2 := by omega
                      have e1 : (((a + b) / 2 + m - s : Nat) : Int) = ((a : Int) + (b : Int)) % 18446744073709551616 / 2 + (m : Int) - (s : Int) := by omega
                      rw [e1] at hres
                      rw [e0] at hres
                      exact hres
                    refine l_nil ?_
                    refine ⟨[], ResAll.nil, ?_⟩
                    first
                      | exact ⟨cur, ⟨hM, InsL.srt (show InsL l a (i - 1) cur from (show k = i - 1 by omega) ▸ hI) (by omega) hjb (fun p q h1 h2 h3 => hs2 p q (by omega) h2 h3) (fun q h1 h2 => hA q (by omega) h2) hB⟩, rfl⟩
                      | exact ⟨cur, ⟨hM, InsB.srt (show InsB l m i cur from (show k = i by omega) ▸ hI) hmi hjb (by omega) hs1 hA hB⟩, rfl⟩
                      | exact ⟨_, hC.done hR hM1 hM2, rfl⟩
                      | exact ⟨_, hC.done hR hM1 (SrtQ.same hsa2 hsb2 (by omega)), rfl⟩
                  · skip
                    refine l_val rfl (o_pickT rfl rfl) ?_
                    refine l_nil ?_
                    refine kt_norm ?_
                    refine v_sel [0, 3, 4, 18, 24, 213] [1000] rfl rfl ?_
                    refine v_condF rfl ?_
                    refine v_skip ?_
                    refine ⟨[], ResAll.nil, ?_⟩
                    first
                      | exact ⟨cur, ⟨hM, InsL.srt (show InsL l a (i - 1) cur from (show k = i - 1 by omega) ▸ hI) (by omega) hjb (fun p q h1 h2 h3 => hs2 p q (by omega) h2 h3) (fun q h1 h2 => hA q (by omega) h2) hB⟩, rfl⟩
                      | exact ⟨cur, ⟨hM, InsB.srt (show InsB l m i cur from (show k = i by omega) ▸ hI) hmi hjb (by omega) hs1 hA hB⟩, rfl⟩
                      | exact ⟨_, hC.done hR hM1 hM2, rfl⟩
                      | exact ⟨_, hC.done hR hM1 (SrtQ.same hsa2 hsb2 (by omega)), rfl⟩
                · skip
                  refine l_val rfl (o_move rfl) ?_
                  refine l_no rfl ?_
                  refine l_no rfl ?_
                  refine l_no rfl ?_
                  refine l_val rfl (o_pickF rfl rfl) ?_
                  refine l_nil ?_
                  refine kt_norm ?_
                  refine v_sel [0, 3, 4, 18, 24, 213] [1000] rfl rfl ?_
                  refine v_condF rfl ?_
                  refine v_skip ?_
                  refine ⟨[], ResAll.nil, ?_⟩
                  first
                    | exact ⟨cur, ⟨hM, InsL.srt (show InsL l a (i - 1) cur from (show k = i - 1 by omega) ▸ hI) (by omega) hjb (fun p q h1 h2 h3 => hs2 p q (by omega) h2 h3) (fun q h1 h2 => hA q (by omega) h2) hB⟩, rfl⟩
                    | exact ⟨cur, ⟨hM, InsB.srt (show InsB l m i cur from (show k = i by omega) ▸ hI) hmi hjb (by omega) hs1 hA hB⟩, rfl⟩
                    | exact ⟨_, hC.done hR hM1 hM2, rfl⟩
                    | exact ⟨_, hC.done hR hM1 (SrtQ.same hsa2 hsb2 (by omega)), rfl⟩
            · skip
              refine l_val rfl (o_pickT rfl rfl) ?_
              refine l_nil ?_
              refine kt_norm ?_
              refine v_sel [20, 0, 1, 2, 3, 4, 18, 24, 185] [1000] rfl rfl ?_
              refine v_condF rfl ?_
              refine v_skip ?_
              refine kt_norm ?_
              refine v_seq ?_
              refine v_seq ?_
              refine v_region ?_
              have hR : RotQ l s m ((a + b) / 2 + m - s) l := RotQ.id (by omega) (by omega) (by omega)
              have hRm := hC.rot hR
              have hlen1 : l.length = l.length := hR.len
              have hfo1 := hRm.st.frOk hfr
              have hsa1 := hC.p1 hR
              have hsb1 := hC.p2 hR
              refine l_val rfl (o_move rfl) ?_
              refine l_val rfl (o_move rfl) ?_
              refine l_split rfl (o_lss rfl rfl) (fun q50 => ?_) (fun q50 => ?_)
              · skip
                refine l_val rfl (o_move rfl) ?_
                refine l_val rfl (o_move rfl) ?_
                refine l_val rfl (o_move rfl) ?_
                refine l_split rfl (o_lss rfl rfl) (fun q51 => ?_) (fun q51 => ?_)
                · skip
                  refine l_val rfl (o_pickT rfl rfl) ?_
                  refine l_nil ?_
                  refine kt_norm ?_
                  refine v_sel [20, 0, 1, 3, 4, 18, 24, 199] [1000] rfl rfl ?_
                  refine v_condT rfl ?_
                  refine v_region ?_
                  refine l_val rfl (o_move rfl) ?_
                  refine l_val rfl (o_move rfl) ?_
                  refine l_val rfl (o_move rfl) ?_
                  refine l_val rfl (o_move rfl) ?_
                  refine l_val rfl (o_move rfl) ?_
                  refine l_gmutX (ks := []) 1000 (fun lz => SrtQ l a ((a + b) / 2) lz) (fun lz => lz.flatMap eE) (n := l.length) (caps := #[]) (vs := [_, _, _, _, _]) rfl rfl (ent_of Try.func95 rfl rfl) rfl rfl (fun w' hg hh hok2 => ?_) (fun l2 y1 hM1 => ?_)
                  · have hsl : l.length = l.length := hlen1
                    have hres := ih w' v l a s ((a + b) / 2) (by omega) (by omega) (by omega) (by omega) (by rw [hsl]; omega) (by rw [hsl]; exact hok2) hfo1 hsa1 hsb1
                    rw [hsl] at hres
                    have e0 : (((a + b) / 2 : Nat) : Int) = ((a : Int) + (b : Int)) % 18446744073709551616 / 2 := by omega
                    rw [e0] at hres
                    exact hres
                  refine l_nil ?_
                  refine kt_norm ?_
                  refine v_sel [0, 3, 4, 18, 24] [1000] rfl rfl ?_
                  refine v_seq ?_
                  refine v_region ?_
                  have hlen2 : l2.length = l.length := hM1.mut_.st.len.trans hlen1
                  have hfo2 := hM1.mut_.st.frOk hfo1
                  have hsa2 : SrtOn l2 ((a + b) / 2) ((a + b) / 2 + m - s) := fun p q h1 h2 h3 => by rw [hM1.mut_.out p (.inr h1), hM1.mut_.out q (.inr (by omega))]; exact hC.p3 hR p q h1 h2 h3
                  have hsb2 : SrtOn l2 ((a + b) / 2 + m - s) b := fun p q h1 h2 h3 => by rw [hM1.mut_.out p (.inr (by omega)), hM1.mut_.out q (.inr (by omega))]; exact hC.p4 hR p q h1 h2 h3
                  refine l_val rfl (o_move rfl) ?_
                  refine l_val rfl (o_move rfl) ?_
                  refine l_split rfl (o_lss rfl rfl) (fun q52 => ?_) (fun q52 => ?_)
                  · skip
                    refine l_val rfl (o_move rfl) ?_
                    refine l_val rfl (o_move rfl) ?_
                    refine l_val rfl (o_move rfl) ?_
                    refine l_split rfl (o_lss rfl rfl) (fun q53 => ?_) (fun q53 => ?_)
                    · skip
                      refine l_val rfl (o_pickT rfl rfl) ?_
                      refine l_nil ?_
                      refine kt_norm ?_
                      refine v_sel [0, 3, 4, 18, 24, 213] [1000] rfl rfl ?_
                      refine v_condT rfl ?_
                      refine v_region ?_
                      refine l_val rfl (o_move rfl) ?_
                      refine l_val rfl (o_move rfl) ?_
                      refine l_val rfl (o_move rfl) ?_
                      refine l_val rfl (o_move rfl) ?_
                      refine l_val rfl (o_move rfl) ?_
                      refine l_gmutX (ks := []) 1000 (fun lz => SrtQ l2 ((a + b) / 2) b lz) (fun lz => lz.flatMap eE) (n := l.length) (caps := #[]) (vs := [_, _, _, _, _]) rfl rfl (ent_of Try.func95 rfl rfl) rfl rfl (fun w' hg hh hok2 => ?_) (fun l3 y2 hM2 => ?_)
                      · have hsl : l2.length = l.length := hlen2
                        have hres := ih w' v l2 ((a + b) / 2) ((a + b) / 2 + m - s) b (by omega) (by omega) (by omega) (by omega) (by rw [hsl]; omega) (by rw [hsl]; exact hok2) hfo2 hsa2 hsb2
                        rw [hsl] at hres
                        have e0 : (((a + b) / 2 : Nat) : Int) = ((a : Int) + (b : Int)) % 18446744073709551616 / 2 := by omega
                        have e1 : (((a + b) / 2 + m - s : Nat) : Int) = ((a : Int) + (b : Int)) % 18446744073709551616 / 2 + (m : Int) - (s : Int) := by omega
                        rw [e1] at hres
                        rw [e0] at hres
                        exact hres
                      refine l_nil ?_
                      refine ⟨[], ResAll.nil, ?_⟩
                      first
                        | exact ⟨cur, ⟨hM, InsL.srt (show InsL l a (i - 1) cur from (show k = i - 1 by omega) ▸ hI) (by omega) hjb (fun p q h1 h2 h3 => hs2 p q (by omega) h2 h3) (fun q h1 h2 => hA q (by omega) h2) hB⟩, rfl⟩
                        | exact ⟨cur, ⟨hM, InsB.srt (show InsB l m i cur from (show k = i by omega) ▸ hI) hmi hjb (by omega) hs1 hA hB⟩, rfl⟩
                        | exact ⟨_, hC.done hR hM1 hM2, rfl⟩
                        | exact ⟨_, hC.done hR hM1 (SrtQ.same hsa2 hsb2 (by omega)), rfl⟩
                    · skip
                      refine l_val rfl (o_pickT rfl rfl) ?_
                      refine l_nil ?_
                      refine kt_norm ?_
                      refine v_sel [0, 3, 4, 18, 24, 213] [1000] rfl rfl ?_
                      refine v_condF rfl ?_
                      refine v_skip ?_
                      refine ⟨[], ResAll.nil, ?_⟩
                      first
                        | exact ⟨cur, ⟨hM, InsL.srt (show InsL l a (i - 1) cur from (show k = i - 1 by omega) ▸ hI) (by omega) hjb (fun p q h1 h2 h3 => hs2 p q (by omega) h2 h3) (fun q h1 h2 => hA q (by omega) h2) hB⟩, rfl⟩
                        | exact ⟨cur, ⟨hM, InsB.srt (show InsB l m i cur from (show k = i by omega) ▸ hI) hmi hjb (by omega) hs1 hA hB⟩, rfl⟩
                        | exact ⟨_, hC.done hR hM1 hM2, rfl⟩
                        | exact ⟨_, hC.done hR hM1 (SrtQ.same hsa2 hsb2 (by omega)), rfl⟩
                  · skip
                    refine l_val rfl (o_move rfl) ?_
                    refine l_no rfl ?_
                    refine l_no rfl ?_
                    refine l_no rfl ?_
                    refine l_val rfl (o_pickF rfl rfl) ?_
                    refine l_nil ?_
                    refine kt_norm ?_
                    refine v_sel [0, 3, 4, 18, 24, 213] [1000] rfl rfl ?_
                    refine v_condF rfl ?_
                    refine v_skip ?_
                    refine ⟨[], ResAll.nil, ?_⟩
                    first
                      | exact ⟨cur, ⟨hM, InsL.srt (show InsL l a (i - 1) cur from (show k = i - 1 by omega) ▸ hI) (by omega) hjb (fun p q h1 h2 h3 => hs2 p q (by omega) h2 h3) (fun q h1 h2 => hA q (by omega) h2) hB⟩, rfl⟩
                      | exact ⟨cur, ⟨hM, InsB.srt (show InsB l m i cur from (show k = i by omega) ▸ hI) hmi hjb (by omega) hs1 hA hB⟩, rfl⟩
                      | exact ⟨_, hC.done hR hM1 hM2, rfl⟩
                      | exact ⟨_, hC.done hR hM1 (SrtQ.same hsa2 hsb2 (by omega)), rfl⟩
                · skip
                  refine l_val rfl (o_pickT rfl rfl) ?_
                  refine l_nil ?_
                  refine kt_norm ?_
                  refine v_sel [20, 0, 1, 3, 4, 18, 24, 199] [1000] rfl rfl ?_
                  refine v_condF rfl ?_
                  refine v_skip ?_
                  refine kt_norm ?_
                  refine v_seq ?_
                  refine v_region ?_
                  have hM1 : SrtQ l a ((a + b) / 2) l := SrtQ.same hsa1 hsb1 (by omega)
                  have hlen2 : l.length = l.length := hM1.mut_.st.len.trans hlen1
                  have hfo2 := hM1.mut_.st.frOk hfo1
                  have hsa2 : SrtOn l ((a + b) / 2) ((a + b) / 2 + m - s) := fun p q h1 h2 h3 => by rw [hM1.mut_.out p (.inr h1), hM1.mut_.out q (.inr (by omega))]; exact hC.p3 hR p q h1 h2 h3
                  have hsb2 : SrtOn l ((a + b) / 2 + m - s) b := fun p q h1 h2 h3 => by rw [hM1.mut_.out p (.inr (by omega)), hM1.mut_.out q (.inr (by omega))]; exact hC.p4 hR p q h1 h2 h3
                  refine l_val rfl (o_move rfl) ?_
                  refine l_val rfl (o_move rfl) ?_
                  refine l_split rfl (o_lss rfl rfl) (fun q54 => ?_) (fun q54 => ?_)
                  · skip
                    refine l_val rfl (o_move rfl) ?_
                    refine l_val rfl (o_move rfl) ?_
                    refine l_val rfl (o_move rfl) ?_
                    refine l_split rfl (o_lss rfl rfl) (fun q55 => ?_) (fun q55 => ?_)
                    · skip
                      refine l_val rfl (o_pickT rfl rfl) ?_
                      refine l_nil ?_
                      refine kt_norm ?_
                      refine v_sel [0, 3, 4, 18, 24, 213] [1000] rfl rfl ?_
                      refine v_condT rfl ?_
                      refine v_region ?_
                      refine l_val rfl (o_move rfl) ?_
                      refine l_val rfl (o_move rfl) ?_
                      refine l_val rfl (o_move rfl) ?_
                      refine l_val rfl (o_move rfl) ?_
                      refine l_val rfl (o_move rfl) ?_
                      refine l_gmutX (ks := []) 1000 (fun lz => SrtQ l ((a + b) / 2) b lz) (fun lz => lz.flatMap eE) (n := l.length) (caps := #[]) (vs := [_, _, _, _, _]) rfl rfl (ent_of Try.func95 rfl rfl) rfl rfl (fun w' hg hh hok2 => ?_) (fun l3 y2 hM2 => ?_)
                      · have hsl : l.length = l.length := hlen2
                        have hres := ih w' v l ((a + b) / 2) ((a + b) / 2 + m - s) b (by omega) (by omega) (by omega) (by omega) (by rw [hsl]; omega) (by rw [hsl]; exact hok2) hfo2 hsa2 hsb2
                        rw [hsl] at hres
                        have e0 : (((a + b) / 2 : Nat) : Int) = ((a : Int) + (b : Int)) % 18446744073709551616 / 2 := by omega
                        have e1 : (((a + b) / 2 + m - s : Nat) : Int) = ((a : Int) + (b : Int)) % 18446744073709551616 / 2 + (m : Int) - (s : Int) := by omega
                        rw [e1] at hres
                        rw [e0] at hres
                        exact hres
                      refine l_nil ?_
                      refine ⟨[], ResAll.nil, ?_⟩
                      first
                        | exact ⟨cur, ⟨hM, InsL.srt (show InsL l a (i - 1) cur from (show k = i - 1 by omega) ▸ hI) (by omega) hjb (fun p q h1 h2 h3 => hs2 p q (by omega) h2 h3) (fun q h1 h2 => hA q (by omega) h2) hB⟩, rfl⟩
                        | exact ⟨cur, ⟨hM, InsB.srt (show InsB l m i cur from (show k = i by omega) ▸ hI) hmi hjb (by omega) hs1 hA hB⟩, rfl⟩
                        | exact ⟨_, hC.done hR hM1 hM2, rfl⟩
                        | exact ⟨_, hC.done hR hM1 (SrtQ.same hsa2 hsb2 (by omega)), rfl⟩
                    · skip
                      refine l_val rfl (o_pickT rfl rfl) ?_
                      refine l_nil ?_
                      refine kt_norm ?_
                      refine v_sel [0, 3, 4, 18, 24, 213] [1000] rfl rfl ?_
                      refine v_condF rfl ?_
                      refine v_skip ?_
                      refine ⟨[], ResAll.nil, ?_⟩
                      first
                        | exact ⟨cur, ⟨hM, InsL.srt (show InsL l a (i - 1) cur from (show k = i - 1 by omega) ▸ hI) (by omega) hjb (fun p q h1 h2 h3 => hs2 p q (by omega) h2 h3) (fun q h1 h2 => hA q (by omega) h2) hB⟩, rfl⟩
                        | exact ⟨cur, ⟨hM, InsB.srt (show InsB l m i cur from (show k = i by omega) ▸ hI) hmi hjb (by omega) hs1 hA hB⟩, rfl⟩
                        | exact ⟨_, hC.done hR hM1 hM2, rfl⟩
                        | exact ⟨_, hC.done hR hM1 (SrtQ.same hsa2 hsb2 (by omega)), rfl⟩
                  · skip
                    refine l_val rfl (o_move rfl) ?_
                    refine l_no rfl ?_
                    refine l_no rfl ?_
                    refine l_no rfl ?_
                    refine l_val rfl (o_pickF rfl rfl) ?_
                    refine l_nil ?_
                    refine kt_norm ?_
                    refine v_sel [0, 3, 4, 18, 24, 213] [1000] rfl rfl ?_
                    refine v_condF rfl ?_
                    refine v_skip ?_
                    refine ⟨[], ResAll.nil, ?_⟩
                    first
                      | exact ⟨cur, ⟨hM, InsL.srt (show InsL l a (i - 1) cur from (show k = i - 1 by omega) ▸ hI) (by omega) hjb (fun p q h1 h2 h3 => hs2 p q (by omega) h2 h3) (fun q h1 h2 => hA q (by omega) h2) hB⟩, rfl⟩
                      | exact ⟨cur, ⟨hM, InsB.srt (show InsB l m i cur from (show k = i by omega) ▸ hI) hmi hjb (by omega) hs1 hA hB⟩, rfl⟩
                      | exact ⟨_, hC.done hR hM1 hM2, rfl⟩
                      | exact ⟨_, hC.done hR hM1 (SrtQ.same hsa2 hsb2 (by omega)), rfl⟩
              · skip
                refine l_val rfl (o_move rfl) ?_
                refine l_no rfl ?_
                refine l_no rfl ?_
                refine l_no rfl ?_
                refine l_val rfl (o_pickF rfl rfl) ?_
                refine l_nil ?_
                refine kt_norm ?_
                refine v_sel [20, 0, 1, 3, 4, 18, 24, 199] [1000] rfl rfl ?_
                refine v_condF rfl ?_
                refine v_skip ?_
                refine kt_norm ?_
                refine v_seq ?_
                refine v_region ?_
                have hM1 : SrtQ l a ((a + b) / 2) l := SrtQ.same hsa1 hsb1 (by omega)
                have hlen2 : l.length = l.length := hM1.mut_.st.len.trans hlen1
                have hfo2 := hM1.mut_.st.frOk hfo1
                have hsa2 : SrtOn l ((a + b) / 2) ((a + b) / 2 + m - s) := fun p q h1 h2 h3 => by rw [hM1.mut_.out p (.inr h1), hM1.mut_.out q (.inr (by omega))]; exact hC.p3 hR p q h1 h2 h3
                have hsb2 : SrtOn l ((a + b) / 2 + m - s) b := fun p q h1 h2 h3 => by rw [hM1.mut_.out p (.inr (by omega)), hM1.mut_.out q (.inr (by omega))]; exact hC.p4 hR p q h1 h2 h3
                refine l_val rfl (o_move rfl) ?_
                refine l_val rfl (o_move rfl) ?_
                refine l_split rfl (o_lss rfl rfl) (fun q56 => ?_) (fun q56 => ?_)
                · skip
                  refine l_val rfl (o_move rfl) ?_
                  refine l_val rfl (o_move rfl) ?_
                  refine l_val rfl (o_move rfl) ?_
                  refine l_split rfl (o_lss rfl rfl) (fun q57 => ?_) (fun q57 => ?_)
                  · skip
                    refine l_val rfl (o_pickT rfl rfl) ?_
                    refine l_nil ?_
                    refine kt_norm ?_
                    refine v_sel [0, 3, 4, 18, 24, 213] [1000] rfl rfl ?_
                    refine v_condT rfl ?_
                    refine v_region ?_
                    refine l_val rfl (o_move rfl) ?_
                    refine l_val rfl (o_move rfl) ?_
                    refine l_val rfl (o_move rfl) ?_
                    refine l_val rfl (o_move rfl) ?_
                    refine l_val rfl (o_move rfl) ?_
                    refine l_gmutX (ks := []) 1000 (fun lz => SrtQ l ((a + b) / 2) b lz) (fun lz => lz.flatMap eE) (n := l.length) (caps := #[]) (vs := [_, _, _, _, _]) rfl rfl (ent_of Try.func95 rfl rfl) rfl rfl (fun w' hg hh hok2 => ?_) (fun l3 y2 hM2 => ?_)
                    · have hsl : l.length = l.length := hlen2
                      have hres := ih w' v l ((a + b) / 2) ((a + b) / 2 + m - s) b (by omega) (by omega) (by omega) (by omega) (by rw [hsl]; omega) (by rw [hsl]; exact hok2) hfo2 hsa2 hsb2
                      rw [hsl] at hres
                      have e0 : (((a + b) / 2 : Nat) : Int) = ((a : Int) + (b : Int)) % 18446744073709551616 / 2 := by omega
                      have e1 : (((a + b) / 2 + m - s : Nat) : Int) = ((a : Int) + (b : Int)) % 18446744073709551616 / 2 + (m : Int) - (s : Int) := by omega
                      rw [e1] at hres
                      rw [e0] at hres
                      exact hres
                    refine l_nil ?_
                    refine ⟨[], ResAll.nil, ?_⟩
                    first
                      | exact ⟨cur, ⟨hM, InsL.srt (show InsL l a (i - 1) cur from (show k = i - 1 by omega) ▸ hI) (by omega) hjb (fun p q h1 h2 h3 => hs2 p q (by omega) h2 h3) (fun q h1 h2 => hA q (by omega) h2) hB⟩, rfl⟩
                      | exact ⟨cur, ⟨hM, InsB.srt (show InsB l m i cur from (show k = i by omega) ▸ hI) hmi hjb (by omega) hs1 hA hB⟩, rfl⟩
                      | exact ⟨_, hC.done hR hM1 hM2, rfl⟩
                      | exact ⟨_, hC.done hR hM1 (SrtQ.same hsa2 hsb2 (by omega)), rfl⟩
                  · skip
                    refine l_val rfl (o_pickT rfl rfl) ?_
                    refine l_nil ?_
                    refine kt_norm ?_
                    refine v_sel [0, 3, 4, 18, 24, 213] [1000] rfl rfl ?_
                    refine v_condF rfl ?_
                    refine v_skip ?_
                    refine ⟨[], ResAll.nil, ?_⟩
                    first
                      | exact ⟨cur, ⟨hM, InsL.srt (show InsL l a (i - 1) cur from (show k = i - 1 by omega) ▸ hI) (by omega) hjb (fun p q h1 h2 h3 => hs2 p q (by omega) h2 h3) (fun q h1 h2 => hA q (by omega) h2) hB⟩, rfl⟩
                      | exact ⟨cur, ⟨hM, InsB.srt (show InsB l m i cur from (show k = i by omega) ▸ hI) hmi hjb (by omega) hs1 hA hB⟩, rfl⟩
                      | exact ⟨_, hC.done hR hM1 hM2, rfl⟩
                      | exact ⟨_, hC.done hR hM1 (SrtQ.same hsa2 hsb2 (by omega)), rfl⟩
                · skip
                  refine l_val rfl (o_move rfl) ?_
                  refine l_no rfl ?_
                  refine l_no rfl ?_
                  refine l_no rfl ?_
                  refine l_val rfl (o_pickF rfl rfl) ?_
                  refine l_nil ?_
                  refine kt_norm ?_
                  refine v_sel [0, 3, 4, 18, 24, 213] [1000] rfl rfl ?_
                  refine v_condF rfl ?_
                  refine v_skip ?_
                  refine ⟨[], ResAll.nil, ?_⟩
                  first
                    | exact ⟨cur, ⟨hM, InsL.srt (show InsL l a (i - 1) cur from (show k = i - 1 by omega) ▸ hI) (by omega) hjb (fun p q h1 h2 h3 => hs2 p q (by omega) h2 h3) (fun q h1 h2 => hA q (by omega) h2) hB⟩, rfl⟩
                    | exact ⟨cur, ⟨hM, InsB.srt (show InsB l m i cur from (show k = i by omega) ▸ hI) hmi hjb (by omega) hs1 hA hB⟩, rfl⟩
                    | exact ⟨_, hC.done hR hM1 hM2, rfl⟩
                    | exact ⟨_, hC.done hR hM1 (SrtQ.same hsa2 hsb2 (by omega)), rfl⟩
          · skip
            refine l_val rfl (o_move rfl) ?_
            refine l_no rfl ?_
            refine l_no rfl ?_
            refine l_no rfl ?_
            refine l_val rfl (o_pickF rfl rfl) ?_
            refine l_nil ?_
            refine kt_norm ?_
            refine v_sel [20, 0, 1, 2, 3, 4, 18, 24, 185] [1000] rfl rfl ?_
            refine v_condF rfl ?_
            refine v_skip ?_
            refine kt_norm ?_
            refine v_seq ?_
            refine v_seq ?_
            refine v_region ?_
            have hR : RotQ l s m ((a + b) / 2 + m - s) l := RotQ.id (by omega) (by omega) (by omega)
            have hRm := hC.rot hR
            have hlen1 : l.length = l.length := hR.len
            have hfo1 := hRm.st.frOk hfr
            have hsa1 := hC.p1 hR
            have hsb1 := hC.p2 hR
            refine l_val rfl (o_move rfl) ?_
            refine l_val rfl (o_move rfl) ?_
            refine l_split rfl (o_lss rfl rfl) (fun q58 => ?_) (fun q58 => ?_)
            · skip
              refine l_val rfl (o_move rfl) ?_
              refine l_val rfl (o_move rfl) ?_
              refine l_val rfl (o_move rfl) ?_
              refine l_split rfl (o_lss rfl rfl) (fun q59 => ?_) (fun q59 => ?_)
              · skip
                refine l_val rfl (o_pickT rfl rfl) ?_
                refine l_nil ?_
                refine kt_norm ?_
                refine v_sel [20, 0, 1, 3, 4, 18, 24, 199] [1000] rfl rfl ?_
                refine v_condT rfl ?_
                refine v_region ?_
                refine l_val rfl (o_move rfl) ?_
                refine l_val rfl (o_move rfl) ?_
                refine l_val rfl (o_move rfl) ?_
                refine l_val rfl (o_move rfl) ?_
                refine l_val rfl (o_move rfl) ?_
                refine l_gmutX (ks := []) 1000 (fun lz => SrtQ l a ((a + b) / 2) lz) (fun lz => lz.flatMap eE) (n := l.length) (caps := #[]) (vs := [_, _, _, _, _]) rfl rfl (ent_of Try.func95 rfl rfl) rfl rfl (fun w' hg hh hok2 => ?_) (fun l2 y1 hM1 => ?_)
                · have hsl : l.length = l.length := hlen1
                  have hres := ih w' v l a s ((a + b) / 2) (by omega) (by omega) (by omega) (by omega) (by rw [hsl]; omega) (by rw [hsl]; exact hok2) hfo1 hsa1 hsb1
                  rw [hsl] at hres
                  have e0 : (((a + b) / 2 : Nat) : Int) = ((a : Int) + (b : Int)) % 18446744073709551616 / 2 := by omega
                  rw [e0] at hres
                  exact hres
                refine l_nil ?_
                refine kt_norm ?_
                refine v_sel [0, 3, 4, 18, 24] [1000] rfl rfl ?_
                refine v_seq ?_
                refine v_region ?_
                have hlen2 : l2.length = l.length := hM1.mut_.st.len.trans hlen1
                have hfo2 := hM1.mut_.st.frOk hfo1
                have hsa2 : SrtOn l2 ((a + b) / 2) ((a + b) / 2 + m - s) := fun p q h1 h2 h3 => by rw [hM1.mut_.out p (.inr h1), hM1.mut_.out q (.inr (by omega))]; exact hC.p3 hR p q h1 h2 h3
                have hsb2 : SrtOn l2 ((a + b) / 2 + m - s) b := fun p q h1 h2 h3 => by rw [hM1.mut_.out p (.inr (by omega)), hM1.mut_.out q (.inr (by omega))]; exact hC.p4 hR p q h1 h2 h3
                refine l_val rfl (o_move rfl) ?_
                refine l_val rfl (o_move rfl) ?_
                refine l_split rfl (o_lss rfl rfl) (fun q60 => ?_) (fun q60 => ?_)
                · skip
                  refine l_val rfl (o_move rfl) ?_
                  refine l_val rfl (o_move rfl) ?_
                  refine l_val rfl (o_move rfl) ?_
                  refine l_split rfl (o_lss rfl rfl) (fun q61 => ?_) (fun q61 => ?_)
                  · skip
                    refine l_val rfl (o_pickT rfl rfl) ?_
                    refine l_nil ?_
                    refine kt_norm ?_
                    refine v_sel [0, 3, 4, 18, 24, 213] [1000] rfl rfl ?_
                    refine v_condT rfl ?_
                    refine v_region ?_
                    refine l_val rfl (o_move rfl) ?_
                    refine l_val rfl (o_move rfl) ?_
                    refine l_val rfl (o_move rfl) ?_
                    refine l_val rfl (o_move rfl) ?_
                    refine l_val rfl (o_move rfl) ?_
                    refine l_gmutX (ks := []) 1000 (fun lz => SrtQ l2 ((a + b) / 2) b lz) (fun lz => lz.flatMap eE) (n := l.length) (caps := #[]) (vs := [_, _, _, _, _]) rfl rfl (ent_of Try.func95 rfl rfl) rfl rfl (fun w' hg hh hok2 => ?_) (fun l3 y2 hM2 => ?_)
                    · have hsl : l2.length = l.length := hlen2
                      have hres := ih w' v l2 ((a + b) / 2) ((a + b) / 2 + m - s) b (by omega) (by omega) (by omega) (by omega) (by rw [hsl]; omega) (by rw [hsl]; exact hok2) hfo2 hsa2 hsb2
                      rw [hsl] at hres
                      have e0 : (((a + b) / 2 : Nat) : Int) = ((a : Int) + (b : Int)) % 18446744073709551616 / 2 := by omega
                      have e1 : (((a + b) / 2 + m - s : Nat) : Int) = ((a : Int) + (b : Int)) % 18446744073709551616 / 2 + (m : Int) - (s : Int) := by omega
                      rw [e1] at hres
                      rw [e0] at hres
                      exact hres
                    refine l_nil ?_
                    refine ⟨[], ResAll.nil, ?_⟩
                    first
                      | exact ⟨cur, ⟨hM, InsL.srt (show InsL l a (i - 1) cur from (show k = i - 1 by omega) ▸ hI) (by omega) hjb (fun p q h1 h2 h3 => hs2 p q (by omega) h2 h3) (fun q h1 h2 => hA q (by omega) h2) hB⟩, rfl⟩
                      | exact ⟨cur, ⟨hM, InsB.srt (show InsB l m i cur from (show k = i by omega) ▸ hI) hmi hjb (by omega) hs1 hA hB⟩, rfl⟩
                      | exact ⟨_, hC.done hR hM1 hM2, rfl⟩
                      | exact ⟨_, hC.done hR hM1 (SrtQ.same hsa2 hsb2 (by omega)), rfl⟩
                  · skip
                    refine l_val rfl (o_pickT rfl rfl) ?_
                    refine l_nil ?_
                    refine kt_norm ?_
                    refine v_sel [0, 3, 4, 18, 24, 213] [1000] rfl rfl ?_
                    refine v_condF rfl ?_
                    refine v_skip ?_
                    refine ⟨[], ResAll.nil, ?_⟩
                    first
                      | exact ⟨cur, ⟨hM, InsL.srt (show InsL l a (i - 1) cur from (show k = i - 1 by omega) ▸ hI) (by omega) hjb (fun p q h1 h2 h3 => hs2 p q (by omega) h2 h3) (fun q h1 h2 => hA q (by omega) h2) hB⟩, rfl⟩
                      | exact ⟨cur, ⟨hM, InsB.srt (show InsB l m i cur from (show k = i by omega) ▸ hI) hmi hjb (by omega) hs1 hA hB⟩, rfl⟩
                      | exact ⟨_, hC.done hR hM1 hM2, rfl⟩
                      | exact ⟨_, hC.done hR hM1 (SrtQ.same hsa2 hsb2 (by omega)), rfl⟩
                · skip
                  refine l_val rfl (o_move rfl) ?_
                  refine l_no rfl ?_
                  refine l_no rfl ?_
                  refine l_no rfl ?_
                  refine l_val rfl (o_pickF rfl rfl) ?_
                  refine l_nil ?_
                  refine kt_norm ?_
                  refine v_sel [0, 3, 4, 18, 24, 213] [1000] rfl rfl ?_
                  refine v_condF rfl ?_
                  refine v_skip ?_
                  refine ⟨[], ResAll.nil, ?_⟩
                  first
                    | exact ⟨cur, ⟨hM, InsL.srt (show InsL l a (i - 1) cur from (show k = i - 1 by omega) ▸ hI) (by omega) hjb (fun p q h1 h2 h3 => hs2 p q (by omega) h2 h3) (fun q h1 h2 => hA q (by omega) h2) hB⟩, rfl⟩
                    | exact ⟨cur, ⟨hM, InsB.srt (show InsB l m i cur from (show k = i by omega) ▸ hI) hmi hjb (by omega) hs1 hA hB⟩, rfl⟩
                    | exact ⟨_, hC.done hR hM1 hM2, rfl⟩
                    | exact ⟨_, hC.done hR hM1 (SrtQ.same hsa2 hsb2 (by omega)), rfl⟩
              · skip
                refine l_val rfl (o_pickT rfl rfl) ?_
                refine l_nil ?_
                refine kt_norm ?_
                refine v_sel [20, 0, 1, 3, 4, 18, 24, 199] [1000] rfl rfl ?_
                refine v_condF rfl ?_
                refine v_skip ?_
                refine kt_norm ?_
                refine v_seq ?_
                refine v_region ?_
                have hM1 : SrtQ l a ((a + b) / 2) l := SrtQ.same hsa1 hsb1 (by omega)
                have hlen2 : l.length = l.length := hM1.mut_.st.len.trans hlen1
                have hfo2 := hM1.mut_.st.frOk hfo1
                have hsa2 : SrtOn l ((a + b) / 2) ((a + b) / 2 + m - s) := fun p q h1 h2 h3 => by rw [hM1.mut_.out p (.inr h1), hM1.mut_.out q (.inr (by omega))]; exact hC.p3 hR p q h1 h2 h3
                have hsb2 : SrtOn l ((a + b) / 2 + m - s) b := fun p q h1 h2 h3 => by rw [hM1.mut_.out p (.inr (by omega)), hM1.mut_.out q (.inr (by omega))]; exact hC.p4 hR p q h1 h2 h3
                refine l_val rfl (o_move rfl) ?_
                refine l_val rfl (o_move rfl) ?_
                refine l_split rfl (o_lss rfl rfl) (fun q62 => ?_) (fun q62 => ?_)
                · skip
                  refine l_val rfl (o_move rfl) ?_
                  refine l_val rfl (o_move rfl) ?_
                  refine l_val rfl (o_move rfl) ?_
                  refine l_split rfl (o_lss rfl rfl) (fun q63 => ?_) (fun q63 => ?_)
                  · skip
                    refine l_val rfl (o_pickT rfl rfl) ?_
                    refine l_nil ?_
                    refine kt_norm ?_
                    refine v_sel [0, 3, 4, 18, 24, 213] [1000] rfl rfl ?_
                    refine v_condT rfl ?_
                    refine v_region ?_
                    refine l_val rfl (o_move rfl) ?_
                    refine l_val rfl (o_move rfl) ?_
                    refine l_val rfl (o_move rfl) ?_
                    refine l_val rfl (o_move rfl) ?_
                    refine l_val rfl (o_move rfl) ?_
                    refine l_gmutX (ks := []) 1000 (fun lz => SrtQ l ((a + b) / 2) b lz) (fun lz => lz.flatMap eE) (n := l.length) (caps := #[]) (vs := [_, _, _, _, _]) rfl rfl (ent_of Try.func95 rfl rfl) rfl rfl (fun w' hg hh hok2 => ?_) (fun l3 y2 hM2 => ?_)
                    · have hsl : l.length = l.length := hlen2
                      have hres := ih w' v l ((a + b) / 2) ((a + b) / 2 + m - s) b (by omega) (by omega) (by omega) (by omega) (by rw [hsl]; omega) (by rw [hsl]; exact hok2) hfo2 hsa2 hsb2
                      rw [hsl] at hres
                      have e0 : (((a + b) / 2 : Nat) : Int) = ((a : Int) + (b : Int)) % 18446744073709551616 / 2 := by omega
                      have e1 : (((a + b) / 2 + m - s : Nat) : Int) = ((a : Int) + (b : Int)) % 18446744073709551616 / 2 + (m : Int) - (s : Int) := by omega
                      rw [e1] at hres
                      rw [e0] at hres
                      exact hres
                    refine l_nil ?_
                    refine ⟨[], ResAll.nil, ?_⟩
                    first
                      | exact ⟨cur, ⟨hM, InsL.srt (show InsL l a (i - 1) cur from (show k = i - 1 by omega) ▸ hI) (by omega) hjb (fun p q h1 h2 h3 => hs2 p q (by omega) h2 h3) (fun q h1 h2 => hA q (by omega) h2) hB⟩, rfl⟩
                      | exact ⟨cur, ⟨hM, InsB.srt (show InsB l m i cur from (show k = i by omega) ▸ hI) hmi hjb (by omega) hs1 hA hB⟩, rfl⟩
                      | exact ⟨_, hC.done hR hM1 hM2, rfl⟩
                      | exact ⟨_, hC.done hR hM1 (SrtQ.same hsa2 hsb2 (by omega)), rfl⟩
                  · skip
                    refine l_val rfl (o_pickT rfl rfl) ?_
                    refine l_nil ?_
                    refine kt_norm ?_
                    refine v_sel [0, 3, 4, 18, 24, 213] [1000] rfl rfl ?_
                    refine v_condF rfl ?_
                    refine v_skip ?_
                    refine ⟨[], ResAll.nil, ?_⟩
                    first
                      | exact ⟨cur, ⟨hM, InsL.srt (show InsL l a (i - 1) cur from (show k = i - 1 by omega) ▸ hI) (by omega) hjb (fun p q h1 h2 h3 => hs2 p q (by omega) h2 h3) (fun q h1 h2 => hA q (by omega) h2) hB⟩, rfl⟩
                      | exact ⟨cur, ⟨hM, InsB.srt (show InsB l m i cur from (show k = i by omega) ▸ hI) hmi hjb (by omega) hs1 hA hB⟩, rfl⟩
                      | exact ⟨_, hC.done hR hM1 hM2, rfl⟩
                      | exact ⟨_, hC.done hR hM1 (SrtQ.same hsa2 hsb2 (by omega)), rfl⟩
                · skip
                  refine l_val rfl (o_move rfl) ?_
                  refine l_no rfl ?_
                  refine l_no rfl ?_
                  refine l_no rfl ?_
                  refine l_val rfl (o_pickF rfl rfl) ?_
                  refine l_nil ?_
                  refine kt_norm ?_
                  refine v_sel [0, 3, 4, 18, 24, 213] [1000] rfl rfl ?_
                  refine v_condF rfl ?_
                  refine v_skip ?_
                  refine ⟨[], ResAll.nil, ?_⟩
                  first
                    | exact ⟨cur, ⟨hM, InsL.srt (show InsL l a (i - 1) cur from (show k = i - 1 by omega) ▸ hI) (by omega) hjb (fun p q h1 h2 h3 => hs2 p q (by omega) h2 h3) (fun q h1 h2 => hA q (by omega) h2) hB⟩, rfl⟩
                    | exact ⟨cur, ⟨hM, InsB.srt (show InsB l m i cur from (show k = i by omega) ▸ hI) hmi hjb (by omega) hs1 hA hB⟩, rfl⟩
                    | exact ⟨_, hC.done hR hM1 hM2, rfl⟩
                    | exact ⟨_, hC.done hR hM1 (SrtQ.same hsa2 hsb2 (by omega)), rfl⟩
            · skip
              refine l_val rfl (o_move rfl) ?_
              refine l_no rfl ?_
              refine l_no rfl ?_
              refine l_no rfl ?_
              refine l_val rfl (o_pickF rfl rfl) ?_
              refine l_nil ?_
              refine kt_norm ?_
              refine v_sel [20, 0, 1, 3, 4, 18, 24, 199] [1000] rfl rfl ?_
              refine v_condF rfl ?_
              refine v_skip ?_
              refine kt_norm ?_
              refine v_seq ?_
              refine v_region ?_
              have hM1 : SrtQ l a ((a + b) / 2) l := SrtQ.same hsa1 hsb1 (by omega)
              have hlen2 : l.length = l.length := hM1.mut_.st.len.trans hlen1
              have hfo2 := hM1.mut_.st.frOk hfo1
              have hsa2 : SrtOn l ((a + b) / 2) ((a + b) / 2 + m - s) := fun p q h1 h2 h3 => by rw [hM1.mut_.out p (.inr h1), hM1.mut_.out q (.inr (by omega))]; exact hC.p3 hR p q h1 h2 h3
              have hsb2 : SrtOn l ((a + b) / 2 + m - s) b := fun p q h1 h2 h3 => by rw [hM1.mut_.out p (.inr (by omega)), hM1.mut_.out q (.inr (by omega))]; exact hC.p4 hR p q h1 h2 h3
              refine l_val rfl (o_move rfl) ?_
              refine l_val rfl (o_move rfl) ?_
              refine l_split rfl (o_lss rfl rfl) (fun q64 => ?_) (fun q64 => ?_)
              · skip
                refine l_val rfl (o_move rfl) ?_
                refine l_val rfl (o_move rfl) ?_
                refine l_val rfl (o_move rfl) ?_
                refine l_split rfl (o_lss rfl rfl) (fun q65 => ?_) (fun q65 => ?_)
                · skip
                  refine l_val rfl (o_pickT rfl rfl) ?_
                  refine l_nil ?_
                  refine kt_norm ?_
                  refine v_sel [0, 3, 4, 18, 24, 213] [1000] rfl rfl ?_
                  refine v_condT rfl ?_
                  refine v_region ?_
                  refine l_val rfl (o_move rfl) ?_
                  refine l_val rfl (o_move rfl) ?_
                  refine l_val rfl (o_move rfl) ?_
                  refine l_val rfl (o_move rfl) ?_
                  refine l_val rfl (o_move rfl) ?_
                  refine l_gmutX (ks := []) 1000 (fun lz => SrtQ l ((a + b) / 2) b lz) (fun lz => lz.flatMap eE) (n := l.length) (caps := #[]) (vs := [_, _, _, _, _]) rfl rfl (ent_of Try.func95 rfl rfl) rfl rfl (fun w' hg hh hok2 => ?_) (fun l3 y2 hM2 => ?_)
                  · have hsl : l.length = l.length := hlen2
                    have hres := ih w' v l ((a + b) / 2) ((a + b) / 2 + m - s) b (by omega) (by omega) (by omega) (by omega) (by rw [hsl]; omega) (by rw [hsl]; exact hok2) hfo2 hsa2 hsb2
                    rw [hsl] at hres
                    have e0 : (((a + b) / 2 : Nat) : Int) = ((a : Int) + (b : Int)) % 18446744073709551616 / 2 := by omega
                    have e1 : (((a + b) / 2 + m - s : Nat) : Int) = ((a : Int) + (b : Int)) % 18446744073709551616 / 2 + (m : Int) - (s : Int) := by omega
                    rw [e1] at hres
                    rw [e0] at hres
                    exact hres
                  refine l_nil ?_
                  refine ⟨[], ResAll.nil, ?_⟩
                  first
                    | exact ⟨cur, ⟨hM, InsL.srt (show InsL l a (i - 1) cur from (show k = i - 1 by omega) ▸ hI) (by omega) hjb (fun p q h1 h2 h3 => hs2 p q (by omega) h2 h3) (fun q h1 h2 => hA q (by omega) h2) hB⟩, rfl⟩
                    | exact ⟨cur, ⟨hM, InsB.srt (show InsB l m i cur from (show k = i by omega) ▸ hI) hmi hjb (by omega) hs1 hA hB⟩, rfl⟩
                    | exact ⟨_, hC.done hR hM1 hM2, rfl⟩
                    | exact ⟨_, hC.done hR hM1 (SrtQ.same hsa2 hsb2 (by omega)), rfl⟩
                · skip
                  refine l_val rfl (o_pickT rfl rfl) ?_
                  refine l_nil ?_
                  refine kt_norm ?_
                  refine v_sel [0, 3, 4, 18, 24, 213] [1000] rfl rfl ?_
                  refine v_condF rfl ?_
                  refine v_skip ?_
                  refine ⟨[], ResAll.nil, ?_⟩
                  first
                    | exact ⟨cur, ⟨hM, InsL.srt (show InsL l a (i - 1) cur from (show k = i - 1 by omega) ▸ hI) (by omega) hjb (fun p q h1 h2 h3 => hs2 p q (by omega) h2 h3) (fun q h1 h2 => hA q (by omega) h2) hB⟩, rfl⟩
                    | exact ⟨cur, ⟨hM, InsB.srt (show InsB l m i cur from (show k = i by omega) ▸ hI) hmi hjb (by omega) hs1 hA hB⟩, rfl⟩
                    | exact ⟨_, hC.done hR hM1 hM2, rfl⟩
                    | exact ⟨_, hC.done hR hM1 (SrtQ.same hsa2 hsb2 (by omega)), rfl⟩
              · skip
                refine l_val rfl (o_move rfl) ?_
                refine l_no rfl ?_
                refine l_no rfl ?_
                refine l_no rfl ?_
                refine l_val rfl (o_pickF rfl rfl) ?_
                refine l_nil ?_
                refine kt_norm ?_
                refine v_sel [0, 3, 4, 18, 24, 213] [1000] rfl rfl ?_
                refine v_condF rfl ?_
                refine v_skip ?_
                refine ⟨[], ResAll.nil, ?_⟩
                first
                  | exact ⟨cur, ⟨hM, InsL.srt (show InsL l a (i - 1) cur from (show k = i - 1 by omega) ▸ hI) (by omega) hjb (fun p q h1 h2 h3 => hs2 p q (by omega) h2 h3) (fun q h1 h2 => hA q (by omega) h2) hB⟩, rfl⟩
                  | exact ⟨cur, ⟨hM, InsB.srt (show InsB l m i cur from (show k = i by omega) ▸ hI) hmi hjb (by omega) hs1 hA hB⟩, rfl⟩
                  | exact ⟨_, hC.done hR hM1 hM2, rfl⟩
                  | exact ⟨_, hC.done hR hM1 (SrtQ.same hsa2 hsb2 (by omega)), rfl⟩
end Go.Proofs.Ytaijclimdfchfaa
