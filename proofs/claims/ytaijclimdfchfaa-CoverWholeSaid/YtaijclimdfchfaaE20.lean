import Derived.Test.YtaijclimdfchfaaE19
import Derived.Test.YtaijclimdfchfaaKO
/- The rows of edges as the document has them. Conditions: none. -/
namespace Go.Proofs.Ytaijclimdfchfaa
open Go.Proofs Go.RowKit Go.Shelf

/-! ### the document's own stable sort: each edge goes behind all that do not come after it -/
def insS (e : EdgeT) (o : List EdgeT) : List EdgeT := o.takeWhile (fun x => decide (x.fr ≤ e.fr)) ++ e :: o.dropWhile (fun x => decide (x.fr ≤ e.fr))
def stSort (l : List EdgeT) : List EdgeT := l.foldl (fun o e => insS e o) []
theorem insS_nil (e : EdgeT) : insS e [] = [e] := rfl
theorem insS_le {e x : EdgeT} {o : List EdgeT} (h : x.fr ≤ e.fr) : insS e (x :: o) = x :: insS e o := by
  unfold insS
  rw [List.takeWhile_cons_of_pos (by simpa using h), List.dropWhile_cons_of_pos (by simpa using h)]; rfl
theorem insS_gt {e x : EdgeT} {o : List EdgeT} (h : ¬ x.fr ≤ e.fr) : insS e (x :: o) = e :: x :: o := by
  unfold insS
  rw [List.takeWhile_cons_of_neg (by simpa using h), List.dropWhile_cons_of_neg (by simpa using h)]; rfl
theorem stSort_snoc (l : List EdgeT) (e : EdgeT) : stSort (l ++ [e]) = insS e (stSort l) := by simp [stSort, List.foldl_append]
theorem insS_len (e : EdgeT) : ∀ o : List EdgeT, (insS e o).length = o.length + 1
  | [] => rfl
  | x :: o => by
    by_cases h : x.fr ≤ e.fr
    · rw [insS_le h, List.length_cons, insS_len e o]; rfl
    · rw [insS_gt h]; rfl
theorem insS_at {e : EdgeT} : ∀ (o : List EdgeT) (at_ : Nat), at_ ≤ o.length → (∀ j, j < at_ → (o.getD j dE).fr ≤ e.fr) → (at_ < o.length → ¬ (o.getD at_ dE).fr ≤ e.fr) → insS e o = o.take at_ ++ e :: o.drop at_
  | [], at_, h1, _, _ => by
    obtain rfl : at_ = 0 := by simpa using h1
    rfl
  | x :: o, 0, _, _, h3 => by rw [insS_gt (by simpa using h3 (by simp))]; rfl
  | x :: o, at_ + 1, h1, h2, h3 => by
    rw [insS_le (by simpa using h2 0 (by omega)), insS_at o at_ (by simpa using h1) (fun j hj => by simpa using h2 (j + 1) (by omega)) (fun hj => by simpa using h3 (by simpa using hj))]
    rfl
theorem insS_mem {e y : EdgeT} : ∀ o : List EdgeT, y ∈ insS e o → y = e ∨ y ∈ o
  | [], h => by rw [insS_nil] at h; exact .inl (by simpa using h)
  | x :: o, h => by
    by_cases hx : x.fr ≤ e.fr
    · rw [insS_le hx] at h
      rcases List.mem_cons.1 h with h | h
      · exact .inr (by rw [h]; exact List.mem_cons_self)
      · exact (insS_mem o h).imp id (List.mem_cons_of_mem _)
    · rw [insS_gt hx] at h
      exact List.mem_cons.1 h
theorem insS_srt {e : EdgeT} : ∀ o : List EdgeT, Srt o → Srt (insS e o)
  | [], _ => by rw [insS_nil]; exact List.pairwise_singleton _ _
  | x :: o, h => by
    have hx := List.pairwise_cons.1 h
    by_cases hle : x.fr ≤ e.fr
    · rw [insS_le hle]
      refine List.pairwise_cons.2 ⟨fun y hy => ?_, insS_srt o hx.2⟩
      rcases insS_mem o hy with rfl | h'
      · exact hle
      · exact hx.1 y h'
    · rw [insS_gt hle]
      refine List.pairwise_cons.2 ⟨fun y hy => ?_, h⟩
      rcases List.mem_cons.1 hy with rfl | h'
      · omega
      · have := hx.1 y h'; omega
theorem insS_fk {e : EdgeT} (k : Int) : ∀ o : List EdgeT, Srt o → fk k (insS e o) = fk k (o ++ [e])
  | [], _ => rfl
  | x :: o, h => by
    have hx := List.pairwise_cons.1 h
    by_cases hle : x.fr ≤ e.fr
    · rw [insS_le hle, List.cons_append]
      have ih := insS_fk (e := e) k o hx.2
      by_cases hk : x.fr = k
      · rw [fk_head hk, fk_head hk, ih]
      · rw [fk_skip hk, fk_skip hk, ih]
    · rw [insS_gt hle, fk_append]
      by_cases hk : e.fr = k
      · rw [fk_head hk, fk_none (l := x :: o) (fun y hy => by
          rcases List.mem_cons.1 hy with rfl | h'
          · omega
          · have := hx.1 y h'; omega), fk_head hk]
        rfl
      · rw [fk_skip hk, fk_skip (l := []) hk]
        simp [fk]
theorem stSort_ok : ∀ (l : List EdgeT) (n : Nat), l.length = n → Srt (stSort l) ∧ StEq l (stSort l)
  | l, 0, h => by
    obtain rfl : l = [] := List.length_eq_zero_iff.1 h
    exact ⟨List.Pairwise.nil, StEq.refl _⟩
  | l, n + 1, h => by
    have hne : l ≠ [] := by intro e; subst e; simp at h
    have e := List.dropLast_concat_getLast hne
    obtain ⟨l0, x, rfl⟩ : ∃ l0 x, l = l0 ++ [x] := ⟨_, _, e.symm⟩
    have ih := stSort_ok l0 n (by simpa using h)
    rw [stSort_snoc]
    refine ⟨insS_srt _ ih.1, ⟨by rw [insS_len, ih.2.len]; simp, fun k => ?_⟩⟩
    rw [insS_fk k _ ih.1, fk_append, fk_append, ih.2.keys]
theorem stSort_len (l : List EdgeT) : (stSort l).length = l.length := (stSort_ok l _ rfl).2.len
/-- there is but one stable sort -/
theorem srtQ_stSort {l es : List EdgeT} (h : SrtQ l 0 l.length es) : es = stSort l := by
  have h1 := stSort_ok l _ rfl
  have hl := h.mut_.st.len
  exact srt_unique _ _ h1.1 (SrtOn.srt (by rw [hl]; exact h.srt)) (h1.2.symm.trans h.mut_.st)
theorem take_flat {l : List EdgeT} {i : Nat} (h : i < l.length) : (l.take i).flatMap eE ++ eE (l.getD i dE) = (l.take (i + 1)).flatMap eE := by
  rw [List.take_add_one, List.getElem?_eq_getElem h, List.flatMap_append, List.getD_eq_getElem?_getD, List.getElem?_eq_getElem h]
  simp
theorem take_one {l : List Value} {i : Nat} (h : i < l.length) : l.take i ++ [l.getD i undef] = l.take (i + 1) := by
  rw [List.take_add_one, List.getElem?_eq_getElem h, List.getD_eq_getElem?_getD, List.getElem?_eq_getElem h]
  rfl
theorem liveT_snoc {r : Int} {l : List EdgeT} {i : Nat} (h : i < l.length) : liveT r (l.take (i + 1)) = liveT r (l.take i) ++ (if (l.getD i dE).fr ≤ r ∧ r < (l.getD i dE).to then [l.getD i dE] else []) := by
  unfold liveT
  rw [List.take_add_one, List.getElem?_eq_getElem h, List.filter_append, List.getD_eq_getElem?_getD, List.getElem?_eq_getElem h]
  congr 1
  simp only [Option.toList_some, Option.getD_some]
  split
  · rename_i h1
    rw [List.filter_cons_of_pos (by simp; omega), List.filter_nil]
  · rename_i h1
    rw [List.filter_cons_of_neg (by simp; omega), List.filter_nil]
theorem ins_flat {o : List EdgeT} {e : EdgeT} {at_ : Nat} (h1 : at_ ≤ o.length) (h2 : ∀ j, j < at_ → (o.getD j dE).fr ≤ e.fr) (h3 : at_ < o.length → ¬ (o.getD at_ dE).fr ≤ e.fr) : [] ++ (o.flatMap eE).take (at_ * 7) ++ eE e ++ (o.flatMap eE).drop (at_ * 7) = (insS e o).flatMap eE := by
  rw [insS_at o at_ h1 h2 h3, flat_take eE_len, flat_drop eE_len]
  simp
theorem rowOf_mono {a b : Int} (h : a ≤ b) : rowOf a ≤ rowOf b := by
  have h1 := rowOf_def a; have h2 := rowOf_def b; omega









end Go.Proofs.Ytaijclimdfchfaa
