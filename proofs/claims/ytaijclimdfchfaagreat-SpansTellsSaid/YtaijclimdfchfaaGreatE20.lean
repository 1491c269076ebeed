import Derived.Test.YtaijclimdfchfaaGreatE19
import Derived.Test.YtaijclimdfchfaaGreatKO
/- The rows of edges as the document has them. Conditions: none. -/
namespace Go.Proofs.YtaijclimdfchfaaGreat
open Go.Proofs Go.RowKit Go.Shelf

/-! ### the document's own stable sort: each edge goes behind all that do not come after it -/
def insS (e : EdgeT) (o : List EdgeT) : List EdgeT := o.takeWhile (fun x => decide (x.fr ≤ e.fr)) ++ e :: o.dropWhile (fun x => decide (x.fr ≤ e.fr))
def stSort (l : List EdgeT) : List EdgeT := l.foldl (fun o e => insS e o) []
theorem insS_nil (e : EdgeT) : insS e [] = [e] := rfl
theorem insS_le {e x : EdgeT} {o : List EdgeT} (h : x.fr ≤ e.fr) : insS e (x :: o) = x :: insS e o := by
  unfold insS
  rw [List.takeWhile_cons_of_pos (by simpa using h), List.dropWhile_cons_of_pos (by simpa using h)]; rfl
theorem insS_gt {e x : EdgeT} {o : List EdgeT} (h : ¬ x.fr ≤ e.fr) : insS e (x :: o) = e :: x :: o := by
  unfold insS
  rw [List.takeWhile_cons_of_neg (by simpa using h), List.dropWhile_cons_of_neg (by simpa using h)]; rfl
theorem stSort_snoc (l : List EdgeT) (e : EdgeT) : stSort (l ++ [e]) = insS e (stSort l) := by simp [stSort, List.foldl_append]
theorem insS_len (e : EdgeT) : ∀ o : List EdgeT, (insS e o).length = o.length + 1
  | [] => rfl
  | x :: o => by
    by_cases h : x.fr ≤ e.fr
    · rw [insS_le h, List.length_cons, insS_len e o]; rfl
    · rw [insS_gt h]; rfl
theorem insS_at {e : EdgeT} : ∀ (o : List EdgeT) (at_ : Nat), at_ ≤ o.length → (∀ j, j < at_ → (o.getD j dE).fr ≤ e.fr) → (at_ < o.length → ¬ (o.getD at_ dE).fr ≤ e.fr) → insS e o = o.take at_ ++ e :: o.drop at_
  | [], at_, h1, _, _ => by
    obtain rfl : at_ = 0 := by simpa using h1
    rfl
  | x :: o, 0, _, _, h3 => by rw [insS_gt (by simpa using h3 (by simp))]; rfl
  | x :: o, at_ + 1, h1, h2, h3 => by
    rw [insS_le (by simpa using h2 0 (by omega)), insS_at o at_ (by simpa using h1) (fun j hj => by simpa using h2 (j + 1) (by omega)) (fun hj => by simpa using h3 (by simpa using hj))]
    rfl
theorem insS_mem {e y : EdgeT} : ∀ o : List EdgeT, y ∈ insS e o → y = e ∨ y ∈ o
  | [], h => by rw [insS_nil] at h; exact .inl (by simpa using h)
  | x :: o, h => by
    by_cases hx : x.fr ≤ e.fr
    · rw [insS_le hx] at h
      rcases List.mem_cons.1 h with h | h
      · exact .inr (by rw [h]; exact List.mem_cons_self)
      · exact (insS_mem o h).imp id (List.mem_cons_of_mem _)
    · rw [insS_gt hx] at h
      exact List.mem_cons.1 h
theorem insS_srt {e : EdgeT} : ∀ o : List EdgeT, Srt o → Srt (insS e o)
  | [], _ => by rw [insS_nil]; exact List.pairwise_singleton _ _
  | x :: o, h => by
    have hx := List.pairwise_cons.1 h
    by_cases hle : x.fr ≤ e.fr
    · rw [insS_le hle]
      refine List.pairwise_cons.2 ⟨fun y hy => ?_, insS_srt o hx.2⟩
      rcases insS_mem o hy with rfl | h'
      · exact hle
      · exact hx.1 y h'
    · rw [insS_gt hle]
      refine List.pairwise_cons.2 ⟨fun y hy => ?_, h⟩
      rcases List.mem_cons.1 hy with rfl | h'
      · omega
      · have := hx.1 y h'; omega
theorem insS_fk {e : EdgeT} (k : Int) : ∀ o : List EdgeT, Srt o → fk k (insS e o) = fk k (o ++ [e])
  | [], _ => rfl
  | x :: o, h => by
    have hx := List.pairwise_cons.1 h
    by_cases hle : x.fr ≤ e.fr
    · rw [insS_le hle, List.cons_append]
      have ih := insS_fk (e := e) k o hx.2
      by_cases hk : x.fr = k
      · rw [fk_head hk, fk_head hk, ih]
      · rw [fk_skip hk, fk_skip hk, ih]
    · rw [insS_gt hle, fk_append]
      by_cases hk : e.fr = k
      · rw [fk_head hk, fk_none (l := x :: o) (fun y hy => by
          rcases List.mem_cons.1 hy with rfl | h'
          · omega
          · have := hx.1 y h'; omega), fk_head hk]
        rfl
      · rw [fk_skip hk, fk_skip (l := []) hk]
        simp [fk]
theorem stSort_ok : ∀ (l : List EdgeT) (n : Nat), l.length = n → Srt (stSort l) ∧ StEq l (stSort l)
  | l, 0, h => by
    obtain rfl : l = [] := List.length_eq_zero_iff.1 h
    exact ⟨List.Pairwise.nil, StEq.refl _⟩
  | l, n + 1, h => by
    have hne : l ≠ [] := by intro e; subst e; simp at h
    have e := List.dropLast_concat_getLast hne
    obtain ⟨l0, x, rfl⟩ : ∃ l0 x, l = l0 ++ [x] := ⟨_, _, e.symm⟩
    have ih := stSort_ok l0 n (by simpa using h)
    rw [stSort_snoc]
    refine ⟨insS_srt _ ih.1, ⟨by rw [insS_len, ih.2.len]; simp, fun k => ?_⟩⟩
    rw [insS_fk k _ ih.1, fk_append, fk_append, ih.2.keys]
theorem stSort_len (l : List EdgeT) : (stSort l).length = l.length := (stSort_ok l _ rfl).2.len
/-- there is but one stable sort -/
theorem srtQ_stSort {l es : List EdgeT} (h : SrtQ l 0 l.length es) : es = stSort l := by
  have h1 := stSort_ok l _ rfl
  have hl := h.mut_.st.len
  exact srt_unique _ _ h1.1 (SrtOn.srt (by rw [hl]; exact h.srt)) (h1.2.symm.trans h.mut_.st)
theorem take_flat {l : List EdgeT} {i : Nat} (h : i < l.length) : (l.take i).flatMap eE ++ eE (l.getD i dE) = (l.take (i + 1)).flatMap eE := by
  rw [List.take_add_one, List.getElem?_eq_getElem h, List.flatMap_append, List.getD_eq_getElem?_getD, List.getElem?_eq_getElem h]
  simp
theorem take_one {l : List Value} {i : Nat} (h : i < l.length) : l.take i ++ [l.getD i undef] = l.take (i + 1) := by
  rw [List.take_add_one, List.getElem?_eq_getElem h, List.getD_eq_getElem?_getD, List.getElem?_eq_getElem h]
  rfl
theorem liveT_snoc {r : Int} {l : List EdgeT} {i : Nat} (h : i < l.length) : liveT r (l.take (i + 1)) = liveT r (l.take i) ++ (if (l.getD i dE).fr ≤ r ∧ r < (l.getD i dE).to then [l.getD i dE] else []) := by
  unfold liveT
  rw [List.take_add_one, List.getElem?_eq_getElem h, List.filter_append, List.getD_eq_getElem?_getD, List.getElem?_eq_getElem h]
  congr 1
  simp only [Option.toList_some, Option.getD_some]
  split
  · rename_i h1
    rw [List.filter_cons_of_pos (by simp; omega), List.filter_nil]
  · rename_i h1
    rw [List.filter_cons_of_neg (by simp; omega), List.filter_nil]
theorem ins_flat {o : List EdgeT} {e : EdgeT} {at_ : Nat} (h1 : at_ ≤ o.length) (h2 : ∀ j, j < at_ → (o.getD j dE).fr ≤ e.fr) (h3 : at_ < o.length → ¬ (o.getD at_ dE).fr ≤ e.fr) : [] ++ (o.flatMap eE).take (at_ * 7) ++ eE e ++ (o.flatMap eE).drop (at_ * 7) = (insS e o).flatMap eE := by
  rw [insS_at o at_ h1 h2 h3, flat_take eE_len, flat_drop eE_len]
  simp
theorem rowOf_mono {a b : Int} (h : a ≤ b) : rowOf a ≤ rowOf b := by
  have h1 := rowOf_def a; have h2 := rowOf_def b; omega

theorem el_oneE {xs : List Value} {j : Nat} {u : Value} (h : j < xs.length) (e : xs.getD j undef = u) : El xs 1 j [u] := e ▸ el_one h
theorem r_Floor (a b : Int) (ha : -4611686018427387904 ≤ a ∧ a ≤ 4611686018427387904) (hb : 0 < b ∧ b < 9223372036854775808) : Ans Tryz.prog 106 [.int .i64 a, .int .i64 b] (.tuple #[.int .i64 (a / b), .int .i64 0]) := by
  refine ans_of Tryz.func106 rfl Tryz.ntmps106 Tryz.results106 rfl rfl fun w => ?_
  refine v_seq ?_
  refine v_region ?_
  refine l_val rfl (o_assign rfl) ?_
  refine l_val rfl (o_assign rfl) ?_
  refine l_nil ?_
  refine kt_norm ?_
  refine v_seq ?_
  refine v_region ?_
  refine l_val rfl (o_move rfl) ?_
  refine l_val rfl (o_move rfl) ?_
  refine l_ans (vs := [_, _, _]) rfl rfl ((show Ans Tryz.prog _ _ (.tuple #[.int .i64 (a / b), .int .i64 0]) by have := r_Scale a 1 b (by omega) (by omega) (by rw [Int.mul_one]; exact ha) hb; rwa [Int.mul_one] at this)) ?_
  refine l_val rfl (o_extract rfl rfl) ?_
  refine l_val rfl (o_extract rfl rfl) ?_
  refine l_val rfl (o_assign rfl) ?_
  refine l_val rfl (o_assign rfl) ?_
  refine l_nil ?_
  refine kt_norm ?_
  refine v_sel [4, 5] [] rfl rfl ?_
  refine v_ret ?_
  refine ⟨[_, _], .cons (.tmp rfl) (.cons (.tmp rfl) (ResAll.nil)), ?_⟩
  rfl
theorem r_Row (y : Int) (hy : -1099511627776 ≤ y ∧ y ≤ 1099511627776) : Ans Tryz.prog 87 [.int .i64 y] (.int .i64 (rowOf y)) := by
  refine ans_of Tryz.func87 rfl Tryz.ntmps87 Tryz.results87 rfl rfl fun w => ?_
  refine v_seq ?_
  refine v_region ?_
  refine l_val rfl (o_assign rfl) ?_
  refine l_nil ?_
  refine kt_norm ?_
  refine v_seq ?_
  refine v_region ?_
  refine l_val rfl (o_move rfl) ?_
  refine l_val rfl (o_subi rfl rfl ?_) ?_
  · omega
  refine l_val rfl (o_addi rfl rfl ?_) ?_
  · omega
  refine l_ans (vs := [_, _]) rfl rfl (r_Floor _ _ ?_ ?_) ?_
  · omega
  · omega
  refine l_val rfl (o_move rfl) ?_
  refine l_val rfl (o_extract rfl rfl) ?_
  refine l_val rfl (o_extract rfl rfl) ?_
  refine l_val rfl (o_assign rfl) ?_
  refine l_val rfl (o_assign rfl) ?_
  refine l_nil ?_
  refine kt_norm ?_
  refine v_sel [3] [] rfl rfl ?_
  refine v_seq ?_
  refine v_region ?_
  refine l_val rfl (o_move rfl) ?_
  refine l_val rfl (o_assign rfl) ?_
  refine l_nil ?_
  refine kt_norm ?_
  refine v_ret ?_
  refine ⟨[_], .cons (.tmp rfl) (ResAll.nil), ?_⟩
  show Value.int .i64 ((y - 8 + 15) / 16) = Value.int .i64 ((y + 7) / 16)
  rw [show y - 8 + 15 = y + 7 by omega]
theorem r_Check (X Y W H : Int) : Ans Tryz.prog 45 [.agg #[.int .i64 X, .int .i64 Y, .int .i64 W, .int .i64 H]] (.int .i64 (if ViewOk X Y W H then 0 else 190)) := by
  have vd := viewOk_def X Y W H
  refine ans_of Tryz.func45 rfl Tryz.ntmps45 Tryz.results45 rfl rfl fun w => ?_
  refine v_seq ?_
  refine v_region ?_
  refine l_new rfl (o_box (cs := [_, _, _, _]) rfl rfl) fun b1 => ?_
  refine l_val rfl (o_assign rfl) ?_
  refine l_nil ?_
  refine kt_norm ?_
  refine v_seq ?_
  refine v_seq ?_
  refine v_region ?_
  refine l_val rfl (o_fld rfl) ?_
  refine l_val rfl (o_load1 (key := 1) rfl rfl rfl) ?_
  refine l_split rfl (o_lss rfl rfl) (fun q1 => ?_) (fun q1 => ?_)
  · first
    | (exfalso; omega; done)
    | (
        refine l_val rfl (o_move rfl) ?_
        refine l_no rfl ?_
        refine l_no rfl ?_
        refine l_no rfl ?_
        refine l_val rfl (o_pickT rfl rfl) ?_
        refine l_val rfl (o_move rfl) ?_
        refine l_no rfl ?_
        refine l_no rfl ?_
        refine l_no rfl ?_
        refine l_val rfl (o_pickT rfl rfl) ?_
        refine l_val rfl (o_move rfl) ?_
        refine l_no rfl ?_
        refine l_no rfl ?_
        refine l_no rfl ?_
        refine l_val rfl (o_pickT rfl rfl) ?_
        refine l_val rfl (o_move rfl) ?_
        refine l_no rfl ?_
        refine l_no rfl ?_
        refine l_no rfl ?_
        refine l_val rfl (o_pickT rfl rfl) ?_
        refine l_val rfl (o_move rfl) ?_
        refine l_no rfl ?_
        refine l_no rfl ?_
        refine l_no rfl ?_
        refine l_val rfl (o_pickT rfl rfl) ?_
        refine l_val rfl (o_move rfl) ?_
        refine l_no rfl ?_
        refine l_no rfl ?_
        refine l_no rfl ?_
        refine l_val rfl (o_pickT rfl rfl) ?_
        refine l_val rfl (o_move rfl) ?_
        refine l_no rfl ?_
        refine l_no rfl ?_
        refine l_no rfl ?_
        refine l_val rfl (o_pickT rfl rfl) ?_
        refine l_nil ?_
        refine kt_norm ?_
        refine v_sel [40] [] rfl rfl ?_
        refine v_condT rfl ?_
        refine v_seq ?_
        refine v_region ?_
        refine l_val rfl (o_assign rfl) ?_
        refine l_nil ?_
        refine kt_norm ?_
        refine v_ret ?_
        refine kt_ret ?_
        refine ⟨[_], .cons (.tmp rfl) (ResAll.nil), ?_⟩
        exact congrArg (Value.int .i64) (by first | exact (if_pos (vd.2 (by omega))).symm | exact (if_neg (fun h => by have := vd.1 h; omega)).symm))
  · first
    | (exfalso; omega; done)
    | (
        refine l_val rfl (o_move rfl) ?_
        refine l_val rfl (o_fld rfl) ?_
        refine l_val rfl (o_load1 (key := 1) rfl rfl rfl) ?_
        refine l_split rfl (o_gtr rfl rfl) (fun q2 => ?_) (fun q2 => ?_)
        · first
          | (exfalso; omega; done)
          | (
              refine l_val rfl (o_pickF rfl rfl) ?_
              refine l_val rfl (o_move rfl) ?_
              refine l_no rfl ?_
              refine l_no rfl ?_
              refine l_no rfl ?_
              refine l_val rfl (o_pickT rfl rfl) ?_
              refine l_val rfl (o_move rfl) ?_
              refine l_no rfl ?_
              refine l_no rfl ?_
              refine l_no rfl ?_
              refine l_val rfl (o_pickT rfl rfl) ?_
              refine l_val rfl (o_move rfl) ?_
              refine l_no rfl ?_
              refine l_no rfl ?_
              refine l_no rfl ?_
              refine l_val rfl (o_pickT rfl rfl) ?_
              refine l_val rfl (o_move rfl) ?_
              refine l_no rfl ?_
              refine l_no rfl ?_
              refine l_no rfl ?_
              refine l_val rfl (o_pickT rfl rfl) ?_
              refine l_val rfl (o_move rfl) ?_
              refine l_no rfl ?_
              refine l_no rfl ?_
              refine l_no rfl ?_
              refine l_val rfl (o_pickT rfl rfl) ?_
              refine l_val rfl (o_move rfl) ?_
              refine l_no rfl ?_
              refine l_no rfl ?_
              refine l_no rfl ?_
              refine l_val rfl (o_pickT rfl rfl) ?_
              refine l_nil ?_
              refine kt_norm ?_
              refine v_sel [40] [] rfl rfl ?_
              refine v_condT rfl ?_
              refine v_seq ?_
              refine v_region ?_
              refine l_val rfl (o_assign rfl) ?_
              refine l_nil ?_
              refine kt_norm ?_
              refine v_ret ?_
              refine kt_ret ?_
              refine ⟨[_], .cons (.tmp rfl) (ResAll.nil), ?_⟩
              exact congrArg (Value.int .i64) (by first | exact (if_pos (vd.2 (by omega))).symm | exact (if_neg (fun h => by have := vd.1 h; omega)).symm))
        · first
          | (exfalso; omega; done)
          | (
              refine l_val rfl (o_pickF rfl rfl) ?_
              refine l_val rfl (o_move rfl) ?_
              refine l_val rfl (o_fld rfl) ?_
              refine l_val rfl (o_load1 (key := 1) rfl rfl rfl) ?_
              refine l_split rfl (o_lss rfl rfl) (fun q3 => ?_) (fun q3 => ?_)
              · first
                | (exfalso; omega; done)
                | (
                    refine l_val rfl (o_pickF rfl rfl) ?_
                    refine l_val rfl (o_move rfl) ?_
                    refine l_no rfl ?_
                    refine l_no rfl ?_
                    refine l_no rfl ?_
                    refine l_val rfl (o_pickT rfl rfl) ?_
                    refine l_val rfl (o_move rfl) ?_
                    refine l_no rfl ?_
                    refine l_no rfl ?_
                    refine l_no rfl ?_
                    refine l_val rfl (o_pickT rfl rfl) ?_
                    refine l_val rfl (o_move rfl) ?_
                    refine l_no rfl ?_
                    refine l_no rfl ?_
                    refine l_no rfl ?_
                    refine l_val rfl (o_pickT rfl rfl) ?_
                    refine l_val rfl (o_move rfl) ?_
                    refine l_no rfl ?_
                    refine l_no rfl ?_
                    refine l_no rfl ?_
                    refine l_val rfl (o_pickT rfl rfl) ?_
                    refine l_val rfl (o_move rfl) ?_
                    refine l_no rfl ?_
                    refine l_no rfl ?_
                    refine l_no rfl ?_
                    refine l_val rfl (o_pickT rfl rfl) ?_
                    refine l_nil ?_
                    refine kt_norm ?_
                    refine v_sel [40] [] rfl rfl ?_
                    refine v_condT rfl ?_
                    refine v_seq ?_
                    refine v_region ?_
                    refine l_val rfl (o_assign rfl) ?_
                    refine l_nil ?_
                    refine kt_norm ?_
                    refine v_ret ?_
                    refine kt_ret ?_
                    refine ⟨[_], .cons (.tmp rfl) (ResAll.nil), ?_⟩
                    exact congrArg (Value.int .i64) (by first | exact (if_pos (vd.2 (by omega))).symm | exact (if_neg (fun h => by have := vd.1 h; omega)).symm))
              · first
                | (exfalso; omega; done)
                | (
                    refine l_val rfl (o_pickF rfl rfl) ?_
                    refine l_val rfl (o_move rfl) ?_
                    refine l_val rfl (o_fld rfl) ?_
                    refine l_val rfl (o_load1 (key := 1) rfl rfl rfl) ?_
                    refine l_split rfl (o_gtr rfl rfl) (fun q4 => ?_) (fun q4 => ?_)
                    · first
                      | (exfalso; omega; done)
                      | (
                          refine l_val rfl (o_pickF rfl rfl) ?_
                          refine l_val rfl (o_move rfl) ?_
                          refine l_no rfl ?_
                          refine l_no rfl ?_
                          refine l_no rfl ?_
                          refine l_val rfl (o_pickT rfl rfl) ?_
                          refine l_val rfl (o_move rfl) ?_
                          refine l_no rfl ?_
                          refine l_no rfl ?_
                          refine l_no rfl ?_
                          refine l_val rfl (o_pickT rfl rfl) ?_
                          refine l_val rfl (o_move rfl) ?_
                          refine l_no rfl ?_
                          refine l_no rfl ?_
                          refine l_no rfl ?_
                          refine l_val rfl (o_pickT rfl rfl) ?_
                          refine l_val rfl (o_move rfl) ?_
                          refine l_no rfl ?_
                          refine l_no rfl ?_
                          refine l_no rfl ?_
                          refine l_val rfl (o_pickT rfl rfl) ?_
                          refine l_nil ?_
                          refine kt_norm ?_
                          refine v_sel [40] [] rfl rfl ?_
                          refine v_condT rfl ?_
                          refine v_seq ?_
                          refine v_region ?_
                          refine l_val rfl (o_assign rfl) ?_
                          refine l_nil ?_
                          refine kt_norm ?_
                          refine v_ret ?_
                          refine kt_ret ?_
                          refine ⟨[_], .cons (.tmp rfl) (ResAll.nil), ?_⟩
                          exact congrArg (Value.int .i64) (by first | exact (if_pos (vd.2 (by omega))).symm | exact (if_neg (fun h => by have := vd.1 h; omega)).symm))
                    · first
                      | (exfalso; omega; done)
                      | (
                          refine l_val rfl (o_pickF rfl rfl) ?_
                          refine l_val rfl (o_move rfl) ?_
                          refine l_val rfl (o_fld rfl) ?_
                          refine l_val rfl (o_load1 (key := 1) rfl rfl rfl) ?_
                          refine l_split rfl (o_lss rfl rfl) (fun q5 => ?_) (fun q5 => ?_)
                          · first
                            | (exfalso; omega; done)
                            | (
                                refine l_val rfl (o_pickF rfl rfl) ?_
                                refine l_val rfl (o_move rfl) ?_
                                refine l_no rfl ?_
                                refine l_no rfl ?_
                                refine l_no rfl ?_
                                refine l_val rfl (o_pickT rfl rfl) ?_
                                refine l_val rfl (o_move rfl) ?_
                                refine l_no rfl ?_
                                refine l_no rfl ?_
                                refine l_no rfl ?_
                                refine l_val rfl (o_pickT rfl rfl) ?_
                                refine l_val rfl (o_move rfl) ?_
                                refine l_no rfl ?_
                                refine l_no rfl ?_
                                refine l_no rfl ?_
                                refine l_val rfl (o_pickT rfl rfl) ?_
                                refine l_nil ?_
                                refine kt_norm ?_
                                refine v_sel [40] [] rfl rfl ?_
                                refine v_condT rfl ?_
                                refine v_seq ?_
                                refine v_region ?_
                                refine l_val rfl (o_assign rfl) ?_
                                refine l_nil ?_
                                refine kt_norm ?_
                                refine v_ret ?_
                                refine kt_ret ?_
                                refine ⟨[_], .cons (.tmp rfl) (ResAll.nil), ?_⟩
                                exact congrArg (Value.int .i64) (by first | exact (if_pos (vd.2 (by omega))).symm | exact (if_neg (fun h => by have := vd.1 h; omega)).symm))
                          · first
                            | (exfalso; omega; done)
                            | (
                                refine l_val rfl (o_pickF rfl rfl) ?_
                                refine l_val rfl (o_move rfl) ?_
                                refine l_val rfl (o_fld rfl) ?_
                                refine l_val rfl (o_load1 (key := 1) rfl rfl rfl) ?_
                                refine l_split rfl (o_gtr rfl rfl) (fun q6 => ?_) (fun q6 => ?_)
                                · first
                                  | (exfalso; omega; done)
                                  | (
                                      refine l_val rfl (o_pickF rfl rfl) ?_
                                      refine l_val rfl (o_move rfl) ?_
                                      refine l_no rfl ?_
                                      refine l_no rfl ?_
                                      refine l_no rfl ?_
                                      refine l_val rfl (o_pickT rfl rfl) ?_
                                      refine l_val rfl (o_move rfl) ?_
                                      refine l_no rfl ?_
                                      refine l_no rfl ?_
                                      refine l_no rfl ?_
                                      refine l_val rfl (o_pickT rfl rfl) ?_
                                      refine l_nil ?_
                                      refine kt_norm ?_
                                      refine v_sel [40] [] rfl rfl ?_
                                      refine v_condT rfl ?_
                                      refine v_seq ?_
                                      refine v_region ?_
                                      refine l_val rfl (o_assign rfl) ?_
                                      refine l_nil ?_
                                      refine kt_norm ?_
                                      refine v_ret ?_
                                      refine kt_ret ?_
                                      refine ⟨[_], .cons (.tmp rfl) (ResAll.nil), ?_⟩
                                      exact congrArg (Value.int .i64) (by first | exact (if_pos (vd.2 (by omega))).symm | exact (if_neg (fun h => by have := vd.1 h; omega)).symm))
                                · first
                                  | (exfalso; omega; done)
                                  | (
                                      refine l_val rfl (o_pickF rfl rfl) ?_
                                      refine l_val rfl (o_move rfl) ?_
                                      refine l_val rfl (o_fld rfl) ?_
                                      refine l_val rfl (o_load1 (key := 1) rfl rfl rfl) ?_
                                      refine l_split rfl (o_lss rfl rfl) (fun q7 => ?_) (fun q7 => ?_)
                                      · first
                                        | (exfalso; omega; done)
                                        | (
                                            refine l_val rfl (o_pickF rfl rfl) ?_
                                            refine l_val rfl (o_move rfl) ?_
                                            refine l_no rfl ?_
                                            refine l_no rfl ?_
                                            refine l_no rfl ?_
                                            refine l_val rfl (o_pickT rfl rfl) ?_
                                            refine l_nil ?_
                                            refine kt_norm ?_
                                            refine v_sel [40] [] rfl rfl ?_
                                            refine v_condT rfl ?_
                                            refine v_seq ?_
                                            refine v_region ?_
                                            refine l_val rfl (o_assign rfl) ?_
                                            refine l_nil ?_
                                            refine kt_norm ?_
                                            refine v_ret ?_
                                            refine kt_ret ?_
                                            refine ⟨[_], .cons (.tmp rfl) (ResAll.nil), ?_⟩
                                            exact congrArg (Value.int .i64) (by first | exact (if_pos (vd.2 (by omega))).symm | exact (if_neg (fun h => by have := vd.1 h; omega)).symm))
                                      · first
                                        | (exfalso; omega; done)
                                        | (
                                            refine l_val rfl (o_pickF rfl rfl) ?_
                                            refine l_val rfl (o_move rfl) ?_
                                            refine l_val rfl (o_fld rfl) ?_
                                            refine l_val rfl (o_load1 (key := 1) rfl rfl rfl) ?_
                                            refine l_split rfl (o_gtr rfl rfl) (fun q8 => ?_) (fun q8 => ?_)
                                            · first
                                              | (exfalso; omega; done)
                                              | (
                                                  refine l_val rfl (o_pickF rfl rfl) ?_
                                                  refine l_nil ?_
                                                  refine kt_norm ?_
                                                  refine v_sel [40] [] rfl rfl ?_
                                                  refine v_condT rfl ?_
                                                  refine v_seq ?_
                                                  refine v_region ?_
                                                  refine l_val rfl (o_assign rfl) ?_
                                                  refine l_nil ?_
                                                  refine kt_norm ?_
                                                  refine v_ret ?_
                                                  refine kt_ret ?_
                                                  refine ⟨[_], .cons (.tmp rfl) (ResAll.nil), ?_⟩
                                                  exact congrArg (Value.int .i64) (by first | exact (if_pos (vd.2 (by omega))).symm | exact (if_neg (fun h => by have := vd.1 h; omega)).symm))
                                            · first
                                              | (exfalso; omega; done)
                                              | (
                                                  refine l_val rfl (o_pickF rfl rfl) ?_
                                                  refine l_nil ?_
                                                  refine kt_norm ?_
                                                  refine v_sel [40] [] rfl rfl ?_
                                                  refine v_condF rfl ?_
                                                  refine v_skip ?_
                                                  refine kt_norm ?_
                                                  refine v_seq ?_
                                                  refine v_region ?_
                                                  refine l_val rfl (o_assign rfl) ?_
                                                  refine l_nil ?_
                                                  refine kt_norm ?_
                                                  refine v_ret ?_
                                                  refine ⟨[_], .cons (.tmp rfl) (ResAll.nil), ?_⟩
                                                  exact congrArg (Value.int .i64) (by first | exact (if_pos (vd.2 (by omega))).symm | exact (if_neg (fun h => by have := vd.1 h; omega)).symm)))))))))



theorem r_Live (w : World) (v : Value) (es : List EdgeT) (r : Int) (hn : es.length ≤ 1099511627775) (hV : RowV v es.length) (hrow : RowAt w v 7 es.length (es.flatMap eE)) :
    Calls Tryz.prog 34 #[v, .int .i64 r] w fun e w' => ∃ y, e = .returned y ∧ Below w.heap.size w w' ∧ OwnAt w.heap.size w' y 79 7 (liveT r es).length ((liveT r es).flatMap eE) := by
  have hr : ∀ w', Chg (fun _ => False) w w' → RowAt w' v 7 es.length (es.flatMap eE) := fun w' h => hrow.chg h (fun h => h)
  refine calls_own (args := [v, .int .i64 r]) Tryz.func34 rfl Tryz.ntmps34 Tryz.results34 rfl ?_
  refine v_seq ?_
  refine v_region ?_
  refine l_val rfl (o_assign rfl) ?_
  refine l_nil ?_
  refine kt_norm ?_
  refine v_seq ?_
  refine v_region ?_
  refine l_buildSlice (vs := []) (cs := []) rfl rfl rfl rfl rfl rfl fun v7 hv7 => ?_
  refine l_val rfl (o_assign rfl) ?_
  refine l_nil ?_
  refine kt_norm ?_
  refine v_seq ?_
  refine v_seq ?_
  refine v_region ?_
  refine l_val rfl (o_assign rfl) ?_
  refine l_nil ?_
  refine kt_norm ?_
  refine v_block ?_
  refine v_ren 7 36 [] rfl rfl rfl ?_
  refine v_loopS (α := Nat × Value) (fun ⟨i, v5⟩ => [(6, .int .i64 (i : Int)), (5, v5)]) (fun ⟨i, v5⟩ => [(36, Hp.own v5 79 7 (liveT r (es.take i)).length ((liveT r (es.take i)).flatMap eE))])  (fun ⟨i, v5⟩ => i ≤ es.length ∧ RowV v5 (liveT r (es.take i)).length) (fun ⟨i, v5⟩ => es.length - i) (0, v7) [0, 1] [] ⟨Nat.zero_le _, hv7⟩  (And.intro rfl (And.intro rfl (True.intro))) rfl (And.intro rfl (True.intro)) rfl ?_
  rintro ⟨i, v5⟩ ⟨hi, hv5⟩
  refine v_seq ?_
  refine v_seq ?_
  refine v_region ?_
  refine l_val rfl (o_move rfl) ?_
  refine l_val rfl (o_move rfl) ?_
  refine l_val rfl (o_len rfl hV) ?_
  refine l_split rfl (o_lss rfl rfl) (fun q1 => ?_) (fun q1 => ?_)
  · have hil : i < es.length := by omega
    have hsn := liveT_snoc (r := r) hil
    refine l_nil ?_
    refine kt_norm ?_
    refine v_condT rfl ?_
    refine v_skip ?_
    refine kt_norm ?_
    refine v_seq ?_
    refine v_block ?_
    refine v_seq ?_
    refine v_region ?_
    refine l_val rfl (o_move rfl) ?_
    refine l_val rfl (o_move rfl) ?_
    refine l_val rfl (o_idx (i) rfl hV rfl (by first | rfl | omega) (by omega)) ?_
    refine l_val rfl (o_fld rfl) ?_
    refine l_val rfl (o_loadRF (f := 5) rfl (row_imm hr) (el_flat eE_len dE es (i) (by omega)) rfl) ?_
    refine l_val rfl (o_move rfl) ?_
    refine l_split rfl (o_leq rfl rfl) (fun q2 => ?_) (fun q2 => ?_)
    · skip
      refine l_val rfl (o_move rfl) ?_
      refine l_val rfl (o_move rfl) ?_
      refine l_val rfl (o_move rfl) ?_
      refine l_val rfl (o_idx (i) rfl hV rfl (by first | rfl | omega) (by omega)) ?_
      refine l_val rfl (o_fld rfl) ?_
      refine l_val rfl (o_loadRF (f := 6) rfl (row_imm hr) (el_flat eE_len dE es (i) (by omega)) rfl) ?_
      refine l_val rfl (o_move rfl) ?_
      refine l_split rfl (o_gtr rfl rfl) (fun q3 => ?_) (fun q3 => ?_)
      · skip
        refine l_val rfl (o_pickT rfl rfl) ?_
        refine l_nil ?_
        refine kt_norm ?_
        refine v_sel [6, 5, 0, 1, 22, 23, 24, 25, 26, 27, 28, 29] [36] rfl rfl ?_
        refine v_condT rfl ?_
        refine v_region ?_
        refine l_val rfl (o_move rfl) ?_
        refine l_val rfl (o_move rfl) ?_
        refine l_val rfl (o_move rfl) ?_
        refine l_val rfl (o_idx (i) rfl hV rfl (by first | rfl | omega) (by omega)) ?_
        refine l_val rfl (o_loadRE (c' := [_, _, _, _, _, _, _]) rfl (row_imm hr) (el_flat eE_len dE es (i) (by omega)) rfl) ?_
        refine l_buildSlice (vs := [_]) (cs := [_, _, _, _, _, _, _]) rfl rfl rfl rfl rfl rfl fun v35 hv35 => ?_
        refine l_append 36 [35] rfl rfl rfl rfl rfl rfl rfl hv35 (row_own (key := 35) rfl) (by have h1 := List.length_filter_le (fun e : EdgeT => !(decide (r < e.fr) || decide (r ≥ e.to))) (es.take i); have h2 := List.length_take (i := i) (l := es); show (liveT r (es.take i)).length + 1 ≤ _; unfold liveT; omega) fun v36 hv36 => ?_
        refine l_val rfl (o_assign rfl) ?_
        refine l_nil ?_
        refine kb_norm ?_
        refine kt_norm ?_
        refine v_sel [6, 5, 0, 1, 22, 23, 24, 25, 26, 27, 28] [36] rfl rfl ?_
        refine v_region ?_
        refine l_val rfl (o_move rfl) ?_
        refine l_val rfl (o_addi rfl rfl ?_) ?_
        · omega
        refine l_val rfl (o_assign rfl) ?_
        refine l_nil ?_
        refine kt_norm ?_
        refine ⟨(i + 1, v36), ⟨by omega, by rw [hsn, if_pos ⟨by assumption, by assumption⟩, List.length_append]; exact hv36⟩, (by show es.length - (i + 1) < es.length - i; omega), le_app (And.intro rfl (And.intro rfl (True.intro))) [0, 1] rfl (And.intro (congrArg some (own_congr (by rw [hsn, if_pos ⟨by assumption, by assumption⟩, List.length_append]; rfl) (by rw [hsn, if_pos ⟨by assumption, by assumption⟩, List.flatMap_append]; simp [eE]))) (True.intro)) [] rfl⟩
      · skip
        refine l_val rfl (o_pickT rfl rfl) ?_
        refine l_nil ?_
        refine kt_norm ?_
        refine v_sel [6, 5, 0, 1, 22, 23, 24, 25, 26, 27, 28, 29] [36] rfl rfl ?_
        refine v_condF rfl ?_
        refine v_skip ?_
        refine kb_norm ?_
        refine kt_norm ?_
        refine v_region ?_
        refine l_val rfl (o_move rfl) ?_
        refine l_val rfl (o_addi rfl rfl ?_) ?_
        · omega
        refine l_val rfl (o_assign rfl) ?_
        refine l_nil ?_
        refine kt_norm ?_
        refine ⟨(i + 1, v5), ⟨by omega, by rw [hsn, if_neg (by omega), List.append_nil]; exact hv5⟩, (by show es.length - (i + 1) < es.length - i; omega), le_app (And.intro rfl (And.intro rfl (True.intro))) [0, 1] rfl (And.intro (congrArg some (own_congr (by rw [hsn, if_neg (by omega), List.append_nil]) (by rw [hsn, if_neg (by omega), List.append_nil]))) (True.intro)) [] rfl⟩
    · skip
      refine l_val rfl (o_move rfl) ?_
      refine l_no rfl ?_
      refine l_no rfl ?_
      refine l_no rfl ?_
      refine l_no rfl ?_
      refine l_no rfl ?_
      refine l_no rfl ?_
      refine l_no rfl ?_
      refine l_val rfl (o_pickF rfl rfl) ?_
      refine l_nil ?_
      refine kt_norm ?_
      refine v_sel [6, 5, 0, 1, 22, 23, 24, 25, 26, 27, 28, 29] [36] rfl rfl ?_
      refine v_condF rfl ?_
      refine v_skip ?_
      refine kb_norm ?_
      refine kt_norm ?_
      refine v_region ?_
      refine l_val rfl (o_move rfl) ?_
      refine l_val rfl (o_addi rfl rfl ?_) ?_
      · omega
      refine l_val rfl (o_assign rfl) ?_
      refine l_nil ?_
      refine kt_norm ?_
      refine ⟨(i + 1, v5), ⟨by omega, by rw [hsn, if_neg (by omega), List.append_nil]; exact hv5⟩, (by show es.length - (i + 1) < es.length - i; omega), le_app (And.intro rfl (And.intro rfl (True.intro))) [0, 1] rfl (And.intro (congrArg some (own_congr (by rw [hsn, if_neg (by omega), List.append_nil]) (by rw [hsn, if_neg (by omega), List.append_nil]))) (True.intro)) [] rfl⟩
  · skip
    refine l_nil ?_
    refine kt_norm ?_
    refine v_condF rfl ?_
    refine v_exit ?_
    refine kt_exit ?_
    refine kt_exit ?_
    refine kb_eq ?_
    refine kt_norm ?_
    refine v_sel [5] [36] rfl rfl ?_
    refine v_seq ?_
    refine v_region ?_
    obtain rfl : i = es.length := by omega
    refine l_val rfl (o_move rfl) ?_
    refine l_val rfl (o_assign rfl) ?_
    refine l_nil ?_
    refine kt_norm ?_
    refine v_ret ?_
    refine ⟨[_], .cons (.tmp rfl) (ResAll.nil), ?_⟩
    exact ⟨36, congrArg some (own_congr (by rw [List.take_length]) (by rw [List.take_length]))⟩
end Go.Proofs.YtaijclimdfchfaaGreat
