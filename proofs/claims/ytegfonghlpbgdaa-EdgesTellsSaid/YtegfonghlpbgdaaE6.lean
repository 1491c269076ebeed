import Derived.Test.YtegfonghlpbgdaaE5
/- Bounds of points and rows; a small piece, looked at. Conditions: none. -/
namespace Go.Proofs.Ytegfonghlpbgdaa
open Go.Proofs Go.RowKit Go.Shelf

instance (p : PtT) : Decidable (NearT p) := by unfold NearT; infer_instance
theorem a_Near (p : PtT) : Ans Try.prog 10 [.agg #[.int .i64 p.x, .int .i64 p.y]] (.bool (decide (NearT p))) := by
  refine ans_of Try.func10 rfl Try.ntmps10 Try.results10 rfl rfl fun w => ?_
  refine v_seq ?_
  refine v_region ?_
  refine l_new rfl (o_box (cs := [_, _]) rfl rfl) fun b1 => ?_
  refine l_val rfl (o_assign rfl) ?_
  refine l_nil ?_
  refine kt_norm ?_
  refine v_seq ?_
  refine v_region ?_
  refine l_val rfl (o_fld rfl) ?_
  refine l_val rfl (o_load1 (key := 1) rfl rfl rfl) ?_
  refine l_split rfl (o_geq rfl rfl) (fun q1 => ?_) (fun q1 => ?_)
  · first
    | (exfalso; omega; done)
    | (
        refine l_val rfl (o_move rfl) ?_
        refine l_val rfl (o_fld rfl) ?_
        refine l_val rfl (o_load1 (key := 1) rfl rfl rfl) ?_
        refine l_split rfl (o_leq rfl rfl) (fun q2 => ?_) (fun q2 => ?_)
        · first
          | (exfalso; omega; done)
          | (
              refine l_val rfl (o_pickT rfl rfl) ?_
              refine l_val rfl (o_move rfl) ?_
              refine l_val rfl (o_fld rfl) ?_
              refine l_val rfl (o_load1 (key := 1) rfl rfl rfl) ?_
              refine l_split rfl (o_geq rfl rfl) (fun q3 => ?_) (fun q3 => ?_)
              · first
                | (exfalso; omega; done)
                | (
                    refine l_val rfl (o_pickT rfl rfl) ?_
                    refine l_val rfl (o_move rfl) ?_
                    refine l_val rfl (o_fld rfl) ?_
                    refine l_val rfl (o_load1 (key := 1) rfl rfl rfl) ?_
                    refine l_split rfl (o_leq rfl rfl) (fun q4 => ?_) (fun q4 => ?_)
                    · first
                      | (exfalso; omega; done)
                      | (
                          refine l_val rfl (o_pickT rfl rfl) ?_
                          refine l_val rfl (o_assign rfl) ?_
                          refine l_nil ?_
                          refine kt_norm ?_
                          refine v_sel [2] [] rfl rfl ?_
                          refine v_ret ?_
                          refine ⟨[_], .cons (.tmp rfl) (ResAll.nil), ?_⟩
                          exact congrArg Value.bool (by first | exact (decide_eq_true (by unfold NearT; omega)).symm | exact (decide_eq_false (by unfold NearT; omega)).symm))
                    · first
                      | (exfalso; omega; done)
                      | (
                          refine l_val rfl (o_pickT rfl rfl) ?_
                          refine l_val rfl (o_assign rfl) ?_
                          refine l_nil ?_
                          refine kt_norm ?_
                          refine v_sel [2] [] rfl rfl ?_
                          refine v_ret ?_
                          refine ⟨[_], .cons (.tmp rfl) (ResAll.nil), ?_⟩
                          exact congrArg Value.bool (by first | exact (decide_eq_true (by unfold NearT; omega)).symm | exact (decide_eq_false (by unfold NearT; omega)).symm)))
              · first
                | (exfalso; omega; done)
                | (
                    refine l_val rfl (o_pickT rfl rfl) ?_
                    refine l_val rfl (o_move rfl) ?_
                    refine l_no rfl ?_
                    refine l_no rfl ?_
                    refine l_no rfl ?_
                    refine l_val rfl (o_pickF rfl rfl) ?_
                    refine l_val rfl (o_assign rfl) ?_
                    refine l_nil ?_
                    refine kt_norm ?_
                    refine v_sel [2] [] rfl rfl ?_
                    refine v_ret ?_
                    refine ⟨[_], .cons (.tmp rfl) (ResAll.nil), ?_⟩
                    exact congrArg Value.bool (by first | exact (decide_eq_true (by unfold NearT; omega)).symm | exact (decide_eq_false (by unfold NearT; omega)).symm)))
        · first
          | (exfalso; omega; done)
          | (
              refine l_val rfl (o_pickT rfl rfl) ?_
              refine l_val rfl (o_move rfl) ?_
              refine l_no rfl ?_
              refine l_no rfl ?_
              refine l_no rfl ?_
              refine l_val rfl (o_pickF rfl rfl) ?_
              refine l_val rfl (o_move rfl) ?_
              refine l_no rfl ?_
              refine l_no rfl ?_
              refine l_no rfl ?_
              refine l_val rfl (o_pickF rfl rfl) ?_
              refine l_val rfl (o_assign rfl) ?_
              refine l_nil ?_
              refine kt_norm ?_
              refine v_sel [2] [] rfl rfl ?_
              refine v_ret ?_
              refine ⟨[_], .cons (.tmp rfl) (ResAll.nil), ?_⟩
              exact congrArg Value.bool (by first | exact (decide_eq_true (by unfold NearT; omega)).symm | exact (decide_eq_false (by unfold NearT; omega)).symm)))
  · first
    | (exfalso; omega; done)
    | (
        refine l_val rfl (o_move rfl) ?_
        refine l_no rfl ?_
        refine l_no rfl ?_
        refine l_no rfl ?_
        refine l_val rfl (o_pickF rfl rfl) ?_
        refine l_val rfl (o_move rfl) ?_
        refine l_no rfl ?_
        refine l_no rfl ?_
        refine l_no rfl ?_
        refine l_val rfl (o_pickF rfl rfl) ?_
        refine l_val rfl (o_move rfl) ?_
        refine l_no rfl ?_
        refine l_no rfl ?_
        refine l_no rfl ?_
        refine l_val rfl (o_pickF rfl rfl) ?_
        refine l_val rfl (o_assign rfl) ?_
        refine l_nil ?_
        refine kt_norm ?_
        refine v_sel [2] [] rfl rfl ?_
        refine v_ret ?_
        refine ⟨[_], .cons (.tmp rfl) (ResAll.nil), ?_⟩
        exact congrArg Value.bool (by first | exact (decide_eq_true (by unfold NearT; omega)).symm | exact (decide_eq_false (by unfold NearT; omega)).symm))
theorem a_row (n : Int) : Ans Try.prog 16 [.int .i64 n] (.bool (decide (-134217728 ≤ n ∧ n ≤ 134217728))) := by
  refine ans_of Try.func16 rfl Try.ntmps16 Try.results16 rfl rfl fun w => ?_
  refine v_seq ?_
  refine v_region ?_
  refine l_val rfl (o_assign rfl) ?_
  refine l_nil ?_
  refine kt_norm ?_
  refine v_seq ?_
  refine v_region ?_
  refine l_val rfl (o_move rfl) ?_
  refine l_split rfl (o_geq rfl rfl) (fun q1 => ?_) (fun q1 => ?_)
  · first
    | (exfalso; omega; done)
    | (
        refine l_val rfl (o_move rfl) ?_
        refine l_val rfl (o_move rfl) ?_
        refine l_split rfl (o_leq rfl rfl) (fun q2 => ?_) (fun q2 => ?_)
        · first
          | (exfalso; omega; done)
          | (
              refine l_val rfl (o_pickT rfl rfl) ?_
              refine l_val rfl (o_assign rfl) ?_
              refine l_nil ?_
              refine kt_norm ?_
              refine v_sel [2] [] rfl rfl ?_
              refine v_ret ?_
              refine ⟨[_], .cons (.tmp rfl) (ResAll.nil), ?_⟩
              exact congrArg Value.bool (by first | exact (decide_eq_true (by omega)).symm | exact (decide_eq_false (by omega)).symm))
        · first
          | (exfalso; omega; done)
          | (
              refine l_val rfl (o_pickT rfl rfl) ?_
              refine l_val rfl (o_assign rfl) ?_
              refine l_nil ?_
              refine kt_norm ?_
              refine v_sel [2] [] rfl rfl ?_
              refine v_ret ?_
              refine ⟨[_], .cons (.tmp rfl) (ResAll.nil), ?_⟩
              exact congrArg Value.bool (by first | exact (decide_eq_true (by omega)).symm | exact (decide_eq_false (by omega)).symm)))
  · first
    | (exfalso; omega; done)
    | (
        refine l_val rfl (o_move rfl) ?_
        refine l_no rfl ?_
        refine l_no rfl ?_
        refine l_val rfl (o_pickF rfl rfl) ?_
        refine l_val rfl (o_assign rfl) ?_
        refine l_nil ?_
        refine kt_norm ?_
        refine v_sel [2] [] rfl rfl ?_
        refine v_ret ?_
        refine ⟨[_], .cons (.tmp rfl) (ResAll.nil), ?_⟩
        exact congrArg Value.bool (by first | exact (decide_eq_true (by omega)).symm | exact (decide_eq_false (by omega)).symm))
def shownPc : List PtT := [⟨0, 0⟩, ⟨64, 0⟩, ⟨32, 32⟩]
def shownEs : List EdgeT := [⟨64, 0, -32, 32, 1, 0, 2⟩, ⟨0, 0, 32, 32, -1, 0, 2⟩]
theorem shown_edges : edgesOf shownPc = shownEs := by rfl
theorem shown_near : ∀ p ∈ shownPc, NearT p := by decide
theorem a_OfShown (w : World) (pv : Value) (hV : RowV pv 3) (hrow : RowAt w pv 2 3 (shownPc.flatMap eP)) : Calls Try.prog 12 #[pv] w fun e w' => ∃ y, e = .returned y ∧ Below w.heap.size w w' ∧ OwnAt w.heap.size w' y 32 7 2 (shownEs.flatMap eE) := by
  have := a_OfE w pv shownPc (by decide) hV hrow shown_near
  rw [shown_edges] at this
  exact this
theorem live_shown : liveT 2 shownEs = [] := by rfl
theorem a_LiveShown (w : World) (v : Value) (hV : RowV v 2) (hrow : RowAt w v 7 2 (shownEs.flatMap eE)) : Calls Try.prog 17 #[v, .int .i64 2] w fun e w' => ∃ y, e = .returned y ∧ Below w.heap.size w w' ∧ OwnAt w.heap.size w' y 32 7 0 [] := by
  have := a_Live w v shownEs 2 (by decide) hV hrow
  rw [live_shown] at this
  exact this
theorem a_CheckShown : Ans Try.prog 19 [.agg #[.int .i64 0, .int .i64 0, .int .i64 1, .int .i64 1]] (.int .i64 0) := by
  have := a_Check 0 0 1 1
  rwa [if_pos (by decide)] at this
theorem a_shown  : Ans Try.prog 11 [] (.bool true) := by
  refine ans_of Try.func11 rfl Try.ntmps11 Try.results11 rfl rfl fun w => ?_
  refine v_seq ?_
  refine v_region ?_
  refine l_val rfl (o_assign rfl) ?_
  refine l_nil ?_
  refine kt_norm ?_
  refine v_seq ?_
  refine v_region ?_
  refine l_val rfl (o_build (vs := []) (cs := [_, _]) rfl rfl) ?_
  refine l_val rfl (o_build (vs := [_]) (cs := [_, _]) rfl rfl) ?_
  refine l_val rfl (o_build (vs := [_, _]) (cs := [_, _]) rfl rfl) ?_
  refine l_buildSlice (vs := [_, _, _]) (cs := [_, _, _, _, _, _]) rfl rfl rfl rfl rfl rfl fun v5 hv5 => ?_
  refine l_gown (ks := [5]) (caps := #[]) (vs := [_]) rfl rfl (ent_of Try.func12 rfl rfl) rfl (fun w' hg hh => a_OfShown w' v5 hv5 (rowAt_own (hh 5 (by simp) _ rfl))) fun y hy => ?_
  refine l_val rfl (o_assign rfl) ?_
  refine l_nil ?_
  refine kt_norm ?_
  refine v_sel [1] [6] rfl rfl ?_
  refine v_seq ?_
  refine v_region ?_
  refine l_val rfl (o_move rfl) ?_
  refine l_val rfl (o_len rfl hy) ?_
  refine l_val rfl (o_eql rfl rfl) ?_
  refine l_val rfl (o_move rfl) ?_
  refine l_val rfl (o_move rfl) ?_
  refine l_val rfl (o_idx (0) rfl hy rfl (by first | rfl | omega) (by decide)) ?_
  refine l_val rfl (o_fld rfl) ?_
  refine l_val rfl (o_loadRF (f := 4) rfl (row_own (key := 6) rfl) (el_lit (esz := 7) (i := 0) (c := [_, _, _, _, _, _, _]) rfl rfl) rfl) ?_
  refine l_val rfl (o_eql rfl rfl) ?_
  refine l_val rfl (o_pickT rfl rfl) ?_
  refine l_val rfl (o_move rfl) ?_
  refine l_val rfl (o_move rfl) ?_
  refine l_val rfl (o_idx (1) rfl hy rfl (by first | rfl | omega) (by decide)) ?_
  refine l_val rfl (o_fld rfl) ?_
  refine l_val rfl (o_loadRF (f := 4) rfl (row_own (key := 6) rfl) (el_lit (esz := 7) (i := 1) (c := [_, _, _, _, _, _, _]) rfl rfl) rfl) ?_
  refine l_val rfl (o_eql rfl rfl) ?_
  refine l_val rfl (o_pickT rfl rfl) ?_
  refine l_val rfl (o_move rfl) ?_
  refine l_val rfl (o_move rfl) ?_
  refine l_val rfl (o_idx (1) rfl hy rfl (by first | rfl | omega) (by decide)) ?_
  refine l_val rfl (o_fld rfl) ?_
  refine l_val rfl (o_loadRF (f := 5) rfl (row_own (key := 6) rfl) (el_lit (esz := 7) (i := 1) (c := [_, _, _, _, _, _, _]) rfl rfl) rfl) ?_
  refine l_val rfl (o_eql rfl rfl) ?_
  refine l_val rfl (o_pickT rfl rfl) ?_
  refine l_val rfl (o_move rfl) ?_
  refine l_val rfl (o_move rfl) ?_
  refine l_val rfl (o_idx (1) rfl hy rfl (by first | rfl | omega) (by decide)) ?_
  refine l_val rfl (o_fld rfl) ?_
  refine l_val rfl (o_loadRF (f := 6) rfl (row_own (key := 6) rfl) (el_lit (esz := 7) (i := 1) (c := [_, _, _, _, _, _, _]) rfl rfl) rfl) ?_
  refine l_val rfl (o_eql rfl rfl) ?_
  refine l_val rfl (o_pickT rfl rfl) ?_
  refine l_val rfl (o_move rfl) ?_
  refine l_val rfl (o_move rfl) ?_
  refine l_val rfl (o_idx (1) rfl hy rfl (by first | rfl | omega) (by decide)) ?_
  refine l_val rfl (o_loadRE (c' := [_, _, _, _, _, _, _]) rfl (row_own (key := 6) rfl) (el_lit (esz := 7) (i := 1) (c := [_, _, _, _, _, _, _]) rfl rfl) rfl) ?_
  refine l_ans (vs := [_, _]) rfl rfl (a_At ⟨0, 0, 32, 32, -1, 0, 2⟩ 1 (by decide) (by decide) (by decide) (by decide) (by decide) (by decide)) ?_
  refine l_val rfl (o_eql rfl rfl) ?_
  refine l_val rfl (o_pickT rfl rfl) ?_
  refine l_val rfl (o_move rfl) ?_
  refine l_ans (vs := [_]) rfl rfl (a_Row 9 (by decide)) ?_
  refine l_val rfl (o_eql rfl rfl) ?_
  refine l_val rfl (o_pickT rfl rfl) ?_
  refine l_val rfl (o_move rfl) ?_
  refine l_ans (vs := [_]) rfl rfl (a_Row 8 (by decide)) ?_
  refine l_val rfl (o_eql rfl rfl) ?_
  refine l_val rfl (o_pickT rfl rfl) ?_
  refine l_val rfl (o_move rfl) ?_
  refine l_val rfl (o_move rfl) ?_
  refine l_gown (ks := [6]) (caps := #[]) (vs := [_, _]) rfl rfl (ent_of Try.func17 rfl rfl) rfl (fun w' hg hh => a_LiveShown w' y hy (rowAt_own (hh 6 (by simp) _ rfl))) fun z hz => ?_
  refine l_val rfl (o_len rfl hz) ?_
  refine l_val rfl (o_eql rfl rfl) ?_
  refine l_val rfl (o_pickT rfl rfl) ?_
  refine l_val rfl (o_move rfl) ?_
  refine l_val rfl (o_build (vs := [_, _]) (cs := [_, _, _, _]) rfl rfl) ?_
  refine l_ans (vs := [_]) rfl rfl (a_CheckShown) ?_
  refine l_val rfl (o_eql rfl rfl) ?_
  refine l_val rfl (o_pickT rfl rfl) ?_
  refine l_val rfl (o_assign rfl) ?_
  refine l_nil ?_
  refine kt_norm ?_
  refine v_sel [0] [] rfl rfl ?_
  refine v_ret ?_
  refine ⟨[_], .cons (.tmp rfl) (ResAll.nil), ?_⟩
  rfl
theorem quo4 (a : Int) : (0 ≤ a → a.tdiv 4 = a / 4) ∧ (a < 0 → a.tdiv 4 = -((-a) / 4)) :=
  ⟨fun h => Int.tdiv_eq_ediv_of_nonneg h, fun h => by rw [← Int.tdiv_eq_ediv_of_nonneg (show 0 ≤ -a by omega), Int.neg_tdiv, Int.neg_neg]⟩
theorem a_EdgesRows (a : Int) (ha : -2147483648 ≤ a ∧ a < 2147483648) : Ans Try.prog 6 [.int .i32 a] (.bool true) := by
  have q1 := quo4 a
  have q2 := wrap_i64 (a := a.tdiv 4) (by omega)
  have r1 := rowOf_def (a.tdiv 4)
  have r2 := rowOf_def (a.tdiv 4 + 256)
  have r3 := rowOf_def (16 * rowOf (a.tdiv 4) + 8)
  refine ans_of Try.func6 rfl Try.ntmps6 Try.results6 rfl rfl fun w => ?_
  refine v_seq ?_
  refine v_region ?_
  refine l_val rfl (o_assign rfl) ?_
  refine l_nil ?_
  refine kt_norm ?_
  refine v_seq ?_
  refine v_region ?_
  refine l_val rfl (o_move rfl) ?_
  refine l_val rfl (o_convi rfl ?_) ?_
  · omega
  refine l_val rfl (o_quo rfl rfl (by decide) q2) ?_
  refine l_val rfl (o_assign rfl) ?_
  refine l_nil ?_
  refine kt_norm ?_
  refine v_seq ?_
  refine v_region ?_
  refine l_val rfl (o_move rfl) ?_
  refine l_ans (vs := [_]) rfl rfl (a_Row _ ?_) ?_
  · omega
  refine l_val rfl (o_assign rfl) ?_
  refine l_nil ?_
  refine kt_norm ?_
  refine v_sel [3, 4] [] rfl rfl ?_
  refine v_seq ?_
  refine v_region ?_
  refine l_val rfl (o_move rfl) ?_
  refine l_val rfl (o_muli rfl rfl ?_) ?_
  · omega
  refine l_val rfl (o_addi rfl rfl ?_) ?_
  · omega
  refine l_val rfl (o_move rfl) ?_
  refine l_split rfl (o_geq rfl rfl) (fun q1 => ?_) (fun q1 => ?_)
  · first
    | (exfalso; omega; done)
    | (
        refine l_val rfl (o_move rfl) ?_
        refine l_val rfl (o_move rfl) ?_
        refine l_val rfl (o_subi rfl rfl ?_) ?_
        · omega
        refine l_val rfl (o_muli rfl rfl ?_) ?_
        · omega
        refine l_val rfl (o_addi rfl rfl ?_) ?_
        · omega
        refine l_val rfl (o_move rfl) ?_
        refine l_split rfl (o_lss rfl rfl) (fun q2 => ?_) (fun q2 => ?_)
        · first
          | (exfalso; omega; done)
          | (
              refine l_val rfl (o_pickT rfl rfl) ?_
              refine l_val rfl (o_move rfl) ?_
              refine l_val rfl (o_move rfl) ?_
              refine l_split rfl (o_gtr rfl rfl) (fun q3 => ?_) (fun q3 => ?_)
              · first
                | (exfalso; omega; done)
                | (
                    refine l_val rfl (o_move rfl) ?_
                    refine l_no rfl ?_
                    refine l_no rfl ?_
                    refine l_no rfl ?_
                    refine l_no rfl ?_
                    refine l_no rfl ?_
                    refine l_no rfl ?_
                    refine l_val rfl (o_pickT rfl rfl) ?_
                    refine l_val rfl (o_pickT rfl rfl) ?_
                    refine l_val rfl (o_move rfl) ?_
                    refine l_val rfl (o_move rfl) ?_
                    refine l_val rfl (o_muli rfl rfl ?_) ?_
                    · omega
                    refine l_val rfl (o_addi rfl rfl ?_) ?_
                    · omega
                    refine l_ans (vs := [_]) rfl rfl (a_Row _ ?_) ?_
                    · omega
                    refine l_val rfl (o_move rfl) ?_
                    refine l_split rfl (o_eql rfl rfl) (fun q4 => ?_) (fun q4 => ?_)
                    · first
                      | (exfalso; omega; done)
                      | (
                          refine l_val rfl (o_pickT rfl rfl) ?_
                          refine l_val rfl (o_move rfl) ?_
                          refine l_ans (vs := []) rfl rfl (a_shown) ?_
                          refine l_val rfl (o_pickT rfl rfl) ?_
                          refine l_val rfl (o_assign rfl) ?_
                          refine l_nil ?_
                          refine kt_norm ?_
                          refine v_sel [2] [] rfl rfl ?_
                          refine v_ret ?_
                          refine ⟨[_], .cons (.tmp rfl) (ResAll.nil), ?_⟩
                          rfl)
                    · first
                      | (exfalso; omega; done)
                      | (
                          refine l_val rfl (o_pickT rfl rfl) ?_
                          refine l_val rfl (o_move rfl) ?_
                          refine l_no rfl ?_
                          refine l_val rfl (o_pickF rfl rfl) ?_
                          refine l_val rfl (o_assign rfl) ?_
                          refine l_nil ?_
                          refine kt_norm ?_
                          refine v_sel [2] [] rfl rfl ?_
                          refine v_ret ?_
                          refine ⟨[_], .cons (.tmp rfl) (ResAll.nil), ?_⟩
                          rfl))
              · first
                | (exfalso; omega; done)
                | (
                    refine l_val rfl (o_move rfl) ?_
                    refine l_val rfl (o_move rfl) ?_
                    refine l_val rfl (o_addi rfl rfl ?_) ?_
                    · omega
                    refine l_ans (vs := [_]) rfl rfl (a_Row _ ?_) ?_
                    · omega
                    refine l_val rfl (o_move rfl) ?_
                    refine l_val rfl (o_addi rfl rfl ?_) ?_
                    · omega
                    refine l_split rfl (o_eql rfl rfl) (fun q5 => ?_) (fun q5 => ?_)
                    · first
                      | (exfalso; omega; done)
                      | (
                          refine l_val rfl (o_pickF rfl rfl) ?_
                          refine l_val rfl (o_pickT rfl rfl) ?_
                          refine l_val rfl (o_move rfl) ?_
                          refine l_val rfl (o_move rfl) ?_
                          refine l_val rfl (o_muli rfl rfl ?_) ?_
                          · omega
                          refine l_val rfl (o_addi rfl rfl ?_) ?_
                          · omega
                          refine l_ans (vs := [_]) rfl rfl (a_Row _ ?_) ?_
                          · omega
                          refine l_val rfl (o_move rfl) ?_
                          refine l_split rfl (o_eql rfl rfl) (fun q6 => ?_) (fun q6 => ?_)
                          · first
                            | (exfalso; omega; done)
                            | (
                                refine l_val rfl (o_pickT rfl rfl) ?_
                                refine l_val rfl (o_move rfl) ?_
                                refine l_ans (vs := []) rfl rfl (a_shown) ?_
                                refine l_val rfl (o_pickT rfl rfl) ?_
                                refine l_val rfl (o_assign rfl) ?_
                                refine l_nil ?_
                                refine kt_norm ?_
                                refine v_sel [2] [] rfl rfl ?_
                                refine v_ret ?_
                                refine ⟨[_], .cons (.tmp rfl) (ResAll.nil), ?_⟩
                                rfl)
                          · first
                            | (exfalso; omega; done)
                            | (
                                refine l_val rfl (o_pickT rfl rfl) ?_
                                refine l_val rfl (o_move rfl) ?_
                                refine l_no rfl ?_
                                refine l_val rfl (o_pickF rfl rfl) ?_
                                refine l_val rfl (o_assign rfl) ?_
                                refine l_nil ?_
                                refine kt_norm ?_
                                refine v_sel [2] [] rfl rfl ?_
                                refine v_ret ?_
                                refine ⟨[_], .cons (.tmp rfl) (ResAll.nil), ?_⟩
                                rfl))
                    · first
                      | (exfalso; omega; done)
                      | (
                          refine l_val rfl (o_pickF rfl rfl) ?_
                          refine l_val rfl (o_pickT rfl rfl) ?_
                          refine l_val rfl (o_move rfl) ?_
                          refine l_no rfl ?_
                          refine l_no rfl ?_
                          refine l_no rfl ?_
                          refine l_no rfl ?_
                          refine l_no rfl ?_
                          refine l_no rfl ?_
                          refine l_val rfl (o_pickF rfl rfl) ?_
                          refine l_val rfl (o_move rfl) ?_
                          refine l_no rfl ?_
                          refine l_val rfl (o_pickF rfl rfl) ?_
                          refine l_val rfl (o_assign rfl) ?_
                          refine l_nil ?_
                          refine kt_norm ?_
                          refine v_sel [2] [] rfl rfl ?_
                          refine v_ret ?_
                          refine ⟨[_], .cons (.tmp rfl) (ResAll.nil), ?_⟩
                          rfl)))
        · first
          | (exfalso; omega; done)
          | (
              refine l_val rfl (o_pickT rfl rfl) ?_
              refine l_val rfl (o_move rfl) ?_
              refine l_no rfl ?_
              refine l_no rfl ?_
              refine l_no rfl ?_
              fail /- guard not known at 3.17 -/))
  · first
    | (exfalso; omega; done)
    | (
        refine l_val rfl (o_move rfl) ?_
        refine l_no rfl ?_
        refine l_no rfl ?_
        refine l_no rfl ?_
        refine l_no rfl ?_
        refine l_no rfl ?_
        refine l_no rfl ?_
        refine l_val rfl (o_pickF rfl rfl) ?_
        refine l_val rfl (o_move rfl) ?_
        refine l_no rfl ?_
        refine l_no rfl ?_
        refine l_no rfl ?_
        fail /- guard not known at 3.17 -/)
end Go.Proofs.Ytegfonghlpbgdaa
