import Derived.Test.YtaijclimdfchfaaE5
/- Bounds of points and rows; a small piece, looked at. Conditions: none. -/
namespace Go.Proofs.Ytaijclimdfchfaa
open Go.Proofs Go.RowKit Go.Shelf

instance (p : PtT) : Decidable (NearT p) := by unfold NearT; infer_instance
theorem a_Near (p : PtT) : Ans Try.prog 28 [.agg #[.int .i64 p.x, .int .i64 p.y]] (.bool (decide (NearT p))) := by
  refine ans_of Try.func28 rfl Try.ntmps28 Try.results28 rfl rfl fun w => ?_
  refine v_seq ?_
  refine v_region ?_
  refine l_new rfl (o_box (cs := [_, _]) rfl rfl) fun b1 => ?_
  refine l_val rfl (o_assign rfl) ?_
  refine l_nil ?_
  refine kt_norm ?_
  refine v_seq ?_
  refine v_region ?_
  refine l_val rfl (o_fld rfl) ?_
  refine l_val rfl (o_load1 (key := 1) rfl rfl rfl) ?_
  refine l_split rfl (o_geq rfl rfl) (fun q1 => ?_) (fun q1 => ?_)
  · first
    | (exfalso; omega; done)
    | (
        refine l_val rfl (o_move rfl) ?_
        refine l_val rfl (o_fld rfl) ?_
        refine l_val rfl (o_load1 (key := 1) rfl rfl rfl) ?_
        refine l_split rfl (o_leq rfl rfl) (fun q2 => ?_) (fun q2 => ?_)
        · first
          | (exfalso; omega; done)
          | (
              refine l_val rfl (o_pickT rfl rfl) ?_
              refine l_val rfl (o_move rfl) ?_
              refine l_val rfl (o_fld rfl) ?_
              refine l_val rfl (o_load1 (key := 1) rfl rfl rfl) ?_
              refine l_split rfl (o_geq rfl rfl) (fun q3 => ?_) (fun q3 => ?_)
              · first
                | (exfalso; omega; done)
                | (
                    refine l_val rfl (o_pickT rfl rfl) ?_
                    refine l_val rfl (o_move rfl) ?_
                    refine l_val rfl (o_fld rfl) ?_
                    refine l_val rfl (o_load1 (key := 1) rfl rfl rfl) ?_
                    refine l_split rfl (o_leq rfl rfl) (fun q4 => ?_) (fun q4 => ?_)
                    · first
                      | (exfalso; omega; done)
                      | (
                          refine l_val rfl (o_pickT rfl rfl) ?_
                          refine l_val rfl (o_assign rfl) ?_
                          refine l_nil ?_
                          refine kt_norm ?_
                          refine v_sel [2] [] rfl rfl ?_
                          refine v_ret ?_
                          refine ⟨[_], .cons (.tmp rfl) (ResAll.nil), ?_⟩
                          exact congrArg Value.bool (by first | exact (decide_eq_true (by unfold NearT; omega)).symm | exact (decide_eq_false (by unfold NearT; omega)).symm))
                    · first
                      | (exfalso; omega; done)
                      | (
                          refine l_val rfl (o_pickT rfl rfl) ?_
                          refine l_val rfl (o_assign rfl) ?_
                          refine l_nil ?_
                          refine kt_norm ?_
                          refine v_sel [2] [] rfl rfl ?_
                          refine v_ret ?_
                          refine ⟨[_], .cons (.tmp rfl) (ResAll.nil), ?_⟩
                          exact congrArg Value.bool (by first | exact (decide_eq_true (by unfold NearT; omega)).symm | exact (decide_eq_false (by unfold NearT; omega)).symm)))
              · first
                | (exfalso; omega; done)
                | (
                    refine l_val rfl (o_pickT rfl rfl) ?_
                    refine l_val rfl (o_move rfl) ?_
                    refine l_no rfl ?_
                    refine l_no rfl ?_
                    refine l_no rfl ?_
                    refine l_val rfl (o_pickF rfl rfl) ?_
                    refine l_val rfl (o_assign rfl) ?_
                    refine l_nil ?_
                    refine kt_norm ?_
                    refine v_sel [2] [] rfl rfl ?_
                    refine v_ret ?_
                    refine ⟨[_], .cons (.tmp rfl) (ResAll.nil), ?_⟩
                    exact congrArg Value.bool (by first | exact (decide_eq_true (by unfold NearT; omega)).symm | exact (decide_eq_false (by unfold NearT; omega)).symm)))
        · first
          | (exfalso; omega; done)
          | (
              refine l_val rfl (o_pickT rfl rfl) ?_
              refine l_val rfl (o_move rfl) ?_
              refine l_no rfl ?_
              refine l_no rfl ?_
              refine l_no rfl ?_
              refine l_val rfl (o_pickF rfl rfl) ?_
              refine l_val rfl (o_move rfl) ?_
              refine l_no rfl ?_
              refine l_no rfl ?_
              refine l_no rfl ?_
              refine l_val rfl (o_pickF rfl rfl) ?_
              refine l_val rfl (o_assign rfl) ?_
              refine l_nil ?_
              refine kt_norm ?_
              refine v_sel [2] [] rfl rfl ?_
              refine v_ret ?_
              refine ⟨[_], .cons (.tmp rfl) (ResAll.nil), ?_⟩
              exact congrArg Value.bool (by first | exact (decide_eq_true (by unfold NearT; omega)).symm | exact (decide_eq_false (by unfold NearT; omega)).symm)))
  · first
    | (exfalso; omega; done)
    | (
        refine l_val rfl (o_move rfl) ?_
        refine l_no rfl ?_
        refine l_no rfl ?_
        refine l_no rfl ?_
        refine l_val rfl (o_pickF rfl rfl) ?_
        refine l_val rfl (o_move rfl) ?_
        refine l_no rfl ?_
        refine l_no rfl ?_
        refine l_no rfl ?_
        refine l_val rfl (o_pickF rfl rfl) ?_
        refine l_val rfl (o_move rfl) ?_
        refine l_no rfl ?_
        refine l_no rfl ?_
        refine l_no rfl ?_
        refine l_val rfl (o_pickF rfl rfl) ?_
        refine l_val rfl (o_assign rfl) ?_
        refine l_nil ?_
        refine kt_norm ?_
        refine v_sel [2] [] rfl rfl ?_
        refine v_ret ?_
        refine ⟨[_], .cons (.tmp rfl) (ResAll.nil), ?_⟩
        exact congrArg Value.bool (by first | exact (decide_eq_true (by unfold NearT; omega)).symm | exact (decide_eq_false (by unfold NearT; omega)).symm))

def shownPc : List PtT := [⟨0, 0⟩, ⟨64, 0⟩, ⟨32, 32⟩]
def shownEs : List EdgeT := [⟨64, 0, -32, 32, 1, 0, 2⟩, ⟨0, 0, 32, 32, -1, 0, 2⟩]
theorem shown_edges : edgesOf shownPc = shownEs := by rfl
theorem shown_near : ∀ p ∈ shownPc, NearT p := by decide
theorem a_OfShown (w : World) (pv : Value) (hV : RowV pv 3) (hrow : RowAt w pv 2 3 (shownPc.flatMap eP)) : Calls Try.prog 32 #[pv] w fun e w' => ∃ y, e = .returned y ∧ Below w.heap.size w w' ∧ OwnAt w.heap.size w' y 90 7 2 (shownEs.flatMap eE) := by
  have := a_OfE w pv shownPc (by decide) hV hrow shown_near
  rw [shown_edges] at this
  exact this
theorem live_shown : liveT 2 shownEs = [] := by rfl
theorem a_LiveShown (w : World) (v : Value) (hV : RowV v 2) (hrow : RowAt w v 7 2 (shownEs.flatMap eE)) : Calls Try.prog 48 #[v, .int .i64 2] w fun e w' => ∃ y, e = .returned y ∧ Below w.heap.size w w' ∧ OwnAt w.heap.size w' y 90 7 0 [] := by
  have := a_Live w v shownEs 2 (by decide) hV hrow
  rw [live_shown] at this
  exact this
theorem a_CheckShown : Ans Try.prog 47 [.agg #[.int .i64 0, .int .i64 0, .int .i64 1, .int .i64 1]] (.int .i64 0) := by
  have := a_Check 0 0 1 1
  rwa [if_pos (by decide)] at this

theorem quo4 (a : Int) : (0 ≤ a → a.tdiv 4 = a / 4) ∧ (a < 0 → a.tdiv 4 = -((-a) / 4)) :=
  ⟨fun h => Int.tdiv_eq_ediv_of_nonneg h, fun h => by rw [← Int.tdiv_eq_ediv_of_nonneg (show 0 ≤ -a by omega), Int.neg_tdiv, Int.neg_neg]⟩

end Go.Proofs.Ytaijclimdfchfaa
