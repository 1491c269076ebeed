import Derived.Test.YtaijclimdfchfaaE0
/- The numbers of 128 bits: what the functions answer. Conditions: none. -/
namespace Go.Proofs.Ytaijclimdfchfaa
open Go.Proofs Go.RowKit Go.Shelf

theorem a_Of (y : Int) (hy : -9223372036854775808 ≤ y ∧ y < 9223372036854775808) : Ans Try.prog 108 [.int .i64 y] (wideV y) := by
  refine ans_of Try.func108 rfl Try.ntmps108 Try.results108 rfl rfl fun w => ?_
  refine v_seq ?_
  refine v_region ?_
  refine l_new rfl o_alloc fun b2 => ?_
  refine l_nil ?_
  refine kt_norm ?_
  refine v_seq ?_
  refine v_region ?_
  refine l_val rfl (o_move rfl) ?_
  refine l_val rfl (o_shr (n := 63) (p := 9223372036854775808) rfl rfl (by decide) rfl (by decide)) ?_
  refine l_val rfl (o_move rfl) ?_
  refine l_val rfl (o_convu rfl) ?_
  refine l_val rfl (o_build (vs := [_, _]) (cs := [_, _]) rfl rfl) ?_
  refine l_store rfl (o_storeW (key := 2) (xs := [_, _]) rfl rfl rfl rfl rfl rfl rfl) ?_
  refine l_nil ?_
  refine kt_norm ?_
  refine v_sel [2] [2] rfl rfl ?_
  refine v_ret ?_
  refine ⟨[_], .cons (.cellW (key := 2) rfl rfl rfl) (ResAll.nil), ?_⟩
  exact (wideV_eq (by omega) (by omega) (by omega)).symm
theorem a_Add (x y : Int) (hx : -85070591730234615865843651857942052864 ≤ x ∧ x < 85070591730234615865843651857942052864) (hy : -85070591730234615865843651857942052864 ≤ y ∧ y < 85070591730234615865843651857942052864) : Ans Try.prog 107 [wideV x, wideV y] (wideV (x + y)) := by
  refine ans_of Try.func107 rfl Try.ntmps107 Try.results107 rfl rfl fun w => ?_
  refine v_seq ?_
  refine v_region ?_
  refine l_new rfl (o_box (cs := [_, _]) rfl rfl) fun b2 => ?_
  refine l_new rfl (o_box (cs := [_, _]) rfl rfl) fun b3 => ?_
  refine l_new rfl o_alloc fun b4 => ?_
  refine l_nil ?_
  refine kt_norm ?_
  refine v_seq ?_
  refine v_region ?_
  refine l_val rfl (o_fld rfl) ?_
  refine l_val rfl (o_load1 (key := 2) rfl rfl rfl) ?_
  refine l_val rfl (o_fld rfl) ?_
  refine l_val rfl (o_load1 (key := 3) rfl rfl rfl) ?_
  refine l_ans (vs := [_, _, _]) rfl rfl (a_Add64 _ _ _ ?_ ?_ ?_) ?_
  · omega
  · omega
  · omega
  refine l_val rfl (o_move rfl) ?_
  refine l_val rfl (o_extract rfl rfl) ?_
  refine l_val rfl (o_extract rfl rfl) ?_
  refine l_val rfl (o_assign rfl) ?_
  refine l_val rfl (o_assign rfl) ?_
  refine l_nil ?_
  refine kt_norm ?_
  refine v_sel [2, 3, 4, 5, 6] [2, 3, 4] rfl rfl ?_
  refine v_seq ?_
  refine v_region ?_
  refine l_val rfl (o_fld rfl) ?_
  refine l_val rfl (o_load1 (key := 2) rfl rfl rfl) ?_
  refine l_val rfl (o_convu rfl) ?_
  refine l_val rfl (o_fld rfl) ?_
  refine l_val rfl (o_load1 (key := 3) rfl rfl rfl) ?_
  refine l_val rfl (o_convu rfl) ?_
  refine l_val rfl (o_move rfl) ?_
  refine l_ans (vs := [_, _, _]) rfl rfl (a_Add64 _ _ _ ?_ ?_ ?_) ?_
  · omega
  · omega
  · omega
  refine l_val rfl (o_move rfl) ?_
  refine l_val rfl (o_extract rfl rfl) ?_
  refine l_val rfl (o_extract rfl rfl) ?_
  refine l_val rfl (o_assign rfl) ?_
  refine l_val rfl (o_assign rfl) ?_
  refine l_nil ?_
  refine kt_norm ?_
  refine v_sel [4, 5, 7] [4] rfl rfl ?_
  refine v_seq ?_
  refine v_region ?_
  refine l_val rfl (o_move rfl) ?_
  refine l_val rfl (o_convm rfl) ?_
  refine l_val rfl (o_move rfl) ?_
  refine l_val rfl (o_build (vs := [_, _]) (cs := [_, _]) rfl rfl) ?_
  refine l_store rfl (o_storeW (key := 4) (xs := [_, _]) rfl rfl rfl rfl rfl rfl rfl) ?_
  refine l_nil ?_
  refine kt_norm ?_
  refine v_sel [4] [4] rfl rfl ?_
  refine v_ret ?_
  refine ⟨[_], .cons (.cellW (key := 4) rfl rfl rfl) (ResAll.nil), ?_⟩
  exact (wideV_eq (by omega) (by omega) (by omega)).symm
theorem a_Sub (x y : Int) (hx : -85070591730234615865843651857942052864 ≤ x ∧ x < 85070591730234615865843651857942052864) (hy : -85070591730234615865843651857942052864 ≤ y ∧ y < 85070591730234615865843651857942052864) : Ans Try.prog 122 [wideV x, wideV y] (wideV (x - y)) := by
  refine ans_of Try.func122 rfl Try.ntmps122 Try.results122 rfl rfl fun w => ?_
  refine v_seq ?_
  refine v_region ?_
  refine l_new rfl (o_box (cs := [_, _]) rfl rfl) fun b2 => ?_
  refine l_new rfl (o_box (cs := [_, _]) rfl rfl) fun b3 => ?_
  refine l_new rfl o_alloc fun b4 => ?_
  refine l_nil ?_
  refine kt_norm ?_
  refine v_seq ?_
  refine v_region ?_
  refine l_val rfl (o_fld rfl) ?_
  refine l_val rfl (o_load1 (key := 2) rfl rfl rfl) ?_
  refine l_val rfl (o_fld rfl) ?_
  refine l_val rfl (o_load1 (key := 3) rfl rfl rfl) ?_
  refine l_ans (vs := [_, _, _]) rfl rfl (a_Sub64 _ _ _ ?_ ?_ ?_) ?_
  · omega
  · omega
  · omega
  refine l_val rfl (o_move rfl) ?_
  refine l_val rfl (o_extract rfl rfl) ?_
  refine l_val rfl (o_extract rfl rfl) ?_
  refine l_val rfl (o_assign rfl) ?_
  refine l_val rfl (o_assign rfl) ?_
  refine l_nil ?_
  refine kt_norm ?_
  refine v_sel [2, 3, 4, 5, 6] [2, 3, 4] rfl rfl ?_
  refine v_seq ?_
  refine v_region ?_
  refine l_val rfl (o_fld rfl) ?_
  refine l_val rfl (o_load1 (key := 2) rfl rfl rfl) ?_
  refine l_val rfl (o_convu rfl) ?_
  refine l_val rfl (o_fld rfl) ?_
  refine l_val rfl (o_load1 (key := 3) rfl rfl rfl) ?_
  refine l_val rfl (o_convu rfl) ?_
  refine l_val rfl (o_move rfl) ?_
  refine l_ans (vs := [_, _, _]) rfl rfl (a_Sub64 _ _ _ ?_ ?_ ?_) ?_
  · omega
  · omega
  · omega
  refine l_val rfl (o_move rfl) ?_
  refine l_val rfl (o_extract rfl rfl) ?_
  refine l_val rfl (o_extract rfl rfl) ?_
  refine l_val rfl (o_assign rfl) ?_
  refine l_val rfl (o_assign rfl) ?_
  refine l_nil ?_
  refine kt_norm ?_
  refine v_sel [4, 5, 7] [4] rfl rfl ?_
  refine v_seq ?_
  refine v_region ?_
  refine l_val rfl (o_move rfl) ?_
  refine l_val rfl (o_convm rfl) ?_
  refine l_val rfl (o_move rfl) ?_
  refine l_val rfl (o_build (vs := [_, _]) (cs := [_, _]) rfl rfl) ?_
  refine l_store rfl (o_storeW (key := 4) (xs := [_, _]) rfl rfl rfl rfl rfl rfl rfl) ?_
  refine l_nil ?_
  refine kt_norm ?_
  refine v_sel [4] [4] rfl rfl ?_
  refine v_ret ?_
  refine ⟨[_], .cons (.cellW (key := 4) rfl rfl rfl) (ResAll.nil), ?_⟩
  exact (wideV_eq (by omega) (by omega) (by omega)).symm
theorem a_Mul (x y : Int) (hx : -9223372036854775808 ≤ x ∧ x < 9223372036854775808) (hy : -9223372036854775808 ≤ y ∧ y < 9223372036854775808) : Ans Try.prog 106 [.int .i64 x, .int .i64 y] (wideV (x * y)) := by
  have m1 := mul_bound (A := 9223372036854775808) (B := 9223372036854775808) (x := x) (y := y) (by omega) (by omega) (by omega) (by omega)
  refine ans_of Try.func106 rfl Try.ntmps106 Try.results106 rfl rfl fun w => ?_
  refine v_seq ?_
  refine v_region ?_
  refine l_new rfl o_alloc fun b4 => ?_
  refine l_nil ?_
  refine kt_norm ?_
  refine v_seq ?_
  refine v_region ?_
  refine l_val rfl (o_move rfl) ?_
  refine l_val rfl (o_convu rfl) ?_
  refine l_val rfl (o_move rfl) ?_
  refine l_val rfl (o_convu rfl) ?_
  refine l_ans (vs := [_, _]) rfl rfl (a_Mul64 _ _ ?_ ?_) ?_
  · omega
  · omega
  refine l_val rfl (o_move rfl) ?_
  refine l_val rfl (o_extract rfl rfl) ?_
  refine l_val rfl (o_extract rfl rfl) ?_
  refine l_val rfl (o_assign rfl) ?_
  refine l_val rfl (o_assign rfl) ?_
  refine l_nil ?_
  refine kt_norm ?_
  refine v_sel [0, 1, 4, 5, 6] [4] rfl rfl ?_
  refine v_seq ?_
  refine v_seq ?_
  refine v_region ?_
  refine l_val rfl (o_move rfl) ?_
  refine l_split rfl (o_lss rfl rfl) (fun q1 => ?_) (fun q1 => ?_)
  · first
    | (exfalso; omega; done)
    | (
        refine l_nil ?_
        refine kt_norm ?_
        refine v_condT rfl ?_
        refine v_region ?_
        refine l_val rfl (o_move rfl) ?_
        refine l_val rfl (o_move rfl) ?_
        refine l_val rfl (o_convu rfl) ?_
        refine l_val rfl (o_subu rfl rfl) ?_
        refine l_val rfl (o_assign rfl) ?_
        refine l_nil ?_
        refine kt_norm ?_
        refine v_sel [0, 1, 4, 5, 6] [4] rfl rfl ?_
        refine v_seq ?_
        refine v_seq ?_
        refine v_region ?_
        refine l_val rfl (o_move rfl) ?_
        refine l_split rfl (o_lss rfl rfl) (fun q2 => ?_) (fun q2 => ?_)
        · first
          | (exfalso; omega; done)
          | (
              refine l_nil ?_
              refine kt_norm ?_
              refine v_condT rfl ?_
              refine v_region ?_
              refine l_val rfl (o_move rfl) ?_
              refine l_val rfl (o_move rfl) ?_
              refine l_val rfl (o_convu rfl) ?_
              refine l_val rfl (o_subu rfl rfl) ?_
              refine l_val rfl (o_assign rfl) ?_
              refine l_nil ?_
              refine kt_norm ?_
              refine v_sel [4, 5, 6] [4] rfl rfl ?_
              refine v_seq ?_
              refine v_region ?_
              refine l_val rfl (o_move rfl) ?_
              refine l_val rfl (o_convm rfl) ?_
              refine l_val rfl (o_move rfl) ?_
              refine l_val rfl (o_build (vs := [_, _]) (cs := [_, _]) rfl rfl) ?_
              refine l_store rfl (o_storeW (key := 4) (xs := [_, _]) rfl rfl rfl rfl rfl rfl rfl) ?_
              refine l_nil ?_
              refine kt_norm ?_
              refine v_sel [4] [4] rfl rfl ?_
              refine v_ret ?_
              refine ⟨[_], .cons (.cellW (key := 4) rfl rfl rfl) (ResAll.nil), ?_⟩
              refine (wideV_eq ?_ ?_ ?_).symm
              all_goals first
                | (rw [mp_nn (by omega) (by omega) (by omega) (by omega)]; omega)
                | (rw [mp_np (by omega) (by omega) (by omega) (by omega)]; omega)
                | (rw [mp_pn (by omega) (by omega) (by omega) (by omega)]; omega)
                | (rw [mp_pp (by omega) (by omega) (by omega) (by omega)]; omega))
        · first
          | (exfalso; omega; done)
          | (
              refine l_nil ?_
              refine kt_norm ?_
              refine v_condF rfl ?_
              refine v_skip ?_
              refine kt_norm ?_
              refine v_seq ?_
              refine v_region ?_
              refine l_val rfl (o_move rfl) ?_
              refine l_val rfl (o_convm rfl) ?_
              refine l_val rfl (o_move rfl) ?_
              refine l_val rfl (o_build (vs := [_, _]) (cs := [_, _]) rfl rfl) ?_
              refine l_store rfl (o_storeW (key := 4) (xs := [_, _]) rfl rfl rfl rfl rfl rfl rfl) ?_
              refine l_nil ?_
              refine kt_norm ?_
              refine v_sel [4] [4] rfl rfl ?_
              refine v_ret ?_
              refine ⟨[_], .cons (.cellW (key := 4) rfl rfl rfl) (ResAll.nil), ?_⟩
              refine (wideV_eq ?_ ?_ ?_).symm
              all_goals first
                | (rw [mp_nn (by omega) (by omega) (by omega) (by omega)]; omega)
                | (rw [mp_np (by omega) (by omega) (by omega) (by omega)]; omega)
                | (rw [mp_pn (by omega) (by omega) (by omega) (by omega)]; omega)
                | (rw [mp_pp (by omega) (by omega) (by omega) (by omega)]; omega)))
  · first
    | (exfalso; omega; done)
    | (
        refine l_nil ?_
        refine kt_norm ?_
        refine v_condF rfl ?_
        refine v_skip ?_
        refine kt_norm ?_
        refine v_seq ?_
        refine v_seq ?_
        refine v_region ?_
        refine l_val rfl (o_move rfl) ?_
        refine l_split rfl (o_lss rfl rfl) (fun q3 => ?_) (fun q3 => ?_)
        · first
          | (exfalso; omega; done)
          | (
              refine l_nil ?_
              refine kt_norm ?_
              refine v_condT rfl ?_
              refine v_region ?_
              refine l_val rfl (o_move rfl) ?_
              refine l_val rfl (o_move rfl) ?_
              refine l_val rfl (o_convu rfl) ?_
              refine l_val rfl (o_subu rfl rfl) ?_
              refine l_val rfl (o_assign rfl) ?_
              refine l_nil ?_
              refine kt_norm ?_
              refine v_sel [4, 5, 6] [4] rfl rfl ?_
              refine v_seq ?_
              refine v_region ?_
              refine l_val rfl (o_move rfl) ?_
              refine l_val rfl (o_convm rfl) ?_
              refine l_val rfl (o_move rfl) ?_
              refine l_val rfl (o_build (vs := [_, _]) (cs := [_, _]) rfl rfl) ?_
              refine l_store rfl (o_storeW (key := 4) (xs := [_, _]) rfl rfl rfl rfl rfl rfl rfl) ?_
              refine l_nil ?_
              refine kt_norm ?_
              refine v_sel [4] [4] rfl rfl ?_
              refine v_ret ?_
              refine ⟨[_], .cons (.cellW (key := 4) rfl rfl rfl) (ResAll.nil), ?_⟩
              refine (wideV_eq ?_ ?_ ?_).symm
              all_goals first
                | (rw [mp_nn (by omega) (by omega) (by omega) (by omega)]; omega)
                | (rw [mp_np (by omega) (by omega) (by omega) (by omega)]; omega)
                | (rw [mp_pn (by omega) (by omega) (by omega) (by omega)]; omega)
                | (rw [mp_pp (by omega) (by omega) (by omega) (by omega)]; omega))
        · first
          | (exfalso; omega; done)
          | (
              refine l_nil ?_
              refine kt_norm ?_
              refine v_condF rfl ?_
              refine v_skip ?_
              refine kt_norm ?_
              refine v_sel [4, 5, 6] [4] rfl rfl ?_
              refine v_seq ?_
              refine v_region ?_
              refine l_val rfl (o_move rfl) ?_
              refine l_val rfl (o_convm rfl) ?_
              refine l_val rfl (o_move rfl) ?_
              refine l_val rfl (o_build (vs := [_, _]) (cs := [_, _]) rfl rfl) ?_
              refine l_store rfl (o_storeW (key := 4) (xs := [_, _]) rfl rfl rfl rfl rfl rfl rfl) ?_
              refine l_nil ?_
              refine kt_norm ?_
              refine v_sel [4] [4] rfl rfl ?_
              refine v_ret ?_
              refine ⟨[_], .cons (.cellW (key := 4) rfl rfl rfl) (ResAll.nil), ?_⟩
              refine (wideV_eq ?_ ?_ ?_).symm
              all_goals first
                | (rw [mp_nn (by omega) (by omega) (by omega) (by omega)]; omega)
                | (rw [mp_np (by omega) (by omega) (by omega) (by omega)]; omega)
                | (rw [mp_pn (by omega) (by omega) (by omega) (by omega)]; omega)
                | (rw [mp_pp (by omega) (by omega) (by omega) (by omega)]; omega)))
theorem a_Cmp (x y : Int) : Ans Try.prog 121 [wideV x, wideV y] (.int .i64 (if x = y then 0 else if x < y then -1 else 1)) := by
  refine ans_of Try.func121 rfl Try.ntmps121 Try.results121 rfl rfl fun w => ?_
  refine v_seq ?_
  refine v_region ?_
  refine l_new rfl (o_box (cs := [_, _]) rfl rfl) fun b2 => ?_
  refine l_new rfl (o_box (cs := [_, _]) rfl rfl) fun b3 => ?_
  refine l_val rfl (o_assign rfl) ?_
  refine l_nil ?_
  refine kt_norm ?_
  refine v_seq ?_
  refine v_block ?_
  refine v_seq ?_
  refine v_region ?_
  refine l_val rfl (o_loadW (key := 2) rfl rfl rfl) ?_
  refine l_val rfl (o_loadW (key := 3) rfl rfl rfl) ?_
  refine l_split rfl (o_eqs (xl := [_, _]) (yl := [_, _]) (az := [_, _]) (bz := [_, _]) rfl rfl rfl rfl rfl rfl) (fun q1 => ?_) (fun q1 => ?_)
  · simp only [List.map_cons, List.map_nil, List.cons.injEq, and_true] at q1
    first
    | (exfalso; omega; done)
    | (
        refine l_val rfl (o_assign rfl) ?_
        refine l_nil ?_
        refine kt_norm ?_
        refine v_sel [2, 3, 5] [2, 3] rfl rfl ?_
        refine v_condT rfl ?_
        refine v_seq ?_
        refine v_region ?_
        refine l_val rfl (o_assign rfl) ?_
        refine l_nil ?_
        refine kt_norm ?_
        refine v_ret ?_
        refine kb_ret ?_
        refine kt_ret ?_
        refine ⟨[_], .cons (.tmp rfl) (ResAll.nil), ?_⟩
        show Value.int .i64 _ = _
        congr 1
        (repeat' split) <;> omega)
  · simp only [List.map_cons, List.map_nil, List.cons.injEq, and_true] at q1
    first
    | (exfalso; omega; done)
    | (
        refine l_val rfl (o_assign rfl) ?_
        refine l_nil ?_
        refine kt_norm ?_
        refine v_sel [2, 3, 5] [2, 3] rfl rfl ?_
        refine v_condF rfl ?_
        refine v_seq ?_
        refine v_seq ?_
        refine v_region ?_
        refine l_val rfl (o_fld rfl) ?_
        refine l_val rfl (o_load1 (key := 2) rfl rfl rfl) ?_
        refine l_val rfl (o_fld rfl) ?_
        refine l_val rfl (o_load1 (key := 3) rfl rfl rfl) ?_
        refine l_split rfl (o_lss rfl rfl) (fun q2 => ?_) (fun q2 => ?_)
        · first
          | (exfalso; omega; done)
          | (
              refine l_val rfl (o_assign rfl) ?_
              refine l_nil ?_
              refine kt_norm ?_
              refine v_sel [2, 3, 9] [2, 3] rfl rfl ?_
              refine v_condT rfl ?_
              refine v_skip ?_
              refine kt_norm ?_
              refine v_condT rfl ?_
              refine v_seq ?_
              refine v_region ?_
              refine l_val rfl (o_assign rfl) ?_
              refine l_nil ?_
              refine kt_norm ?_
              refine v_ret ?_
              refine kb_ret ?_
              refine kt_ret ?_
              refine ⟨[_], .cons (.tmp rfl) (ResAll.nil), ?_⟩
              show Value.int .i64 _ = _
              congr 1
              (repeat' split) <;> omega)
        · first
          | (exfalso; omega; done)
          | (
              refine l_val rfl (o_assign rfl) ?_
              refine l_nil ?_
              refine kt_norm ?_
              refine v_sel [2, 3, 9] [2, 3] rfl rfl ?_
              refine v_condF rfl ?_
              refine v_region ?_
              refine l_val rfl (o_fld rfl) ?_
              refine l_val rfl (o_load1 (key := 2) rfl rfl rfl) ?_
              refine l_val rfl (o_fld rfl) ?_
              refine l_val rfl (o_load1 (key := 3) rfl rfl rfl) ?_
              refine l_split rfl (o_eql rfl rfl) (fun q3 => ?_) (fun q3 => ?_)
              · first
                | (exfalso; omega; done)
                | (
                    refine l_val rfl (o_move rfl) ?_
                    refine l_val rfl (o_fld rfl) ?_
                    refine l_val rfl (o_load1 (key := 2) rfl rfl rfl) ?_
                    refine l_val rfl (o_fld rfl) ?_
                    refine l_val rfl (o_load1 (key := 3) rfl rfl rfl) ?_
                    refine l_split rfl (o_lss rfl rfl) (fun q4 => ?_) (fun q4 => ?_)
                    · first
                      | (exfalso; omega; done)
                      | (
                          refine l_val rfl (o_pickT rfl rfl) ?_
                          refine l_val rfl (o_assign rfl) ?_
                          refine l_nil ?_
                          refine kt_norm ?_
                          refine v_sel [9] [] rfl rfl ?_
                          refine v_condT rfl ?_
                          refine v_seq ?_
                          refine v_region ?_
                          refine l_val rfl (o_assign rfl) ?_
                          refine l_nil ?_
                          refine kt_norm ?_
                          refine v_ret ?_
                          refine kb_ret ?_
                          refine kt_ret ?_
                          refine ⟨[_], .cons (.tmp rfl) (ResAll.nil), ?_⟩
                          show Value.int .i64 _ = _
                          congr 1
                          (repeat' split) <;> omega)
                    · first
                      | (exfalso; omega; done)
                      | (
                          refine l_val rfl (o_pickT rfl rfl) ?_
                          refine l_val rfl (o_assign rfl) ?_
                          refine l_nil ?_
                          refine kt_norm ?_
                          refine v_sel [9] [] rfl rfl ?_
                          refine v_condF rfl ?_
                          refine v_skip ?_
                          refine kb_norm ?_
                          refine kt_norm ?_
                          refine v_seq ?_
                          refine v_region ?_
                          refine l_val rfl (o_assign rfl) ?_
                          refine l_nil ?_
                          refine kt_norm ?_
                          refine v_ret ?_
                          refine ⟨[_], .cons (.tmp rfl) (ResAll.nil), ?_⟩
                          show Value.int .i64 _ = _
                          congr 1
                          (repeat' split) <;> omega))
              · first
                | (exfalso; omega; done)
                | (
                    refine l_val rfl (o_move rfl) ?_
                    refine l_no rfl ?_
                    refine l_no rfl ?_
                    refine l_no rfl ?_
                    refine l_no rfl ?_
                    refine l_no rfl ?_
                    refine l_val rfl (o_pickF rfl rfl) ?_
                    refine l_val rfl (o_assign rfl) ?_
                    refine l_nil ?_
                    refine kt_norm ?_
                    refine v_sel [9] [] rfl rfl ?_
                    refine v_condF rfl ?_
                    refine v_skip ?_
                    refine kb_norm ?_
                    refine kt_norm ?_
                    refine v_seq ?_
                    refine v_region ?_
                    refine l_val rfl (o_assign rfl) ?_
                    refine l_nil ?_
                    refine kt_norm ?_
                    refine v_ret ?_
                    refine ⟨[_], .cons (.tmp rfl) (ResAll.nil), ?_⟩
                    show Value.int .i64 _ = _
                    congr 1
                    (repeat' split) <;> omega)))
def sg (x : Int) : Int := if x = 0 then 0 else if x < 0 then -1 else 1
theorem sg_spec (x : Int) : (x < 0 → sg x = -1) ∧ (x = 0 → sg x = 0) ∧ (0 < x → sg x = 1) := by
  unfold sg; (repeat' split) <;> omega
theorem a_Sign (x : Int) : Ans Try.prog 102 [wideV x] (.int .i64 (sg x)) := by
  refine ans_of Try.func102 rfl Try.ntmps102 Try.results102 rfl rfl fun w => ?_
  refine v_seq ?_
  refine v_region ?_
  refine l_new rfl (o_box (cs := [_, _]) rfl rfl) fun b1 => ?_
  refine l_val rfl (o_assign rfl) ?_
  refine l_nil ?_
  refine kt_norm ?_
  refine v_seq ?_
  refine v_region ?_
  refine l_val rfl (o_loadW (key := 1) rfl rfl rfl) ?_
  refine l_val rfl (o_build (vs := []) (cs := [_, _]) rfl rfl) ?_
  refine l_ans (vs := [_, _]) rfl rfl (a_Cmp _ 0) ?_
  refine l_val rfl (o_assign rfl) ?_
  refine l_nil ?_
  refine kt_norm ?_
  refine v_ret ?_
  refine ⟨[_], .cons (.tmp rfl) (ResAll.nil), ?_⟩
  rfl
theorem a_Narrow (x : Int) (hx : -9223372036854775808 ≤ x ∧ x < 9223372036854775808) : Ans Try.prog 109 [wideV x] (.tuple #[.int .i64 x, .bool true]) := by
  refine ans_of Try.func109 rfl Try.ntmps109 Try.results109 rfl rfl fun w => ?_
  refine v_seq ?_
  refine v_region ?_
  refine l_new rfl (o_box (cs := [_, _]) rfl rfl) fun b1 => ?_
  refine l_val rfl (o_assign rfl) ?_
  refine l_val rfl (o_assign rfl) ?_
  refine l_nil ?_
  refine kt_norm ?_
  refine v_seq ?_
  refine v_region ?_
  refine l_val rfl (o_fld rfl) ?_
  refine l_val rfl (o_load1 (key := 1) rfl rfl rfl) ?_
  refine l_val rfl (o_convm rfl) ?_
  refine l_val rfl (o_assign rfl) ?_
  refine l_nil ?_
  refine kt_norm ?_
  refine v_sel [1, 4] [1] rfl rfl ?_
  refine v_seq ?_
  refine v_seq ?_
  refine v_drawZ [[1], [], [], []] mixed ?_ (by kernel_rfl) (by kernel_rfl)
  refine d_val (fun _ => rfl) rfl rfl (fun _ => o_loadW (key := 1) rfl rfl rfl) ?_
  refine d_val (fun _ => rfl) rfl rfl (fun _ => o_move rfl) ?_
  refine d_ans (vs := [_]) (fun _ => rfl) (fun _ => rfl) (a_Of _ ?_) ?_
  · omega
  refine d_neqs (xl := [_, _]) (yl := [_, _]) (az := [_, _]) (bz := [_, _]) (fun _ => rfl) (fun _ => rfl) (fun _ => rfl) rfl rfl rfl rfl (fun q1 => ?_) (fun q1 => ?_)
  · simp only [List.map_cons, List.map_nil, List.cons.injEq, and_true, Decidable.not_not] at q1
    first
    | (exfalso; omega; done)
    | (
        refine d_nil (fun σ => ?_)
        refine l_nil ?_
        refine kt_norm ?_
        refine v_condT rfl ?_
        refine v_seq ?_
        refine v_region ?_
        refine l_val rfl (o_assign rfl) ?_
        refine l_val rfl (o_assign rfl) ?_
        refine l_nil ?_
        refine kt_norm ?_
        refine v_sel [2, 3] [] rfl rfl ?_
        refine v_ret ?_
        refine kt_ret ?_
        refine ⟨[_, _], .cons (.tmp rfl) (.cons (.tmp rfl) (ResAll.nil)), ?_⟩
        show Value.tuple #[.int .i64 _, .bool true] = _
        rw [show (x % 18446744073709551616 + 9223372036854775808) % 18446744073709551616 - 9223372036854775808 = x by omega])
  · simp only [List.map_cons, List.map_nil, List.cons.injEq, and_true, Decidable.not_not] at q1
    first
    | (exfalso; omega; done)
    | (
        refine d_nil (fun σ => ?_)
        refine l_nil ?_
        refine kt_norm ?_
        refine v_condF rfl ?_
        refine v_skip ?_
        refine kt_norm ?_
        refine v_seq ?_
        refine v_region ?_
        refine l_val rfl (o_move rfl) ?_
        refine l_val rfl (o_assign rfl) ?_
        refine l_val rfl (o_assign rfl) ?_
        refine l_nil ?_
        refine kt_norm ?_
        refine v_sel [2, 3] [] rfl rfl ?_
        refine v_ret ?_
        refine ⟨[_, _], .cons (.tmp rfl) (.cons (.tmp rfl) (ResAll.nil)), ?_⟩
        show Value.tuple #[.int .i64 _, .bool true] = _
        rw [show (x % 18446744073709551616 + 9223372036854775808) % 18446744073709551616 - 9223372036854775808 = x by omega])
end Go.Proofs.Ytaijclimdfchfaa
