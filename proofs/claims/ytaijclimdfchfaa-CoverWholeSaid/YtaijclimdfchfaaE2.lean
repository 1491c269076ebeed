import Derived.Test.YtaijclimdfchfaaE1
/- Division; the scale of an edge; its row; a view. Conditions: none. -/
namespace Go.Proofs.Ytaijclimdfchfaa
open Go.Proofs Go.RowKit Go.Shelf

theorem neg_div1 {x b : Int} (hb : 0 < b) (hx : x < 0) (hx2 : -18446744073709551616 < x) (hm : 0 < (0 - x) % 18446744073709551616 % b) :
    x / b = -((0 - x) % 18446744073709551616 / b) - 1 ∧ x % b = b - (0 - x) % 18446744073709551616 % b := by
  have e : (0 - x) % 18446744073709551616 = -x := by omega
  rw [e] at hm ⊢
  have h1 := Int.mul_ediv_add_emod (-x) b
  have h2 := Int.emod_lt_of_pos (-x) hb
  refine (Int.ediv_emod_unique hb).2 ⟨?_, by omega, by omega⟩
  rw [Int.mul_sub, Int.mul_neg, Int.mul_one]
  omega
theorem neg_div0 {x b : Int} (hb : 0 < b) (hx : x < 0) (hx2 : -18446744073709551616 < x) (hm : (0 - x) % 18446744073709551616 % b = 0) :
    x / b = -((0 - x) % 18446744073709551616 / b) ∧ x % b = 0 := by
  have e : (0 - x) % 18446744073709551616 = -x := by omega
  rw [e] at hm ⊢
  have h1 := Int.mul_ediv_add_emod (-x) b
  refine (Int.ediv_emod_unique hb).2 ⟨?_, by omega, by omega⟩
  rw [Int.mul_neg]
  omega
theorem tup3 {h l r h' l' r' : Int} (e1 : h = h') (e2 : l = l') (e3 : r = r') : packV [.agg #[.int .i64 h, .int .u64 l], .int .i64 r, .int .i64 0] = .tuple #[.agg #[.int .i64 h', .int .u64 l'], .int .i64 r', .int .i64 0] := by
  subst e1 e2 e3; rfl

theorem a_Div64 (h y z : Int) (hh : h = 0) (hy : 0 ≤ y ∧ y < 18446744073709551616) (hz : 0 < z ∧ z < 18446744073709551616) : Ans Try.prog 124 [.int .u64 h, .int .u64 y, .int .u64 z] (.tuple #[.int .u64 (y / z), .int .u64 (y % z)]) := by
  subst hh
  have h3 : 0 ≤ y / z := Int.ediv_nonneg hy.1 (by omega)
  have h4 : y / z ≤ y := Int.ediv_le_self _ hy.1
  refine ans_of Try.func124 rfl Try.ntmps124 Try.results124 rfl rfl fun w => ?_
  refine v_seq ?_
  refine v_region ?_
  refine l_val rfl (o_assign rfl) ?_
  refine l_val rfl (o_assign rfl) ?_
  refine l_nil ?_
  refine kt_norm ?_
  refine v_seq ?_
  refine v_seq ?_
  refine v_region ?_
  refine l_val rfl (o_move rfl) ?_
  refine l_split rfl (o_eql rfl rfl) (fun q1 => absurd q1 (by omega)) (fun q1 => ?_)
  refine l_nil ?_
  refine kt_norm ?_
  refine v_condF rfl ?_
  refine v_skip ?_
  refine kt_norm ?_
  refine v_seq ?_
  refine v_seq ?_
  refine v_region ?_
  refine l_val rfl (o_move rfl) ?_
  refine l_val rfl (o_move rfl) ?_
  refine l_split rfl (o_leq rfl rfl) (fun q2 => absurd q2 (by omega)) (fun q2 => ?_)
  refine l_nil ?_
  refine kt_norm ?_
  refine v_sel [0, 1, 2, 24] [] rfl rfl ?_
  refine v_condF rfl ?_
  refine v_skip ?_
  refine kt_norm ?_
  refine v_seq ?_
  refine v_seq ?_
  refine v_region ?_
  refine l_val rfl (o_move rfl) ?_
  refine l_split rfl (o_eql rfl rfl) (fun q3 => ?_) (fun q3 => absurd (show _ by omega) q3)
  refine l_nil ?_
  refine kt_norm ?_
  refine v_condT rfl ?_
  refine v_seq ?_
  refine v_drawZ [[], [], [], [], [], [], [], []] mixed ?_ (by kernel_rfl) (by kernel_rfl)
  refine d_val (fun _ => rfl) rfl rfl (fun _ => o_move rfl) ?_
  refine d_val (fun _ => rfl) rfl rfl (fun _ => o_move rfl) ?_
  refine d_val (fun _ => rfl) rfl rfl (fun _ => o_quon rfl rfl ?_ ?_) ?_
  · omega
  · exact wrap_u64 (by omega)
  refine d_val (fun _ => rfl) rfl rfl (fun _ => o_move rfl) ?_
  refine d_val (fun _ => rfl) rfl rfl (fun _ => o_move rfl) ?_
  refine d_val (fun _ => rfl) rfl rfl (fun _ => o_remn rfl rfl ?_) ?_
  · omega
  refine d_val (fun _ => rfl) rfl rfl (fun _ => o_assign rfl) ?_
  refine d_val (fun _ => rfl) rfl rfl (fun _ => o_assign rfl) ?_
  refine d_nil (fun σ => ?_)
  refine l_nil ?_
  refine kt_norm ?_
  refine v_sel [6, 7] [] rfl rfl ?_
  refine v_ret ?_
  refine kt_ret ?_
  refine ⟨[_, _], .cons (.tmp rfl) (.cons (.tmp rfl) (ResAll.nil)), ?_⟩
  rfl
theorem a_Div64e (h y z b : Int) (hh : h = 0) (hy : 0 ≤ y ∧ y < 18446744073709551616) (hzb : z = b) (hz : 0 < z ∧ z < 18446744073709551616) : Ans Try.prog 124 [.int .u64 h, .int .u64 y, .int .u64 z] (.tuple #[.int .u64 (y / b), .int .u64 (y % b)]) := by
  subst hzb; exact a_Div64 _ _ _ hh hy hz
theorem a_Div64z (h y z : Int) (hh : h = 0) (hy : y = 0) (hz : 0 < z ∧ z < 18446744073709551616) : Ans Try.prog 124 [.int .u64 h, .int .u64 y, .int .u64 z] (.tuple #[.int .u64 0, .int .u64 0]) := by
  subst hy
  have := a_Div64 h 0 z hh (by omega) hz
  rw [Int.zero_ediv, Int.zero_emod] at this
  exact this
theorem a_SubG (h l h' l' : Int) (hl : 0 ≤ l ∧ l < 18446744073709551616) (hm : 0 ≤ l' ∧ l' < 18446744073709551616) (hh : -4611686018427387904 ≤ h ∧ h < 4611686018427387904) (hk : -4611686018427387904 ≤ h' ∧ h' < 4611686018427387904) :
    Ans Try.prog 122 [.agg #[.int .i64 h, .int .u64 l], .agg #[.int .i64 h', .int .u64 l']] (wideV (h * 18446744073709551616 + l - (h' * 18446744073709551616 + l'))) := by
  rw [← wideV_eq hl.1 hl.2 rfl, ← wideV_eq hm.1 hm.2 rfl]
  exact a_Sub _ _ (by omega) (by omega)
set_option maxHeartbeats 1000000 in
theorem a_Div (x b : Int) (hx : -18446744073709551616 < x ∧ x < 18446744073709551616) (hb : 0 < b ∧ b < 9223372036854775808) : Ans Try.prog 105 [wideV x, .int .i64 b] (.tuple #[wideV (x / b), .int .i64 (x % b), .int .i64 0]) := by
  have f1 : 0 ≤ x % 18446744073709551616 / b := Int.ediv_nonneg (by omega) (by omega)
  have f2 : x % 18446744073709551616 / b ≤ x % 18446744073709551616 := Int.ediv_le_self _ (by omega)
  have f3 : 0 ≤ (0 - x) % 18446744073709551616 / b := Int.ediv_nonneg (by omega) (by omega)
  have f4 : (0 - x) % 18446744073709551616 / b ≤ (0 - x) % 18446744073709551616 := Int.ediv_le_self _ (by omega)
  have g1 := Int.emod_nonneg (x % 18446744073709551616) (show b ≠ 0 by omega)
  have g2 := Int.emod_lt_of_pos (x % 18446744073709551616) hb.1
  have g3 := Int.emod_nonneg ((0 - x) % 18446744073709551616) (show b ≠ 0 by omega)
  have g4 := Int.emod_lt_of_pos ((0 - x) % 18446744073709551616) hb.1
  have eb : b % 18446744073709551616 = b := Int.emod_eq_of_lt (by omega) (by omega)
  have sp := sg_spec x
  refine ans_of Try.func105 rfl Try.ntmps105 Try.results105 rfl rfl fun w => ?_
  refine v_seq ?_
  refine v_region ?_
  refine l_new rfl (o_box (cs := [_, _]) rfl rfl) fun b2 => ?_
  refine l_new rfl o_alloc fun b4 => ?_
  refine l_val rfl (o_assign rfl) ?_
  refine l_val rfl (o_assign rfl) ?_
  refine l_nil ?_
  refine kt_norm ?_
  refine v_seq ?_
  refine v_region ?_
  refine l_val rfl (o_loadW (key := 2) rfl rfl rfl) ?_
  refine l_ans (vs := [_]) rfl rfl (a_Sign _) ?_
  refine l_val rfl (o_assign rfl) ?_
  refine l_nil ?_
  refine kt_norm ?_
  refine v_seq ?_
  refine v_block ?_
  refine v_seq ?_
  refine v_block ?_
  refine v_seq ?_
  refine v_block ?_
  refine v_seq ?_
  refine v_block ?_
  refine v_seq ?_
  refine v_seq ?_
  refine v_seq ?_
  refine v_region ?_
  refine l_val rfl (o_move rfl) ?_
  refine l_split rfl (o_leq rfl rfl) (fun q1 => absurd q1 (by omega)) (fun q1 => ?_)
  refine l_val rfl (o_assign rfl) ?_
  refine l_nil ?_
  refine kt_norm ?_
  refine v_sel [1, 2, 4, 7, 14] [2, 4] rfl rfl ?_
  refine v_condF rfl ?_
  refine v_skip ?_
  refine kt_norm ?_
  refine v_seq ?_
  refine v_region ?_
  refine l_val rfl (o_move rfl) ?_
  refine l_split rfl (o_lss rfl rfl) (fun q2 => ?_) (fun q2 => ?_)
  · first
    | (exfalso; omega; done)
    | (
        refine l_val rfl (o_assign rfl) ?_
        refine l_nil ?_
        refine kt_norm ?_
        refine v_condT rfl ?_
        refine v_exit ?_
        refine kt_exit ?_
        refine kb_ne (by decide) ?_
        refine kt_exit ?_
        refine kb_eq ?_
        refine kt_norm ?_
        refine v_region ?_
        refine l_val rfl (o_build (vs := []) (cs := [_, _]) rfl rfl) ?_
        refine l_val rfl (o_loadW (key := 2) rfl rfl rfl) ?_
        refine l_ans (vs := [_, _]) rfl rfl (a_Sub 0 _ ?_ ?_) ?_
        · omega
        · omega
        refine l_store rfl (o_storeW (key := 2) (xs := [_, _]) rfl rfl rfl rfl rfl rfl rfl) ?_
        refine l_nil ?_
        refine kb_norm ?_
        refine kt_norm ?_
        refine v_sel [1, 2, 4, 7] [2, 4] rfl rfl ?_
        refine v_seq ?_
        refine v_seq ?_
        refine v_region ?_
        refine l_val rfl (o_fld rfl) ?_
        refine l_val rfl (o_load1 (key := 2) rfl rfl rfl) ?_
        refine l_val rfl (o_convu rfl) ?_
        refine l_val rfl (o_move rfl) ?_
        refine l_val rfl (o_convu rfl) ?_
        refine l_ans (vs := [_, _, _]) rfl rfl (a_Div64z _ _ _ ?_ ?_ ?_) ?_
        · omega
        · omega
        · omega
        refine l_val rfl (o_move rfl) ?_
        refine l_val rfl (o_extract rfl rfl) ?_
        refine l_val rfl (o_extract rfl rfl) ?_
        refine l_val rfl (o_assign rfl) ?_
        refine l_val rfl (o_assign rfl) ?_
        refine l_nil ?_
        refine kt_norm ?_
        refine v_sel [1, 2, 4, 7, 8, 9] [2, 4] rfl rfl ?_
        refine v_seq ?_
        refine v_region ?_
        refine l_val rfl (o_move rfl) ?_
        refine l_val rfl (o_fld rfl) ?_
        refine l_val rfl (o_load1 (key := 2) rfl rfl rfl) ?_
        refine l_val rfl (o_move rfl) ?_
        refine l_val rfl (o_convu rfl) ?_
        refine l_ans (vs := [_, _, _]) rfl rfl (a_Div64e _ _ _ b ?_ ?_ ?_ ?_) ?_
        · omega
        · omega
        · omega
        · omega
        refine l_val rfl (o_move rfl) ?_
        refine l_val rfl (o_extract rfl rfl) ?_
        refine l_val rfl (o_extract rfl rfl) ?_
        refine l_val rfl (o_assign rfl) ?_
        refine l_val rfl (o_assign rfl) ?_
        refine l_nil ?_
        refine kt_norm ?_
        refine v_sel [1, 4, 7, 8, 10, 11] [4] rfl rfl ?_
        refine v_region ?_
        refine l_val rfl (o_move rfl) ?_
        refine l_val rfl (o_convm rfl) ?_
        refine l_val rfl (o_move rfl) ?_
        refine l_val rfl (o_build (vs := [_, _]) (cs := [_, _]) rfl rfl) ?_
        refine l_val rfl (o_move rfl) ?_
        refine l_val rfl (o_convm rfl) ?_
        refine l_store rfl (o_storeW (key := 4) (xs := [_, _]) rfl rfl rfl rfl rfl rfl rfl) ?_
        refine l_val rfl (o_assign rfl) ?_
        refine l_nil ?_
        refine kt_norm ?_
        refine v_sel [1, 4, 7, 5] [4] rfl rfl ?_
        refine v_exit ?_
        refine kb_eq ?_
        refine kt_norm ?_
        refine v_seq ?_
        refine v_seq ?_
        refine v_region ?_
        refine l_val rfl (o_move rfl) ?_
        refine l_split rfl (o_lss rfl rfl) (fun q3 => ?_) (fun q3 => ?_)
        · first
          | (exfalso; omega; done)
          | (
              refine l_nil ?_
              refine kt_norm ?_
              refine v_condT rfl ?_
              refine v_seq ?_
              refine v_region ?_
              refine l_val rfl (o_build (vs := []) (cs := [_, _]) rfl rfl) ?_
              refine l_val rfl (o_loadW (key := 4) rfl rfl rfl) ?_
              refine l_ans (vs := [_, _]) rfl rfl (a_SubG _ _ _ _ ?_ ?_ ?_ ?_) ?_
              · omega
              · omega
              · omega
              · omega
              refine l_store rfl (o_storeW (key := 4) (xs := [_, _]) rfl rfl rfl rfl rfl rfl rfl) ?_
              refine l_nil ?_
              refine kt_norm ?_
              refine v_sel [1, 4, 5] [4] rfl rfl ?_
              refine v_seq ?_
              refine v_region ?_
              refine l_val rfl (o_move rfl) ?_
              refine l_split rfl (o_gtr rfl rfl) (fun q4 => ?_) (fun q4 => ?_)
              · first
                | (exfalso; omega; done)
                | (
                    refine l_nil ?_
                    refine kt_norm ?_
                    refine v_condT rfl ?_
                    refine v_drawZ [[4], [], [], [], [], [], [4], []] mixed ?_ (by kernel_rfl) (by kernel_rfl)
                    refine d_val (fun _ => rfl) rfl rfl (fun _ => o_loadW (key := 4) rfl rfl rfl) ?_
                    refine d_ans (vs := [_]) (fun _ => rfl) (fun _ => rfl) (a_Of _ ?_) ?_
                    · omega
                    refine d_ans (vs := [_, _]) (fun _ => rfl) (fun _ => rfl) (a_Sub _ _ ?_ ?_) ?_
                    · omega
                    · omega
                    refine d_val (fun _ => rfl) rfl rfl (fun _ => o_move rfl) ?_
                    refine d_val (fun _ => rfl) rfl rfl (fun _ => o_move rfl) ?_
                    refine d_val (fun _ => rfl) rfl rfl (fun _ => o_subi rfl rfl ?_) ?_
                    · omega
                    refine d_store (fun _ => rfl) rfl rfl (fun _ => o_storeW (key := 4) (xs := [_, _]) rfl rfl rfl rfl rfl rfl rfl) ?_
                    refine d_val (fun _ => rfl) rfl rfl (fun _ => o_assign rfl) ?_
                    refine d_nil (fun σ => ?_)
                    refine l_nil ?_
                    refine kt_norm ?_
                    refine v_sel [4, 5] [4] rfl rfl ?_
                    refine v_seq ?_
                    refine v_region ?_
                    refine l_val rfl (o_loadW (key := 4) rfl rfl rfl) ?_
                    refine l_val rfl (o_move rfl) ?_
                    refine l_store rfl (o_storeW (key := 4) (xs := [_, _]) rfl rfl rfl rfl rfl rfl rfl) ?_
                    refine l_val rfl (o_assign rfl) ?_
                    refine l_val rfl (o_assign rfl) ?_
                    refine l_nil ?_
                    refine kt_norm ?_
                    refine v_ret ?_
                    refine ⟨[_, _, _], .cons (.cellW (key := 4) rfl rfl rfl) (.cons (.tmp rfl) (.cons (.tmp rfl) (ResAll.nil))), ?_⟩
                    first
                      | (obtain ⟨n1, n2⟩ := neg_div1 hb.1 (show x < 0 by omega) hx.1 (by omega); refine tup3 ?_ ?_ ?_ <;> omega)
                      | (obtain ⟨n1, n2⟩ := neg_div0 hb.1 (show x < 0 by omega) hx.1 (by omega); refine tup3 ?_ ?_ ?_ <;> omega)
                      | (have e : x % 18446744073709551616 = x := Int.emod_eq_of_lt (by omega) (by omega)
                         have e3 : x % 18446744073709551616 / b = x / b := by rw [e]
                         have e4 : x % 18446744073709551616 % b = x % b := by rw [e]
                         refine tup3 ?_ ?_ ?_ <;> omega))
              · first
                | (exfalso; omega; done)
                | (
                    refine l_nil ?_
                    refine kt_norm ?_
                    refine v_condF rfl ?_
                    refine v_skip ?_
                    refine kt_norm ?_
                    refine v_seq ?_
                    refine v_region ?_
                    refine l_val rfl (o_loadW (key := 4) rfl rfl rfl) ?_
                    refine l_val rfl (o_move rfl) ?_
                    refine l_store rfl (o_storeW (key := 4) (xs := [_, _]) rfl rfl rfl rfl rfl rfl rfl) ?_
                    refine l_val rfl (o_assign rfl) ?_
                    refine l_val rfl (o_assign rfl) ?_
                    refine l_nil ?_
                    refine kt_norm ?_
                    refine v_ret ?_
                    refine ⟨[_, _, _], .cons (.cellW (key := 4) rfl rfl rfl) (.cons (.tmp rfl) (.cons (.tmp rfl) (ResAll.nil))), ?_⟩
                    first
                      | (obtain ⟨n1, n2⟩ := neg_div1 hb.1 (show x < 0 by omega) hx.1 (by omega); refine tup3 ?_ ?_ ?_ <;> omega)
                      | (obtain ⟨n1, n2⟩ := neg_div0 hb.1 (show x < 0 by omega) hx.1 (by omega); refine tup3 ?_ ?_ ?_ <;> omega)
                      | (have e : x % 18446744073709551616 = x := Int.emod_eq_of_lt (by omega) (by omega)
                         have e3 : x % 18446744073709551616 / b = x / b := by rw [e]
                         have e4 : x % 18446744073709551616 % b = x % b := by rw [e]
                         refine tup3 ?_ ?_ ?_ <;> omega)))
        · first
          | (exfalso; omega; done)
          | (
              refine l_nil ?_
              refine kt_norm ?_
              refine v_condF rfl ?_
              refine v_skip ?_
              refine kt_norm ?_
              refine v_seq ?_
              refine v_region ?_
              refine l_val rfl (o_loadW (key := 4) rfl rfl rfl) ?_
              refine l_val rfl (o_move rfl) ?_
              refine l_store rfl (o_storeW (key := 4) (xs := [_, _]) rfl rfl rfl rfl rfl rfl rfl) ?_
              refine l_val rfl (o_assign rfl) ?_
              refine l_val rfl (o_assign rfl) ?_
              refine l_nil ?_
              refine kt_norm ?_
              refine v_sel [4, 5, 6] [4] rfl rfl ?_
              refine v_ret ?_
              refine ⟨[_, _, _], .cons (.cellW (key := 4) rfl rfl rfl) (.cons (.tmp rfl) (.cons (.tmp rfl) (ResAll.nil))), ?_⟩
              first
                | (obtain ⟨n1, n2⟩ := neg_div1 hb.1 (show x < 0 by omega) hx.1 (by omega); refine tup3 ?_ ?_ ?_ <;> omega)
                | (obtain ⟨n1, n2⟩ := neg_div0 hb.1 (show x < 0 by omega) hx.1 (by omega); refine tup3 ?_ ?_ ?_ <;> omega)
                | (have e : x % 18446744073709551616 = x := Int.emod_eq_of_lt (by omega) (by omega)
                   have e3 : x % 18446744073709551616 / b = x / b := by rw [e]
                   have e4 : x % 18446744073709551616 % b = x % b := by rw [e]
                   refine tup3 ?_ ?_ ?_ <;> omega)))
  · first
    | (exfalso; omega; done)
    | (
        refine l_val rfl (o_assign rfl) ?_
        refine l_nil ?_
        refine kt_norm ?_
        refine v_condF rfl ?_
        refine v_skip ?_
        refine kt_norm ?_
        refine v_exit ?_
        refine kb_ne (by decide) ?_
        refine kt_exit ?_
        refine kb_ne (by decide) ?_
        refine kt_exit ?_
        refine kb_eq ?_
        refine kt_norm ?_
        refine v_seq ?_
        refine v_seq ?_
        refine v_region ?_
        refine l_val rfl (o_fld rfl) ?_
        refine l_val rfl (o_load1 (key := 2) rfl rfl rfl) ?_
        refine l_val rfl (o_convu rfl) ?_
        refine l_val rfl (o_move rfl) ?_
        refine l_val rfl (o_convu rfl) ?_
        refine l_ans (vs := [_, _, _]) rfl rfl (a_Div64z _ _ _ ?_ ?_ ?_) ?_
        · omega
        · omega
        · omega
        refine l_val rfl (o_move rfl) ?_
        refine l_val rfl (o_extract rfl rfl) ?_
        refine l_val rfl (o_extract rfl rfl) ?_
        refine l_val rfl (o_assign rfl) ?_
        refine l_val rfl (o_assign rfl) ?_
        refine l_nil ?_
        refine kt_norm ?_
        refine v_sel [1, 2, 4, 7, 8, 9] [2, 4] rfl rfl ?_
        refine v_seq ?_
        refine v_region ?_
        refine l_val rfl (o_move rfl) ?_
        refine l_val rfl (o_fld rfl) ?_
        refine l_val rfl (o_load1 (key := 2) rfl rfl rfl) ?_
        refine l_val rfl (o_move rfl) ?_
        refine l_val rfl (o_convu rfl) ?_
        refine l_ans (vs := [_, _, _]) rfl rfl (a_Div64e _ _ _ b ?_ ?_ ?_ ?_) ?_
        · omega
        · omega
        · omega
        · omega
        refine l_val rfl (o_move rfl) ?_
        refine l_val rfl (o_extract rfl rfl) ?_
        refine l_val rfl (o_extract rfl rfl) ?_
        refine l_val rfl (o_assign rfl) ?_
        refine l_val rfl (o_assign rfl) ?_
        refine l_nil ?_
        refine kt_norm ?_
        refine v_sel [1, 4, 7, 8, 10, 11] [4] rfl rfl ?_
        refine v_region ?_
        refine l_val rfl (o_move rfl) ?_
        refine l_val rfl (o_convm rfl) ?_
        refine l_val rfl (o_move rfl) ?_
        refine l_val rfl (o_build (vs := [_, _]) (cs := [_, _]) rfl rfl) ?_
        refine l_val rfl (o_move rfl) ?_
        refine l_val rfl (o_convm rfl) ?_
        refine l_store rfl (o_storeW (key := 4) (xs := [_, _]) rfl rfl rfl rfl rfl rfl rfl) ?_
        refine l_val rfl (o_assign rfl) ?_
        refine l_nil ?_
        refine kt_norm ?_
        refine v_sel [1, 4, 7, 5] [4] rfl rfl ?_
        refine v_exit ?_
        refine kb_eq ?_
        refine kt_norm ?_
        refine v_seq ?_
        refine v_seq ?_
        refine v_region ?_
        refine l_val rfl (o_move rfl) ?_
        refine l_split rfl (o_lss rfl rfl) (fun q5 => ?_) (fun q5 => ?_)
        · first
          | (exfalso; omega; done)
          | (
              refine l_nil ?_
              refine kt_norm ?_
              refine v_condT rfl ?_
              refine v_seq ?_
              refine v_region ?_
              refine l_val rfl (o_build (vs := []) (cs := [_, _]) rfl rfl) ?_
              refine l_val rfl (o_loadW (key := 4) rfl rfl rfl) ?_
              refine l_ans (vs := [_, _]) rfl rfl (a_SubG _ _ _ _ ?_ ?_ ?_ ?_) ?_
              · omega
              · omega
              · omega
              · omega
              refine l_store rfl (o_storeW (key := 4) (xs := [_, _]) rfl rfl rfl rfl rfl rfl rfl) ?_
              refine l_nil ?_
              refine kt_norm ?_
              refine v_sel [1, 4, 5] [4] rfl rfl ?_
              refine v_seq ?_
              refine v_region ?_
              refine l_val rfl (o_move rfl) ?_
              refine l_split rfl (o_gtr rfl rfl) (fun q6 => ?_) (fun q6 => ?_)
              · first
                | (exfalso; omega; done)
                | (
                    refine l_nil ?_
                    refine kt_norm ?_
                    refine v_condT rfl ?_
                    refine v_drawZ [[4], [], [], [], [], [], [4], []] mixed ?_ (by kernel_rfl) (by kernel_rfl)
                    refine d_val (fun _ => rfl) rfl rfl (fun _ => o_loadW (key := 4) rfl rfl rfl) ?_
                    refine d_ans (vs := [_]) (fun _ => rfl) (fun _ => rfl) (a_Of _ ?_) ?_
                    · omega
                    refine d_ans (vs := [_, _]) (fun _ => rfl) (fun _ => rfl) (a_Sub _ _ ?_ ?_) ?_
                    · omega
                    · omega
                    refine d_val (fun _ => rfl) rfl rfl (fun _ => o_move rfl) ?_
                    refine d_val (fun _ => rfl) rfl rfl (fun _ => o_move rfl) ?_
                    refine d_val (fun _ => rfl) rfl rfl (fun _ => o_subi rfl rfl ?_) ?_
                    · omega
                    refine d_store (fun _ => rfl) rfl rfl (fun _ => o_storeW (key := 4) (xs := [_, _]) rfl rfl rfl rfl rfl rfl rfl) ?_
                    refine d_val (fun _ => rfl) rfl rfl (fun _ => o_assign rfl) ?_
                    refine d_nil (fun σ => ?_)
                    refine l_nil ?_
                    refine kt_norm ?_
                    refine v_sel [4, 5] [4] rfl rfl ?_
                    refine v_seq ?_
                    refine v_region ?_
                    refine l_val rfl (o_loadW (key := 4) rfl rfl rfl) ?_
                    refine l_val rfl (o_move rfl) ?_
                    refine l_store rfl (o_storeW (key := 4) (xs := [_, _]) rfl rfl rfl rfl rfl rfl rfl) ?_
                    refine l_val rfl (o_assign rfl) ?_
                    refine l_val rfl (o_assign rfl) ?_
                    refine l_nil ?_
                    refine kt_norm ?_
                    refine v_ret ?_
                    refine ⟨[_, _, _], .cons (.cellW (key := 4) rfl rfl rfl) (.cons (.tmp rfl) (.cons (.tmp rfl) (ResAll.nil))), ?_⟩
                    first
                      | (obtain ⟨n1, n2⟩ := neg_div1 hb.1 (show x < 0 by omega) hx.1 (by omega); refine tup3 ?_ ?_ ?_ <;> omega)
                      | (obtain ⟨n1, n2⟩ := neg_div0 hb.1 (show x < 0 by omega) hx.1 (by omega); refine tup3 ?_ ?_ ?_ <;> omega)
                      | (have e : x % 18446744073709551616 = x := Int.emod_eq_of_lt (by omega) (by omega)
                         have e3 : x % 18446744073709551616 / b = x / b := by rw [e]
                         have e4 : x % 18446744073709551616 % b = x % b := by rw [e]
                         refine tup3 ?_ ?_ ?_ <;> omega))
              · first
                | (exfalso; omega; done)
                | (
                    refine l_nil ?_
                    refine kt_norm ?_
                    refine v_condF rfl ?_
                    refine v_skip ?_
                    refine kt_norm ?_
                    refine v_seq ?_
                    refine v_region ?_
                    refine l_val rfl (o_loadW (key := 4) rfl rfl rfl) ?_
                    refine l_val rfl (o_move rfl) ?_
                    refine l_store rfl (o_storeW (key := 4) (xs := [_, _]) rfl rfl rfl rfl rfl rfl rfl) ?_
                    refine l_val rfl (o_assign rfl) ?_
                    refine l_val rfl (o_assign rfl) ?_
                    refine l_nil ?_
                    refine kt_norm ?_
                    refine v_ret ?_
                    refine ⟨[_, _, _], .cons (.cellW (key := 4) rfl rfl rfl) (.cons (.tmp rfl) (.cons (.tmp rfl) (ResAll.nil))), ?_⟩
                    first
                      | (obtain ⟨n1, n2⟩ := neg_div1 hb.1 (show x < 0 by omega) hx.1 (by omega); refine tup3 ?_ ?_ ?_ <;> omega)
                      | (obtain ⟨n1, n2⟩ := neg_div0 hb.1 (show x < 0 by omega) hx.1 (by omega); refine tup3 ?_ ?_ ?_ <;> omega)
                      | (have e : x % 18446744073709551616 = x := Int.emod_eq_of_lt (by omega) (by omega)
                         have e3 : x % 18446744073709551616 / b = x / b := by rw [e]
                         have e4 : x % 18446744073709551616 % b = x % b := by rw [e]
                         refine tup3 ?_ ?_ ?_ <;> omega)))
        · first
          | (exfalso; omega; done)
          | (
              refine l_nil ?_
              refine kt_norm ?_
              refine v_condF rfl ?_
              refine v_skip ?_
              refine kt_norm ?_
              refine v_seq ?_
              refine v_region ?_
              refine l_val rfl (o_loadW (key := 4) rfl rfl rfl) ?_
              refine l_val rfl (o_move rfl) ?_
              refine l_store rfl (o_storeW (key := 4) (xs := [_, _]) rfl rfl rfl rfl rfl rfl rfl) ?_
              refine l_val rfl (o_assign rfl) ?_
              refine l_val rfl (o_assign rfl) ?_
              refine l_nil ?_
              refine kt_norm ?_
              refine v_sel [4, 5, 6] [4] rfl rfl ?_
              refine v_ret ?_
              refine ⟨[_, _, _], .cons (.cellW (key := 4) rfl rfl rfl) (.cons (.tmp rfl) (.cons (.tmp rfl) (ResAll.nil))), ?_⟩
              first
                | (obtain ⟨n1, n2⟩ := neg_div1 hb.1 (show x < 0 by omega) hx.1 (by omega); refine tup3 ?_ ?_ ?_ <;> omega)
                | (obtain ⟨n1, n2⟩ := neg_div0 hb.1 (show x < 0 by omega) hx.1 (by omega); refine tup3 ?_ ?_ ?_ <;> omega)
                | (have e : x % 18446744073709551616 = x := Int.emod_eq_of_lt (by omega) (by omega)
                   have e3 : x % 18446744073709551616 / b = x / b := by rw [e]
                   have e4 : x % 18446744073709551616 % b = x % b := by rw [e]
                   refine tup3 ?_ ?_ ?_ <;> omega)))
end Go.Proofs.Ytaijclimdfchfaa
