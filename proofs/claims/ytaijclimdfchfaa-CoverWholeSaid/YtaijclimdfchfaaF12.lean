import Derived.Test.YtaijclimdfchfaaF11
/- What is measured, and its value, are as the document has them. Conditions: none. -/
namespace Go.Proofs.Ytaijclimdfchfaa
open Go.Proofs Go.RowKit Go.Shelf

set_option maxHeartbeats 1000000 in
theorem a_CoverValues (w : World) (v : Value) (pvs : List Value) (ps : List (List PtT)) (r x k : Int) (hv : PcsW v pvs ps) (hat : PcsAt w v pvs ps) : Calls Try.prog 10 #[v, .int .i64 r, .int .i64 x, .int .i64 k] w fun e w' => e = .returned (.bool true) ∧ Below w.heap.size w w' := by
  have hVp := hv.V
  have hlen := hv.len
  have hrowP : ∀ w', Chg (fun _ => False) w w' → RowAt w' v 1 ps.length pvs := fun w' h => (hat.keep h).row
  refine calls_of (args := [v, .int .i64 r, .int .i64 x, .int .i64 k]) Try.func10 rfl Try.ntmps10 Try.results10 rfl ?_
  refine v_seq ?_
  refine v_region ?_
  refine l_val rfl (o_assign rfl) ?_
  refine l_nil ?_
  refine kt_norm ?_
  refine v_seq ?_
  refine v_seq ?_
  refine v_region ?_
  refine l_val rfl (o_move rfl) ?_
  refine l_call (ks := []) rfl (o_callC (vs := [_]) (r := .bool (decide (Bn21 ps))) (ent_of Try.func23 rfl rfl) rfl (fun w' hg hh => a_bounded21 w' _ pvs ps hv (hat.keep hg))) ?_
  refine lz_bool (fun hbb => ?_) (fun hbb => ?_)
  · have hb := hbb.bnd
    have hvp := hb.pcsV hv
    have h320 := edgesAll_len hb
    have hso := all_spOk hb r
    have hsl : (rowS (crs r (liveT r (edgesAll ps)))).length ≤ (edgesAll ps).length := by have h1 := rowS_len (crs r (liveT r (edgesAll ps))); rw [crs_len] at h1; exact Nat.le_trans h1 (List.length_filter_le _ _)
    refine l_val rfl (o_not rfl rfl) ?_
    refine l_val rfl (o_move rfl) ?_
    refine l_val rfl (o_move rfl) ?_
    refine l_split rfl (o_lss rfl rfl) (fun q1 => ?_) (fun q1 => ?_)
    · skip
      refine l_val rfl (o_pickF rfl rfl) ?_
      refine l_val rfl (o_move rfl) ?_
      refine l_no rfl ?_
      refine l_no rfl ?_
      refine l_val rfl (o_pickT rfl rfl) ?_
      refine l_val rfl (o_move rfl) ?_
      refine l_no rfl ?_
      refine l_no rfl ?_
      refine l_val rfl (o_pickT rfl rfl) ?_
      refine l_val rfl (o_move rfl) ?_
      refine l_no rfl ?_
      refine l_no rfl ?_
      refine l_val rfl (o_pickT rfl rfl) ?_
      refine l_val rfl (o_move rfl) ?_
      refine l_no rfl ?_
      refine l_no rfl ?_
      refine l_val rfl (o_pickT rfl rfl) ?_
      refine l_nil ?_
      refine kt_norm ?_
      refine v_sel [0, 1, 2, 3, 34] [] rfl rfl ?_
      refine v_condT rfl ?_
      refine v_seq ?_
      refine v_region ?_
      refine l_ans (vs := []) rfl rfl (a_shown21) ?_
      refine l_val rfl (o_assign rfl) ?_
      refine l_nil ?_
      refine kt_norm ?_
      refine v_sel [8] [] rfl rfl ?_
      refine v_ret ?_
      refine kt_ret ?_
      refine ⟨[_], .cons (.tmp rfl) (ResAll.nil), ?_⟩
      rfl
    · skip
      refine l_val rfl (o_pickF rfl rfl) ?_
      refine l_val rfl (o_move rfl) ?_
      refine l_val rfl (o_move rfl) ?_
      refine l_split rfl (o_gtr rfl rfl) (fun q2 => ?_) (fun q2 => ?_)
      · skip
        refine l_val rfl (o_pickF rfl rfl) ?_
        refine l_val rfl (o_move rfl) ?_
        refine l_no rfl ?_
        refine l_no rfl ?_
        refine l_val rfl (o_pickT rfl rfl) ?_
        refine l_val rfl (o_move rfl) ?_
        refine l_no rfl ?_
        refine l_no rfl ?_
        refine l_val rfl (o_pickT rfl rfl) ?_
        refine l_val rfl (o_move rfl) ?_
        refine l_no rfl ?_
        refine l_no rfl ?_
        refine l_val rfl (o_pickT rfl rfl) ?_
        refine l_nil ?_
        refine kt_norm ?_
        refine v_sel [0, 1, 2, 3, 34] [] rfl rfl ?_
        refine v_condT rfl ?_
        refine v_seq ?_
        refine v_region ?_
        refine l_ans (vs := []) rfl rfl (a_shown21) ?_
        refine l_val rfl (o_assign rfl) ?_
        refine l_nil ?_
        refine kt_norm ?_
        refine v_sel [8] [] rfl rfl ?_
        refine v_ret ?_
        refine kt_ret ?_
        refine ⟨[_], .cons (.tmp rfl) (ResAll.nil), ?_⟩
        rfl
      · skip
        refine l_val rfl (o_pickF rfl rfl) ?_
        refine l_val rfl (o_move rfl) ?_
        refine l_val rfl (o_move rfl) ?_
        refine l_split rfl (o_lss rfl rfl) (fun q3 => ?_) (fun q3 => ?_)
        · skip
          refine l_val rfl (o_pickF rfl rfl) ?_
          refine l_val rfl (o_move rfl) ?_
          refine l_no rfl ?_
          refine l_no rfl ?_
          refine l_val rfl (o_pickT rfl rfl) ?_
          refine l_val rfl (o_move rfl) ?_
          refine l_no rfl ?_
          refine l_no rfl ?_
          refine l_val rfl (o_pickT rfl rfl) ?_
          refine l_nil ?_
          refine kt_norm ?_
          refine v_sel [0, 1, 2, 3, 34] [] rfl rfl ?_
          refine v_condT rfl ?_
          refine v_seq ?_
          refine v_region ?_
          refine l_ans (vs := []) rfl rfl (a_shown21) ?_
          refine l_val rfl (o_assign rfl) ?_
          refine l_nil ?_
          refine kt_norm ?_
          refine v_sel [8] [] rfl rfl ?_
          refine v_ret ?_
          refine kt_ret ?_
          refine ⟨[_], .cons (.tmp rfl) (ResAll.nil), ?_⟩
          rfl
        · skip
          refine l_val rfl (o_pickF rfl rfl) ?_
          refine l_val rfl (o_move rfl) ?_
          refine l_val rfl (o_move rfl) ?_
          refine l_split rfl (o_gtr rfl rfl) (fun q4 => ?_) (fun q4 => ?_)
          · skip
            refine l_val rfl (o_pickF rfl rfl) ?_
            refine l_val rfl (o_move rfl) ?_
            refine l_no rfl ?_
            refine l_no rfl ?_
            refine l_val rfl (o_pickT rfl rfl) ?_
            refine l_nil ?_
            refine kt_norm ?_
            refine v_sel [0, 1, 2, 3, 34] [] rfl rfl ?_
            refine v_condT rfl ?_
            refine v_seq ?_
            refine v_region ?_
            refine l_ans (vs := []) rfl rfl (a_shown21) ?_
            refine l_val rfl (o_assign rfl) ?_
            refine l_nil ?_
            refine kt_norm ?_
            refine v_sel [8] [] rfl rfl ?_
            refine v_ret ?_
            refine kt_ret ?_
            refine ⟨[_], .cons (.tmp rfl) (ResAll.nil), ?_⟩
            rfl
          · skip
            refine l_val rfl (o_pickF rfl rfl) ?_
            refine l_val rfl (o_move rfl) ?_
            refine l_ans (vs := []) rfl rfl (a_shown21) ?_
            refine l_val rfl (o_not rfl rfl) ?_
            refine l_val rfl (o_pickF rfl rfl) ?_
            refine l_nil ?_
            refine kt_norm ?_
            refine v_sel [0, 1, 2, 3, 34] [] rfl rfl ?_
            refine v_condF rfl ?_
            refine v_skip ?_
            refine kt_norm ?_
            refine v_seq ?_
            refine v_region ?_
            refine l_buildSlice (vs := []) (cs := []) rfl rfl rfl rfl rfl rfl fun v36 hv36 => ?_
            refine l_val rfl (o_assign rfl) ?_
            refine l_nil ?_
            refine kt_norm ?_
            refine v_seq ?_
            refine v_seq ?_
            refine v_region ?_
            refine l_val rfl (o_assign rfl) ?_
            refine l_nil ?_
            refine kt_norm ?_
            refine v_block ?_
            refine v_ren 36 49 [] rfl rfl rfl ?_
            refine v_loopS (α := Nat × Value) (fun ⟨i, v9⟩ => [(10, .int .i64 (i : Int)), (9, v9)]) (fun ⟨i, v9⟩ => [(49, Hp.own v9 90 7 (edgesAll (ps.take i)).length ((edgesAll (ps.take i)).flatMap eE))])  (fun ⟨i, v9⟩ => i ≤ ps.length ∧ RowV v9 (edgesAll (ps.take i)).length) (fun ⟨i, v9⟩ => ps.length - i) (0, v36) [0, 1, 2, 3] [] ⟨Nat.zero_le _, hv36⟩  (And.intro rfl (And.intro rfl (True.intro))) rfl (And.intro rfl (True.intro)) rfl ?_
            rintro ⟨i, v9⟩ ⟨hi, hv9⟩
            refine v_seq ?_
            refine v_seq ?_
            refine v_region ?_
            refine l_val rfl (o_move rfl) ?_
            refine l_val rfl (o_move rfl) ?_
            refine l_val rfl (o_len rfl hVp) ?_
            refine l_split rfl (o_lss rfl rfl) (fun q5 => ?_) (fun q5 => ?_)
            · have hil : i < ps.length := by omega
              obtain ⟨pc, hpc⟩ : ∃ pc, ps.getD i [] = pc := ⟨_, rfl⟩
              have hVq := hvp.pV i hil
              have hnear := hvp.near i hil
              have hbi := (hb.2 i hil).1
              have hrowQ : ∀ w', Chg (fun _ => False) w w' → RowAt w' (pvs.getD i undef) 2 (ps.getD i []).length ((ps.getD i []).flatMap eP) := fun w' h => (hat.keep h).pc i hil
              rw [hpc] at hVq hnear hrowQ hbi
              have hofl := edgesTo_len pc pc.length
              have hofe : (edgesTo pc pc.length).length = (edgesOf pc).length := rfl
              have hall := all_split hil 0
              rw [List.take_zero, List.append_nil] at hall
              have h320 := edgesAll_len hb
              have hsu := all_take_succ hil
              rw [hpc] at hsu
              refine l_nil ?_
              refine kt_norm ?_
              refine v_condT rfl ?_
              refine v_skip ?_
              refine kt_norm ?_
              refine v_seq ?_
              refine v_block ?_
              refine v_region ?_
              refine l_val rfl (o_move rfl) ?_
              refine l_val rfl (o_move rfl) ?_
              refine l_val rfl (o_move rfl) ?_
              refine l_val rfl (o_idx (i) rfl hVp rfl (by first | rfl | omega) (by omega)) ?_
              refine l_val rfl (o_loadR1 rfl (row_imm hrowP) (el_one (by rw [hv.lenv]; exact hil))) ?_
              refine l_gown (ks := []) (caps := #[]) (vs := [_]) rfl rfl (ent_of Try.func32 rfl rfl) rfl (fun w' hg hh => a_OfE w' (pvs.getD i undef) pc (by omega) hVq (hrowQ w' hg) hnear) fun v48 hv48 => ?_
              refine l_append 49 [48] rfl rfl rfl rfl rfl rfl rfl hv48 (row_own (key := 48) rfl) (by omega) fun v49 hv49 => ?_
              refine l_val rfl (o_assign rfl) ?_
              refine l_nil ?_
              refine kb_norm ?_
              refine kt_norm ?_
              refine v_sel [10, 9, 0, 1, 2, 3] [49] rfl rfl ?_
              refine v_region ?_
              refine l_val rfl (o_move rfl) ?_
              refine l_val rfl (o_addi rfl rfl ?_) ?_
              · omega
              refine l_val rfl (o_assign rfl) ?_
              refine l_nil ?_
              refine kt_norm ?_
              refine ⟨(i + 1, v49), ⟨hil, by rw [hsu, List.length_append]; exact hv49⟩, (by show ps.length - (i + 1) < ps.length - i; omega), le_app (And.intro rfl (And.intro rfl (True.intro))) [0, 1, 2, 3] rfl (And.intro (congrArg some (own_congr (by rw [hsu, List.length_append]) (by rw [hsu, List.flatMap_append]))) (True.intro)) [] rfl⟩
            · skip
              refine l_nil ?_
              refine kt_norm ?_
              refine v_condF rfl ?_
              refine v_exit ?_
              refine kt_exit ?_
              refine kt_exit ?_
              refine kb_eq ?_
              refine kt_norm ?_
              refine v_sel [9, 1, 2, 3] [49] rfl rfl ?_
              refine v_seq ?_
              refine v_region ?_
              obtain rfl : i = ps.length := by omega
              rw [List.take_length] at hv9 ⊢
              refine l_val rfl (o_move rfl) ?_
              refine l_val rfl (o_move rfl) ?_
              refine l_gown (ks := [49]) (caps := #[]) (vs := [_, _]) rfl rfl (ent_of Try.func17 rfl rfl) rfl (fun w' hg hh => a_Spans w' v9 (edgesAll ps) r (by omega) hv9 (rowAt_own (hh 49 (by simp) _ rfl)) (all_cross hb r)) fun ys hys => ?_
              refine l_val rfl (o_assign rfl) ?_
              refine l_nil ?_
              refine kt_norm ?_
              refine v_seq ?_
              refine v_region ?_
              skip
              refine l_val rfl (o_move rfl) ?_
              refine l_val rfl (o_move rfl) ?_
              refine l_call (ks := [52]) rfl (o_callC (vs := [_, _]) (r := .int .i64 (sumS (clipT (256 * x) (256 * x + 256) (rowS (crs r (liveT r (edgesAll ps))))))) (ent_of Try.func33 rfl rfl) rfl (fun w' hg hh => a_Measure w' ys (rowS (crs r (liveT r (edgesAll ps)))) x (by omega) (by omega) hso hys (rowAt_own (hh 52 (by simp) _ rfl)))) ?_
              refine l_val rfl (o_move rfl) ?_
              refine l_gown (ks := [52]) (caps := #[]) (vs := [_]) rfl rfl (ent_of Try.func35 rfl rfl) rfl (fun w' hg hh => r_own21 w' ys (rowS (crs r (liveT r (edgesAll ps)))) (by omega) hys (rowAt_own (hh 52 (by simp) _ rfl))) fun yo hyo => ?_
              refine l_val rfl (o_move rfl) ?_
              refine l_call (ks := [57]) rfl (o_callC (vs := [_, _]) (r := .int .i64 (sumS (clipT (256 * x) (256 * x + 256) (rowS (crs r (liveT r (edgesAll ps))))))) (ent_of Try.func34 rfl rfl) rfl (fun w' hg hh => r_Measure w' yo (rowS (crs r (liveT r (edgesAll ps)))) x (by omega) (by omega) hso hyo (rowAt_own (hh 57 (by simp) _ rfl)))) ?_
              refine l_split rfl (o_eql rfl rfl) (fun q6 => ?_) (fun q6 => absurd (show _ by omega) q6)
              refine l_val rfl (o_move rfl) ?_
              refine l_val rfl (o_move rfl) ?_
              refine l_ans (vs := [_]) rfl rfl (a_Value _) ?_
              refine l_val rfl (o_move rfl) ?_
              refine l_ans (vs := [_]) rfl rfl (r_Value _) ?_
              refine l_split rfl (o_eql rfl rfl) (fun q7 => ?_) (fun q7 => absurd (show _ by omega) q7)
              refine l_val rfl (o_pickT rfl rfl) ?_
              refine l_val rfl (o_assign rfl) ?_
              refine l_nil ?_
              refine kt_norm ?_
              refine v_sel [8] [49] rfl rfl ?_
              refine v_ret ?_
              refine ⟨[_], .cons (.tmp rfl) (ResAll.nil), ?_⟩
              rfl
  · skip
    refine l_val rfl (o_not rfl rfl) ?_
    refine l_val rfl (o_move rfl) ?_
    refine l_no rfl ?_
    refine l_no rfl ?_
    refine l_val rfl (o_pickT rfl rfl) ?_
    refine l_val rfl (o_move rfl) ?_
    refine l_no rfl ?_
    refine l_no rfl ?_
    refine l_val rfl (o_pickT rfl rfl) ?_
    refine l_val rfl (o_move rfl) ?_
    refine l_no rfl ?_
    refine l_no rfl ?_
    refine l_val rfl (o_pickT rfl rfl) ?_
    refine l_val rfl (o_move rfl) ?_
    refine l_no rfl ?_
    refine l_no rfl ?_
    refine l_val rfl (o_pickT rfl rfl) ?_
    refine l_val rfl (o_move rfl) ?_
    refine l_no rfl ?_
    refine l_no rfl ?_
    refine l_val rfl (o_pickT rfl rfl) ?_
    refine l_nil ?_
    refine kt_norm ?_
    refine v_sel [0, 1, 2, 3, 34] [] rfl rfl ?_
    refine v_condT rfl ?_
    refine v_seq ?_
    refine v_region ?_
    refine l_ans (vs := []) rfl rfl (a_shown21) ?_
    refine l_val rfl (o_assign rfl) ?_
    refine l_nil ?_
    refine kt_norm ?_
    refine v_sel [8] [] rfl rfl ?_
    refine v_ret ?_
    refine kt_ret ?_
    refine ⟨[_], .cons (.tmp rfl) (ResAll.nil), ?_⟩
    rfl
end Go.Proofs.Ytaijclimdfchfaa
