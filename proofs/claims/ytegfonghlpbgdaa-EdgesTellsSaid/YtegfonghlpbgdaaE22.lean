import Derived.Test.YtegfonghlpbgdaaE21
/- Whether any view may be, the row of any place, the edges of any pieces, and those that are live, are as the document has them. Conditions: none. -/
namespace Go.Proofs.Ytegfonghlpbgdaa
open Go.Proofs Go.RowKit Go.Shelf

set_option maxHeartbeats 2000000 in
theorem a_EdgesTells (w : World) (v : Value) (pvs : List Value) (ps : List (List PtT)) (X Y W H y r : Int) (hv : PcsW v pvs ps) (hat : PcsAt w v pvs ps) : Calls Try.prog 8 #[v, .agg #[.int .i64 X, .int .i64 Y, .int .i64 W, .int .i64 H], .int .i64 y, .int .i64 r] w fun e w' => e = .returned (.bool true) ∧ Below w.heap.size w w' := by
  have hVp := hv.V
  have hlen := hv.len
  have hrowP : ∀ w', Chg (fun _ => False) w w' → RowAt w' v 1 ps.length pvs := fun w' h => (hat.keep h).row
  refine calls_of (args := [v, .agg #[.int .i64 X, .int .i64 Y, .int .i64 W, .int .i64 H], .int .i64 y, .int .i64 r]) Try.func8 rfl Try.ntmps8 Try.results8 rfl ?_
  refine v_seq ?_
  refine v_region ?_
  refine l_new rfl (o_box (cs := [_, _, _, _]) rfl rfl) fun b5 => ?_
  refine l_val rfl (o_assign rfl) ?_
  refine l_nil ?_
  refine kt_norm ?_
  refine v_seq ?_
  refine v_seq ?_
  refine v_drawZ [[5], [], [5], [], [], [], [], [], []] mixed ?_ (by kernel_rfl) (by kernel_rfl)
  refine d_val (fun _ => rfl) rfl rfl (fun _ => o_loadW (key := 5) rfl rfl rfl) ?_
  refine d_ans (vs := [_]) (fun _ => rfl) (fun _ => rfl) (a_Check X Y W H) ?_
  refine d_val (fun _ => rfl) rfl rfl (fun _ => o_loadW (key := 5) rfl rfl rfl) ?_
  refine d_ans (vs := [_]) (fun _ => rfl) (fun _ => rfl) (r_Check X Y W H) ?_
  refine d_neq (fun _ => rfl) (fun _ => rfl) (fun _ => rfl) (fun q1 => absurd q1 (by exact fun h => h rfl)) (fun q1 => ?_)
  refine d_val (fun _ => rfl) rfl rfl (fun _ => o_move rfl) ?_
  refine d_ans (vs := []) (fun _ => rfl) (fun _ => rfl) (a_shown) ?_
  refine d_val (fun _ => rfl) rfl rfl (fun _ => o_not rfl rfl) ?_
  refine d_val (fun _ => rfl) rfl rfl (fun _ => o_pickF rfl rfl) ?_
  refine d_nil (fun σ => ?_)
  refine l_nil ?_
  refine kt_norm ?_
  refine v_sel [0, 2, 3, 5, 19] [5] rfl rfl ?_
  refine v_condF rfl ?_
  refine v_skip ?_
  refine kt_norm ?_
  refine v_seq ?_
  refine v_seq ?_
  refine v_region ?_
  refine l_val rfl (o_move rfl) ?_
  refine l_call (ks := []) rfl (o_callC (vs := [_]) (r := .bool (decide (Bnd ps))) (ent_of Try.func15 rfl rfl) rfl (fun w' hg _ => a_bounded w' _ pvs ps hv (hat.keep hg))) ?_
  refine lz_bool (fun hbb => ?_) (fun hbb => ?_)
  · have hvp := hbb.pcsV hv
    have hb20 := hbb.1
    refine l_val rfl (o_not rfl rfl) ?_
    refine l_val rfl (o_move rfl) ?_
    refine l_val rfl (o_move rfl) ?_
    refine l_split rfl (o_lss rfl rfl) (fun q2 => ?_) (fun q2 => ?_)
    · skip
      refine l_val rfl (o_pickF rfl rfl) ?_
      refine l_val rfl (o_move rfl) ?_
      refine l_no rfl ?_
      refine l_no rfl ?_
      refine l_val rfl (o_pickT rfl rfl) ?_
      refine l_val rfl (o_move rfl) ?_
      refine l_no rfl ?_
      refine l_no rfl ?_
      refine l_no rfl ?_
      refine l_val rfl (o_pickT rfl rfl) ?_
      refine l_nil ?_
      refine kt_norm ?_
      refine v_sel [0, 2, 3, 5, 35] [5] rfl rfl ?_
      refine v_condT rfl ?_
      refine v_seq ?_
      refine v_region ?_
      refine l_val rfl (o_assign rfl) ?_
      refine l_nil ?_
      refine kt_norm ?_
      refine v_ret ?_
      refine kt_ret ?_
      refine ⟨[_], .cons (.tmp rfl) (ResAll.nil), ?_⟩
      rfl
    · skip
      refine l_val rfl (o_pickF rfl rfl) ?_
      refine l_val rfl (o_move rfl) ?_
      refine l_val rfl (o_move rfl) ?_
      refine l_split rfl (o_gtr rfl rfl) (fun q3 => ?_) (fun q3 => ?_)
      · skip
        refine l_val rfl (o_pickF rfl rfl) ?_
        refine l_val rfl (o_move rfl) ?_
        refine l_no rfl ?_
        refine l_no rfl ?_
        refine l_no rfl ?_
        refine l_val rfl (o_pickT rfl rfl) ?_
        refine l_nil ?_
        refine kt_norm ?_
        refine v_sel [0, 2, 3, 5, 35] [5] rfl rfl ?_
        refine v_condT rfl ?_
        refine v_seq ?_
        refine v_region ?_
        refine l_val rfl (o_assign rfl) ?_
        refine l_nil ?_
        refine kt_norm ?_
        refine v_ret ?_
        refine kt_ret ?_
        refine ⟨[_], .cons (.tmp rfl) (ResAll.nil), ?_⟩
        rfl
      · skip
        refine l_val rfl (o_pickF rfl rfl) ?_
        refine l_val rfl (o_move rfl) ?_
        refine l_val rfl (o_move rfl) ?_
        refine l_ans (vs := [_]) rfl rfl (a_row _) ?_
        refine lz_bool (fun q4 => ?_) (fun q4 => ?_)
        · skip
          refine l_val rfl (o_not rfl rfl) ?_
          refine l_val rfl (o_pickF rfl rfl) ?_
          refine l_nil ?_
          refine kt_norm ?_
          refine v_sel [0, 2, 3, 5, 35] [5] rfl rfl ?_
          refine v_condF rfl ?_
          refine v_skip ?_
          refine kt_norm ?_
          refine v_seq ?_
          refine v_seq ?_
          refine v_region ?_
          refine l_val rfl (o_assign rfl) ?_
          refine l_nil ?_
          refine kt_norm ?_
          refine v_block ?_
          refine v_loopS (α := Nat) (fun i => [(9, .int .i64 (i : Int))]) (fun i => [])  (fun i => i ≤ ps.length) (fun i => ps.length - i) 0 [0, 2, 3, 5] [5] (Nat.zero_le _)  (And.intro rfl (True.intro)) rfl (True.intro) rfl ?_
          rintro i hi
          refine v_seq ?_
          refine v_seq ?_
          refine v_region ?_
          refine l_val rfl (o_move rfl) ?_
          refine l_val rfl (o_move rfl) ?_
          refine l_val rfl (o_len rfl hVp) ?_
          refine l_split rfl (o_lss rfl rfl) (fun q5 => ?_) (fun q5 => ?_)
          · have hil : i < ps.length := by omega
            obtain ⟨pc, hpc⟩ : ∃ pc, ps.getD i [] = pc := ⟨_, rfl⟩
            have hVq := hvp.pV i hil
            have hnear := hvp.near i hil
            have hbi := (hbb.2 i hil).1
            have hrowQ : ∀ w', Chg (fun _ => False) w w' → RowAt w' (pvs.getD i undef) 2 (ps.getD i []).length ((ps.getD i []).flatMap eP) := fun w' h => (hat.keep h).pc i hil
            rw [hpc] at hVq hnear hrowQ hbi
            have hofl := edgesTo_len pc pc.length
            have hofe : (edgesTo pc pc.length).length = (edgesOf pc).length := rfl
            refine l_nil ?_
            refine kt_norm ?_
            refine v_condT rfl ?_
            refine v_skip ?_
            refine kt_norm ?_
            refine v_seq ?_
            refine v_block ?_
            refine v_seq ?_
            refine v_drawW [(46, (edgesOf pc).length), (47, (edgesOf pc).length), (52, (edgesOf pc).length)] [[], [], [], [], [], [46], [], [], [], [], [], [47, 52], []] mixed ?_ (by kernel_rfl) (by kernel_rfl)
            refine d_val (fun _ => rfl) rfl rfl (fun σ8 => o_move rfl) ?_
            refine d_val (fun _ => rfl) rfl rfl (fun σ8 => o_move rfl) ?_
            refine d_val (fun _ => rfl) rfl rfl (fun σ8 => o_idx (i) rfl hVp rfl (by first | rfl | omega) (by omega)) ?_
            refine d_val (fun _ => rfl) rfl rfl (fun σ8 => o_loadR1 rfl (row_imm hrowP) (el_one (by rw [hv.lenv]; exact hil))) ?_
            refine d_gown (caps := #[]) (fun _ => rfl) (fun _ => rfl) (ent_of Try.func12 rfl rfl) (vs := fun _ => [_]) (fun _ => rfl) (fun _ h => h) (fun σ8 w' hg hh => a_OfE w' (pvs.getD i undef) pc (by omega) hVq (hrowQ w' hg) hnear) ?_
            refine d_gown (caps := #[]) (fun _ => rfl) (fun _ => rfl) (ent_of Try.func22 rfl rfl) (vs := fun _ => [_]) (fun _ => rfl) (fun _ h => h) (fun σ8 w' hg hh => r_its w' (σ8.v 46) (edgesOf pc) (by omega) (σ8.ok 46) (rowAt_own (hh 46 (by simp) _ rfl))) ?_
            refine d_val (fun _ => rfl) rfl rfl (fun σ8 => o_move rfl) ?_
            refine d_val (fun _ => rfl) rfl rfl (fun σ8 => o_move rfl) ?_
            refine d_val (fun _ => rfl) rfl rfl (fun σ8 => o_idx (i) rfl hVp rfl (by first | rfl | omega) (by omega)) ?_
            refine d_val (fun _ => rfl) rfl rfl (fun σ8 => o_loadR1 rfl (row_imm hrowP) (el_one (by rw [hv.lenv]; exact hil))) ?_
            refine d_gown (caps := #[]) (fun _ => rfl) (fun _ => rfl) (ent_of Try.func23 rfl rfl) (vs := fun _ => [_]) (fun _ => rfl) (fun _ h => h) (fun σ8 w' hg hh => r_OfE w' (pvs.getD i undef) pc (by omega) hVq (hrowQ w' hg) hnear) ?_
            refine d_gcall (y := .bool true) (caps := #[]) (fun _ => rfl) (fun _ => rfl) (ent_of Try.func21 rfl rfl) (vs := fun _ => [_, _]) (fun _ => rfl) (fun σ8 w' hg hh => r_Same w' (σ8.v 47) (σ8.v 52) (edgesOf pc) (by omega) (σ8.ok 47) (σ8.ok 52) (rowAt_own (hh 47 (by simp) _ rfl)) (rowAt_own (hh 52 (by simp) _ rfl))) ?_
            refine d_val (fun _ => rfl) rfl rfl (fun σ8 => o_not rfl rfl) ?_
            refine d_nil (fun σ8 => ?_)
            refine l_nil ?_
            refine kt_norm ?_
            refine v_sel [9, 0, 2, 3, 5, 54] [5] rfl rfl ?_
            refine v_condF rfl ?_
            refine v_skip ?_
            refine kb_norm ?_
            refine kt_norm ?_
            refine v_region ?_
            refine l_val rfl (o_move rfl) ?_
            refine l_val rfl (o_addi rfl rfl ?_) ?_
            · omega
            refine l_val rfl (o_assign rfl) ?_
            refine l_nil ?_
            refine kt_norm ?_
            refine ⟨i + 1, hil, by omega, le_app (And.intro rfl (True.intro)) [0, 2, 3, 5] rfl (True.intro) [5] rfl⟩
          · skip
            refine l_nil ?_
            refine kt_norm ?_
            refine v_condF rfl ?_
            refine v_exit ?_
            refine kt_exit ?_
            refine kt_exit ?_
            refine kb_eq ?_
            refine kt_norm ?_
            refine v_seq ?_
            refine v_region ?_
            have htl := tabT_len (X := X) (Y := Y) (W := W) (H := H) hbb
            have hll : (liveT r (tabT X Y W H ps)).length ≤ 320 := Nat.le_trans (List.length_filter_le _ _) htl
            refine l_val rfl (o_move rfl) ?_
            refine l_val rfl (o_loadW (key := 5) rfl rfl rfl) ?_
            refine l_gown (ks := []) (caps := #[]) (vs := [_, _]) rfl rfl (ent_of Try.func24 rfl rfl) rfl (fun w' hg hh => a_TableT w' _ pvs ps X Y W H hbb hvp (hat.keep hg)) fun tt htt => ?_
            refine l_val rfl (o_assign rfl) ?_
            refine l_nil ?_
            refine kt_norm ?_
            refine v_sel [0, 2, 3, 5, 10] [5, 57] rfl rfl ?_
            refine v_seq ?_
            refine v_drawW [(65, (tabT X Y W H ps).length), (67, ps.length), (69, (tabT X Y W H ps).length), (75, (liveT r (tabT X Y W H ps)).length), (76, (liveT r (tabT X Y W H ps)).length), (78, (tabT X Y W H ps).length), (80, (liveT r (tabT X Y W H ps)).length)] [[], [], [], [], [], [], [], [57], [], [], [5], [67], [65, 69], [], [], [], [], [57], [75], [], [57], [], [78], [76, 80], [], []] mixed ?_ (by kernel_rfl) (by kernel_rfl)
            refine d_val (fun _ => rfl) rfl rfl (fun σ11 => o_move rfl) ?_
            refine d_ans (vs := [_]) (fun _ => rfl) (fun _ => rfl) (a_Row _ ?_) ?_
            · omega
            refine d_val (fun _ => rfl) rfl rfl (fun σ11 => o_move rfl) ?_
            refine d_ans (vs := [_]) (fun _ => rfl) (fun _ => rfl) (r_Row _ ?_) ?_
            · omega
            refine d_eql (fun _ => rfl) (fun _ => rfl) (fun _ => rfl) (fun q6 => ?_) (fun q6 => absurd (show _ by omega) q6)
            refine d_val (fun _ => rfl) rfl rfl (fun σ11 => o_move rfl) ?_
            refine d_val (fun _ => rfl) rfl rfl (fun σ11 => o_move rfl) ?_
            refine d_gown (caps := #[]) (fun _ => rfl) (fun _ => rfl) (ent_of Try.func22 rfl rfl) (vs := fun _ => [_]) (fun _ => rfl) (fun _ h => h) (fun σ11 w' hg hh => r_its w' tt (tabT X Y W H ps) (by omega) htt (rowAt_own (hh 57 (by simp) _ rfl))) ?_
            refine d_val (fun _ => rfl) rfl rfl (fun σ11 => o_move rfl) ?_
            refine d_gown (caps := #[]) (fun _ => rfl) (fun _ => rfl) (ent_of Try.func27 rfl rfl) (vs := fun _ => [_]) (fun _ => rfl) (fun _ h => h) (fun σ11 w' hg hh => r_pieces w' v pvs ps hvp (hat.keep hg)) ?_
            refine d_val (fun _ => rfl) rfl rfl (fun σ11 => o_loadW (key := 5) rfl rfl rfl) ?_
            refine d_gown (caps := #[]) (fun _ => rfl) (fun _ => rfl) (ent_of Try.func26 rfl rfl) (vs := fun _ => [_, _]) (fun _ => rfl) (fun _ h => h) (fun σ11 w' hg hh => r_TableT w' (σ11.v 67) pvs ps X Y W H hbb ⟨σ11.ok 67, hvp.lenv, hvp.len, hvp.pV, hvp.short, hvp.near⟩ ⟨(rowAt_own (hh 67 (by simp) _ rfl)), fun i hi => (hat.keep hg).pc i hi⟩) ?_
            refine d_gcall (y := .bool true) (caps := #[]) (fun _ => rfl) (fun _ => rfl) (ent_of Try.func21 rfl rfl) (vs := fun _ => [_, _]) (fun _ => rfl) (fun σ11 w' hg hh => r_Same w' (σ11.v 65) (σ11.v 69) (tabT X Y W H ps) (by omega) (σ11.ok 65) (σ11.ok 69) (rowAt_own (hh 65 (by simp) _ rfl)) (rowAt_own (hh 69 (by simp) _ rfl))) ?_
            refine d_val (fun _ => rfl) rfl rfl (fun σ11 => o_pickT rfl rfl) ?_
            refine d_val (fun _ => rfl) rfl rfl (fun σ11 => o_move rfl) ?_
            refine d_val (fun _ => rfl) rfl rfl (fun σ11 => o_move rfl) ?_
            refine d_val (fun _ => rfl) rfl rfl (fun σ11 => o_move rfl) ?_
            refine d_gown (caps := #[]) (fun _ => rfl) (fun _ => rfl) (ent_of Try.func17 rfl rfl) (vs := fun _ => [_, _]) (fun _ => rfl) (fun _ h => h) (fun σ11 w' hg hh => a_Live w' tt (tabT X Y W H ps) r (by omega) htt (rowAt_own (hh 57 (by simp) _ rfl))) ?_
            refine d_gown (caps := #[]) (fun _ => rfl) (fun _ => rfl) (ent_of Try.func22 rfl rfl) (vs := fun _ => [_]) (fun _ => rfl) (fun _ h => h) (fun σ11 w' hg hh => r_its w' (σ11.v 75) (liveT r (tabT X Y W H ps)) (by omega) (σ11.ok 75) (rowAt_own (hh 75 (by simp) _ rfl))) ?_
            refine d_val (fun _ => rfl) rfl rfl (fun σ11 => o_move rfl) ?_
            refine d_gown (caps := #[]) (fun _ => rfl) (fun _ => rfl) (ent_of Try.func22 rfl rfl) (vs := fun _ => [_]) (fun _ => rfl) (fun _ h => h) (fun σ11 w' hg hh => r_its w' tt (tabT X Y W H ps) (by omega) htt (rowAt_own (hh 57 (by simp) _ rfl))) ?_
            refine d_val (fun _ => rfl) rfl rfl (fun σ11 => o_move rfl) ?_
            refine d_gown (caps := #[]) (fun _ => rfl) (fun _ => rfl) (ent_of Try.func28 rfl rfl) (vs := fun _ => [_, _]) (fun _ => rfl) (fun _ h => h) (fun σ11 w' hg hh => r_Live w' (σ11.v 78) (tabT X Y W H ps) r (by omega) (σ11.ok 78) (rowAt_own (hh 78 (by simp) _ rfl))) ?_
            refine d_gcall (y := .bool true) (caps := #[]) (fun _ => rfl) (fun _ => rfl) (ent_of Try.func21 rfl rfl) (vs := fun _ => [_, _]) (fun _ => rfl) (fun σ11 w' hg hh => r_Same w' (σ11.v 76) (σ11.v 80) (liveT r (tabT X Y W H ps)) (by omega) (σ11.ok 76) (σ11.ok 80) (rowAt_own (hh 76 (by simp) _ rfl)) (rowAt_own (hh 80 (by simp) _ rfl))) ?_
            refine d_val (fun _ => rfl) rfl rfl (fun σ11 => o_pickT rfl rfl) ?_
            refine d_val (fun _ => rfl) rfl rfl (fun σ11 => o_assign rfl) ?_
            refine d_nil (fun σ11 => ?_)
            refine l_nil ?_
            refine kt_norm ?_
            refine v_sel [8] [] rfl rfl ?_
            refine v_ret ?_
            refine ⟨[_], .cons (.tmp rfl) (ResAll.nil), ?_⟩
            rfl
        · skip
          refine l_val rfl (o_not rfl rfl) ?_
          refine l_val rfl (o_pickF rfl rfl) ?_
          refine l_nil ?_
          refine kt_norm ?_
          refine v_sel [0, 2, 3, 5, 35] [5] rfl rfl ?_
          refine v_condT rfl ?_
          refine v_seq ?_
          refine v_region ?_
          refine l_val rfl (o_assign rfl) ?_
          refine l_nil ?_
          refine kt_norm ?_
          refine v_ret ?_
          refine kt_ret ?_
          refine ⟨[_], .cons (.tmp rfl) (ResAll.nil), ?_⟩
          rfl
  · skip
    refine l_val rfl (o_not rfl rfl) ?_
    refine l_val rfl (o_move rfl) ?_
    refine l_no rfl ?_
    refine l_no rfl ?_
    refine l_val rfl (o_pickT rfl rfl) ?_
    refine l_val rfl (o_move rfl) ?_
    refine l_no rfl ?_
    refine l_no rfl ?_
    refine l_val rfl (o_pickT rfl rfl) ?_
    refine l_val rfl (o_move rfl) ?_
    refine l_no rfl ?_
    refine l_no rfl ?_
    refine l_no rfl ?_
    refine l_val rfl (o_pickT rfl rfl) ?_
    refine l_nil ?_
    refine kt_norm ?_
    refine v_sel [0, 2, 3, 5, 35] [5] rfl rfl ?_
    refine v_condT rfl ?_
    refine v_seq ?_
    refine v_region ?_
    refine l_val rfl (o_assign rfl) ?_
    refine l_nil ?_
    refine kt_norm ?_
    refine v_ret ?_
    refine kt_ret ?_
    refine ⟨[_], .cons (.tmp rfl) (ResAll.nil), ?_⟩
    rfl
end Go.Proofs.Ytegfonghlpbgdaa
