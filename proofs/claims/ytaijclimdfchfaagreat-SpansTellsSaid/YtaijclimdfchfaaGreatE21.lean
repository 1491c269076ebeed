import Derived.Test.YtaijclimdfchfaaGreatE20
/- The edges of a piece, and the table of a view, as the document has them. Conditions: none. -/
namespace Go.Proofs.YtaijclimdfchfaaGreat
open Go.Proofs Go.RowKit Go.Shelf

set_option maxHeartbeats 1000000 in
theorem r_OfE (w : World) (pv : Value) (pc : List PtT) (hs : pc.length ≤ 1000000) (hV : RowV pv pc.length) (hrow : RowAt w pv 2 pc.length (pc.flatMap eP)) (hnear : ∀ p ∈ pc, NearT p) :
    Calls Tryz.prog 70 #[pv] w fun e w' => ∃ y, e = .returned y ∧ Below w.heap.size w w' ∧ OwnAt w.heap.size w' y 79 7 (edgesOf pc).length ((edgesOf pc).flatMap eE) := by
  have hr : ∀ w', Chg (fun _ => False) w w' → RowAt w' pv 2 pc.length (pc.flatMap eP) := fun w' h => hrow.chg h (fun h => h)
  refine calls_own (args := [pv]) Tryz.func70 rfl Tryz.ntmps70 Tryz.results70 rfl ?_
  refine v_seq ?_
  refine v_region ?_
  refine l_val rfl (o_assign rfl) ?_
  refine l_nil ?_
  refine kt_norm ?_
  refine v_seq ?_
  refine v_region ?_
  refine l_buildSlice (vs := []) (cs := []) rfl rfl rfl rfl rfl rfl fun v8 hv8 => ?_
  refine l_val rfl (o_assign rfl) ?_
  refine l_nil ?_
  refine kt_norm ?_
  refine v_seq ?_
  refine v_seq ?_
  refine v_region ?_
  refine l_val rfl (o_assign rfl) ?_
  refine l_nil ?_
  refine kt_norm ?_
  refine v_block ?_
  refine v_ren 8 82 [] rfl rfl rfl ?_
  refine v_loopS (α := Nat × Value) (fun ⟨i, v3⟩ => [(4, .int .i64 (i : Int)), (3, v3)]) (fun ⟨i, v3⟩ => [(82, Hp.own v3 79 7 (edgesTo pc i).length ((edgesTo pc i).flatMap eE))])  (fun ⟨i, v3⟩ => i ≤ pc.length ∧ RowV v3 (edgesTo pc i).length) (fun ⟨i, v3⟩ => pc.length - i) (0, v8) [0] [] ⟨Nat.zero_le _, hv8⟩  (And.intro rfl (And.intro rfl (True.intro))) rfl (And.intro rfl (True.intro)) rfl ?_
  rintro ⟨i, v3⟩ ⟨hi, hv3⟩
  refine v_seq ?_
  refine v_seq ?_
  refine v_region ?_
  refine l_val rfl (o_move rfl) ?_
  refine l_val rfl (o_move rfl) ?_
  refine l_val rfl (o_len rfl hV) ?_
  refine l_split rfl (o_lss rfl rfl) (fun q1 => ?_) (fun q1 => ?_)
  · have hil : i < pc.length := by omega
    have n1 := near_getD hnear hil
    have n2 := near_getD hnear (Nat.mod_lt (i + 1) (show 0 < pc.length by omega))
    unfold NearT at n1 n2
    have r1 := rowOf_def (pc.getD i dP).y
    have r2 := rowOf_def (pc.getD ((i + 1) % pc.length) dP).y
    refine l_nil ?_
    refine kt_norm ?_
    refine v_condT rfl ?_
    refine v_skip ?_
    refine kt_norm ?_
    refine v_seq ?_
    refine v_block ?_
    refine v_seq ?_
    refine v_region ?_
    refine l_val rfl (o_move rfl) ?_
    refine l_val rfl (o_move rfl) ?_
    refine l_val rfl (o_idx (i) rfl hV rfl (by first | rfl | omega) (by omega)) ?_
    refine l_val rfl (o_loadRE (c' := [_, _]) rfl (row_imm hr) (el_flat eP_len dP pc (i) (by omega)) rfl) ?_
    refine l_new rfl o_alloc fun b5 => ?_
    refine l_store rfl (o_storeW (key := 5) (xs := [_, _]) rfl rfl rfl rfl rfl rfl rfl) ?_
    refine l_nil ?_
    refine kt_norm ?_
    refine v_sel [4, 3, 0, 5] [5, 82] rfl rfl ?_
    refine v_seq ?_
    refine v_region ?_
    refine l_val rfl (o_move rfl) ?_
    refine l_val rfl (o_move rfl) ?_
    refine l_val rfl (o_addi rfl rfl ?_) ?_
    · omega
    refine l_val rfl (o_move rfl) ?_
    refine l_val rfl (o_len rfl hV) ?_
    refine l_val rfl (o_remn rfl rfl ?_) ?_
    · omega
    refine l_val rfl (o_idx ((i + 1) % pc.length) rfl hV rfl (by first | rfl | omega) (Nat.mod_lt _ (by omega))) ?_
    refine l_val rfl (o_loadRE (c' := [_, _]) rfl (row_imm hr) (el_flat eP_len dP pc ((i + 1) % pc.length) (Nat.mod_lt _ (by omega))) rfl) ?_
    refine l_new rfl o_alloc fun b6 => ?_
    refine l_store rfl (o_storeW (key := 6) (xs := [_, _]) rfl rfl rfl rfl rfl rfl rfl) ?_
    refine l_nil ?_
    refine kt_norm ?_
    refine v_sel [4, 3, 0, 5, 6] [5, 6, 82] rfl rfl ?_
    refine v_seq ?_
    refine v_region ?_
    refine l_val rfl (o_assign rfl) ?_
    refine l_nil ?_
    refine kt_norm ?_
    refine v_seq ?_
    refine v_seq ?_
    refine v_region ?_
    refine l_val rfl (o_fld rfl) ?_
    refine l_val rfl (o_load1 (key := 5) rfl rfl rfl) ?_
    refine l_val rfl (o_fld rfl) ?_
    refine l_val rfl (o_load1 (key := 6) rfl rfl rfl) ?_
    refine l_split rfl (o_gtr rfl rfl) (fun h84 => ?_) (fun h84 => ?_)
    · skip
      refine l_nil ?_
      refine kt_norm ?_
      refine v_condT rfl ?_
      refine v_seq ?_
      refine v_region ?_
      refine l_val rfl (o_move rfl) ?_
      refine l_val rfl (o_move rfl) ?_
      refine l_val rfl (o_addi rfl rfl ?_) ?_
      · omega
      refine l_val rfl (o_move rfl) ?_
      refine l_val rfl (o_len rfl hV) ?_
      refine l_val rfl (o_remn rfl rfl ?_) ?_
      · omega
      refine l_val rfl (o_idx ((i + 1) % pc.length) rfl hV rfl (by first | rfl | omega) (Nat.mod_lt _ (by omega))) ?_
      refine l_val rfl (o_loadRE (c' := [_, _]) rfl (row_imm hr) (el_flat eP_len dP pc ((i + 1) % pc.length) (Nat.mod_lt _ (by omega))) rfl) ?_
      refine l_store rfl (o_storeW (key := 5) (xs := [_, _]) rfl rfl rfl rfl rfl rfl rfl) ?_
      refine l_nil ?_
      refine kt_norm ?_
      refine v_sel [4, 3, 0, 5, 6] [5, 6, 82] rfl rfl ?_
      refine v_seq ?_
      refine v_region ?_
      refine l_val rfl (o_move rfl) ?_
      refine l_val rfl (o_move rfl) ?_
      refine l_val rfl (o_idx (i) rfl hV rfl (by first | rfl | omega) (by omega)) ?_
      refine l_val rfl (o_loadRE (c' := [_, _]) rfl (row_imm hr) (el_flat eP_len dP pc (i) (by omega)) rfl) ?_
      refine l_store rfl (o_storeW (key := 6) (xs := [_, _]) rfl rfl rfl rfl rfl rfl rfl) ?_
      refine l_nil ?_
      refine kt_norm ?_
      refine v_region ?_
      refine l_val rfl (o_assign rfl) ?_
      refine l_nil ?_
      refine kt_norm ?_
      refine v_seq ?_
      refine v_drawZ [[], [5], [], [6], [], [], [], [5], [], [], [6], [], [], []] mixed ?_ (by kernel_rfl) (by kernel_rfl)
      refine d_val (fun _ => rfl) rfl rfl (fun _ => o_fld rfl) ?_
      refine d_val (fun _ => rfl) rfl rfl (fun _ => o_load1 (key := 5) rfl rfl rfl) ?_
      refine d_val (fun _ => rfl) rfl rfl (fun _ => o_fld rfl) ?_
      refine d_val (fun _ => rfl) rfl rfl (fun _ => o_load1 (key := 6) rfl rfl rfl) ?_
      refine d_neq (fun _ => rfl) (fun _ => rfl) (fun _ => rfl) (fun q2 => ?_) (fun q2 => ?_)
      · skip
        refine d_val (fun _ => rfl) rfl rfl (fun _ => o_move rfl) ?_
        refine d_val (fun _ => rfl) rfl rfl (fun _ => o_fld rfl) ?_
        refine d_val (fun _ => rfl) rfl rfl (fun _ => o_load1 (key := 5) rfl rfl rfl) ?_
        refine d_ans (vs := [_]) (fun _ => rfl) (fun _ => rfl) (r_Row _ ?_) ?_
        · omega
        refine d_val (fun _ => rfl) rfl rfl (fun _ => o_fld rfl) ?_
        refine d_val (fun _ => rfl) rfl rfl (fun _ => o_load1 (key := 6) rfl rfl rfl) ?_
        refine d_ans (vs := [_]) (fun _ => rfl) (fun _ => rfl) (r_Row _ ?_) ?_
        · omega
        refine d_neq (fun _ => rfl) (fun _ => rfl) (fun _ => rfl) (fun q3 => ?_) (fun q3 => ?_)
        · skip
          refine d_val (fun _ => rfl) rfl rfl (fun _ => o_pickT rfl rfl) ?_
          refine d_nil (fun σ => ?_)
          refine l_nil ?_
          refine kt_norm ?_
          refine v_sel [4, 3, 0, 5, 6, 7, 50, 51, 52, 53, 54, 55, 56, 57] [5, 6, 82] rfl rfl ?_
          refine v_condT rfl ?_
          refine v_drawZ [[], [], [5], [], [5], [], [6], [], [5], [], [], [6], [], [5], [], [], [], [5], [], [], [6], [], [], []] mixed ?_ (by kernel_rfl) (by kernel_rfl)
          refine d_val (fun _ => rfl) rfl rfl (fun _ => o_move rfl) ?_
          refine d_val (fun _ => rfl) rfl rfl (fun _ => o_fld rfl) ?_
          refine d_val (fun _ => rfl) rfl rfl (fun _ => o_load1 (key := 5) rfl rfl rfl) ?_
          refine d_val (fun _ => rfl) rfl rfl (fun _ => o_fld rfl) ?_
          refine d_val (fun _ => rfl) rfl rfl (fun _ => o_load1 (key := 5) rfl rfl rfl) ?_
          refine d_val (fun _ => rfl) rfl rfl (fun _ => o_fld rfl) ?_
          refine d_val (fun _ => rfl) rfl rfl (fun _ => o_load1 (key := 6) rfl rfl rfl) ?_
          refine d_val (fun _ => rfl) rfl rfl (fun _ => o_fld rfl) ?_
          refine d_val (fun _ => rfl) rfl rfl (fun _ => o_load1 (key := 5) rfl rfl rfl) ?_
          refine d_val (fun _ => rfl) rfl rfl (fun _ => o_subi rfl rfl ?_) ?_
          · omega
          refine d_val (fun _ => rfl) rfl rfl (fun _ => o_fld rfl) ?_
          refine d_val (fun _ => rfl) rfl rfl (fun _ => o_load1 (key := 6) rfl rfl rfl) ?_
          refine d_val (fun _ => rfl) rfl rfl (fun _ => o_fld rfl) ?_
          refine d_val (fun _ => rfl) rfl rfl (fun _ => o_load1 (key := 5) rfl rfl rfl) ?_
          refine d_val (fun _ => rfl) rfl rfl (fun _ => o_subi rfl rfl ?_) ?_
          · omega
          refine d_val (fun _ => rfl) rfl rfl (fun _ => o_move rfl) ?_
          refine d_val (fun _ => rfl) rfl rfl (fun _ => o_fld rfl) ?_
          refine d_val (fun _ => rfl) rfl rfl (fun _ => o_load1 (key := 5) rfl rfl rfl) ?_
          refine d_ans (vs := [_]) (fun _ => rfl) (fun _ => rfl) (r_Row _ ?_) ?_
          · omega
          refine d_val (fun _ => rfl) rfl rfl (fun _ => o_fld rfl) ?_
          refine d_val (fun _ => rfl) rfl rfl (fun _ => o_load1 (key := 6) rfl rfl rfl) ?_
          refine d_ans (vs := [_]) (fun _ => rfl) (fun _ => rfl) (r_Row _ ?_) ?_
          · omega
          refine d_val (fun _ => rfl) rfl rfl (fun _ => o_build (vs := [_, _, _, _, _, _, _]) (cs := [_, _, _, _, _, _, _]) rfl rfl) ?_
          refine d_newS (fun _ => rfl) rfl rfl (fun _ => o_bs (vs := [_]) (cs := [_, _, _, _, _, _, _]) rfl rfl rfl rfl) ?_
          refine d_nil (fun σ => ?_)
          refine l_toOwn 81 [5, 6, 82] (n := 1) 7 rfl rfl rfl rfl rfl rfl ?_
          refine l_append 82 [5, 6, 81] rfl rfl rfl rfl rfl rfl rfl (.inl ⟨_, _, _, rfl⟩) (row_own (key := 81) rfl) (by have := edgesTo_len pc i; omega) fun v82 hv82 => ?_
          refine l_val rfl (o_assign rfl) ?_
          refine l_nil ?_
          refine kb_norm ?_
          refine kt_norm ?_
          refine v_sel [4, 3, 0, 50, 51, 52, 53, 54, 55, 56] [5, 6, 82] rfl rfl ?_
          refine v_region ?_
          have hgo : (edgeOf (pc.getD i dP) (pc.getD ((i + 1) % pc.length) dP)).fr < (edgeOf (pc.getD i dP) (pc.getD ((i + 1) % pc.length) dP)).to := by rw [edgeOf_lt h84]; dsimp only; omega
          refine l_val rfl (o_move rfl) ?_
          refine l_val rfl (o_addi rfl rfl ?_) ?_
          · omega
          refine l_val rfl (o_assign rfl) ?_
          refine l_nil ?_
          refine kt_norm ?_
          refine ⟨(i + 1, v82), ⟨hil, by rw [edgesTo_succ, edgesAt_yes hgo, List.length_append]; exact hv82⟩, (by show pc.length - (i + 1) < pc.length - i; omega), le_app (And.intro rfl (And.intro rfl (True.intro))) [0] rfl (And.intro (congrArg some (own_congr (by rw [edgesTo_succ, edgesAt_yes hgo, List.length_append]; rfl) (by rw [edgesTo_succ, edgesAt_yes hgo, List.flatMap_append, edgeOf_lt h84]; simp [eE]))) (True.intro)) [] rfl⟩
        · skip
          refine d_val (fun _ => rfl) rfl rfl (fun _ => o_pickT rfl rfl) ?_
          refine d_nil (fun σ => ?_)
          refine l_nil ?_
          refine kt_norm ?_
          refine v_sel [4, 3, 0, 5, 6, 7, 50, 51, 52, 53, 54, 55, 56, 57] [5, 6, 82] rfl rfl ?_
          refine v_condF rfl ?_
          refine v_skip ?_
          refine kb_norm ?_
          refine kt_norm ?_
          refine v_region ?_
          have hno : ¬ (edgeOf (pc.getD i dP) (pc.getD ((i + 1) % pc.length) dP)).fr < (edgeOf (pc.getD i dP) (pc.getD ((i + 1) % pc.length) dP)).to := by rw [edgeOf_lt h84]; dsimp only; omega
          refine l_val rfl (o_move rfl) ?_
          refine l_val rfl (o_addi rfl rfl ?_) ?_
          · omega
          refine l_val rfl (o_assign rfl) ?_
          refine l_nil ?_
          refine kt_norm ?_
          refine ⟨(i + 1, v3), ⟨hil, by rw [edgesTo_succ, edgesAt_no hno, List.append_nil]; exact hv3⟩, (by show pc.length - (i + 1) < pc.length - i; omega), le_app (And.intro rfl (And.intro rfl (True.intro))) [0] rfl (And.intro (congrArg some (own_congr (by rw [edgesTo_succ, edgesAt_no hno, List.append_nil]) (by rw [edgesTo_succ, edgesAt_no hno, List.append_nil]))) (True.intro)) [] rfl⟩
      · skip
        refine d_val (fun _ => rfl) rfl rfl (fun _ => o_move rfl) ?_
        refine d_no (fun _ => rfl) ?_
        refine d_no (fun _ => rfl) ?_
        refine d_no (fun _ => rfl) ?_
        refine d_no (fun _ => rfl) ?_
        refine d_no (fun _ => rfl) ?_
        refine d_no (fun _ => rfl) ?_
        refine d_no (fun _ => rfl) ?_
        refine d_val (fun _ => rfl) rfl rfl (fun _ => o_pickF rfl rfl) ?_
        refine d_nil (fun σ => ?_)
        refine l_nil ?_
        refine kt_norm ?_
        refine v_sel [4, 3, 0, 5, 6, 7, 50, 51, 52, 53, 54, 55, 56, 57] [5, 6, 82] rfl rfl ?_
        refine v_condF rfl ?_
        refine v_skip ?_
        refine kb_norm ?_
        refine kt_norm ?_
        refine v_region ?_
        have hno : ¬ (edgeOf (pc.getD i dP) (pc.getD ((i + 1) % pc.length) dP)).fr < (edgeOf (pc.getD i dP) (pc.getD ((i + 1) % pc.length) dP)).to := by rw [edgeOf_lt h84]; dsimp only; omega
        refine l_val rfl (o_move rfl) ?_
        refine l_val rfl (o_addi rfl rfl ?_) ?_
        · omega
        refine l_val rfl (o_assign rfl) ?_
        refine l_nil ?_
        refine kt_norm ?_
        refine ⟨(i + 1, v3), ⟨hil, by rw [edgesTo_succ, edgesAt_no hno, List.append_nil]; exact hv3⟩, (by show pc.length - (i + 1) < pc.length - i; omega), le_app (And.intro rfl (And.intro rfl (True.intro))) [0] rfl (And.intro (congrArg some (own_congr (by rw [edgesTo_succ, edgesAt_no hno, List.append_nil]) (by rw [edgesTo_succ, edgesAt_no hno, List.append_nil]))) (True.intro)) [] rfl⟩
    · skip
      refine l_nil ?_
      refine kt_norm ?_
      refine v_condF rfl ?_
      refine v_skip ?_
      refine kt_norm ?_
      refine v_seq ?_
      refine v_drawZ [[], [5], [], [6], [], [], [], [5], [], [], [6], [], [], []] mixed ?_ (by kernel_rfl) (by kernel_rfl)
      refine d_val (fun _ => rfl) rfl rfl (fun _ => o_fld rfl) ?_
      refine d_val (fun _ => rfl) rfl rfl (fun _ => o_load1 (key := 5) rfl rfl rfl) ?_
      refine d_val (fun _ => rfl) rfl rfl (fun _ => o_fld rfl) ?_
      refine d_val (fun _ => rfl) rfl rfl (fun _ => o_load1 (key := 6) rfl rfl rfl) ?_
      refine d_neq (fun _ => rfl) (fun _ => rfl) (fun _ => rfl) (fun q4 => ?_) (fun q4 => ?_)
      · skip
        refine d_val (fun _ => rfl) rfl rfl (fun _ => o_move rfl) ?_
        refine d_val (fun _ => rfl) rfl rfl (fun _ => o_fld rfl) ?_
        refine d_val (fun _ => rfl) rfl rfl (fun _ => o_load1 (key := 5) rfl rfl rfl) ?_
        refine d_ans (vs := [_]) (fun _ => rfl) (fun _ => rfl) (r_Row _ ?_) ?_
        · omega
        refine d_val (fun _ => rfl) rfl rfl (fun _ => o_fld rfl) ?_
        refine d_val (fun _ => rfl) rfl rfl (fun _ => o_load1 (key := 6) rfl rfl rfl) ?_
        refine d_ans (vs := [_]) (fun _ => rfl) (fun _ => rfl) (r_Row _ ?_) ?_
        · omega
        refine d_neq (fun _ => rfl) (fun _ => rfl) (fun _ => rfl) (fun q5 => ?_) (fun q5 => ?_)
        · skip
          refine d_val (fun _ => rfl) rfl rfl (fun _ => o_pickT rfl rfl) ?_
          refine d_nil (fun σ => ?_)
          refine l_nil ?_
          refine kt_norm ?_
          refine v_sel [4, 3, 0, 5, 6, 7, 50, 51, 52, 53, 54, 55, 56, 57] [5, 6, 82] rfl rfl ?_
          refine v_condT rfl ?_
          refine v_drawZ [[], [], [5], [], [5], [], [6], [], [5], [], [], [6], [], [5], [], [], [], [5], [], [], [6], [], [], []] mixed ?_ (by kernel_rfl) (by kernel_rfl)
          refine d_val (fun _ => rfl) rfl rfl (fun _ => o_move rfl) ?_
          refine d_val (fun _ => rfl) rfl rfl (fun _ => o_fld rfl) ?_
          refine d_val (fun _ => rfl) rfl rfl (fun _ => o_load1 (key := 5) rfl rfl rfl) ?_
          refine d_val (fun _ => rfl) rfl rfl (fun _ => o_fld rfl) ?_
          refine d_val (fun _ => rfl) rfl rfl (fun _ => o_load1 (key := 5) rfl rfl rfl) ?_
          refine d_val (fun _ => rfl) rfl rfl (fun _ => o_fld rfl) ?_
          refine d_val (fun _ => rfl) rfl rfl (fun _ => o_load1 (key := 6) rfl rfl rfl) ?_
          refine d_val (fun _ => rfl) rfl rfl (fun _ => o_fld rfl) ?_
          refine d_val (fun _ => rfl) rfl rfl (fun _ => o_load1 (key := 5) rfl rfl rfl) ?_
          refine d_val (fun _ => rfl) rfl rfl (fun _ => o_subi rfl rfl ?_) ?_
          · omega
          refine d_val (fun _ => rfl) rfl rfl (fun _ => o_fld rfl) ?_
          refine d_val (fun _ => rfl) rfl rfl (fun _ => o_load1 (key := 6) rfl rfl rfl) ?_
          refine d_val (fun _ => rfl) rfl rfl (fun _ => o_fld rfl) ?_
          refine d_val (fun _ => rfl) rfl rfl (fun _ => o_load1 (key := 5) rfl rfl rfl) ?_
          refine d_val (fun _ => rfl) rfl rfl (fun _ => o_subi rfl rfl ?_) ?_
          · omega
          refine d_val (fun _ => rfl) rfl rfl (fun _ => o_move rfl) ?_
          refine d_val (fun _ => rfl) rfl rfl (fun _ => o_fld rfl) ?_
          refine d_val (fun _ => rfl) rfl rfl (fun _ => o_load1 (key := 5) rfl rfl rfl) ?_
          refine d_ans (vs := [_]) (fun _ => rfl) (fun _ => rfl) (r_Row _ ?_) ?_
          · omega
          refine d_val (fun _ => rfl) rfl rfl (fun _ => o_fld rfl) ?_
          refine d_val (fun _ => rfl) rfl rfl (fun _ => o_load1 (key := 6) rfl rfl rfl) ?_
          refine d_ans (vs := [_]) (fun _ => rfl) (fun _ => rfl) (r_Row _ ?_) ?_
          · omega
          refine d_val (fun _ => rfl) rfl rfl (fun _ => o_build (vs := [_, _, _, _, _, _, _]) (cs := [_, _, _, _, _, _, _]) rfl rfl) ?_
          refine d_newS (fun _ => rfl) rfl rfl (fun _ => o_bs (vs := [_]) (cs := [_, _, _, _, _, _, _]) rfl rfl rfl rfl) ?_
          refine d_nil (fun σ => ?_)
          refine l_toOwn 81 [5, 6, 82] (n := 1) 7 rfl rfl rfl rfl rfl rfl ?_
          refine l_append 82 [5, 6, 81] rfl rfl rfl rfl rfl rfl rfl (.inl ⟨_, _, _, rfl⟩) (row_own (key := 81) rfl) (by have := edgesTo_len pc i; omega) fun v82 hv82 => ?_
          refine l_val rfl (o_assign rfl) ?_
          refine l_nil ?_
          refine kb_norm ?_
          refine kt_norm ?_
          refine v_sel [4, 3, 0, 50, 51, 52, 53, 54, 55, 56] [5, 6, 82] rfl rfl ?_
          refine v_region ?_
          have hgo : (edgeOf (pc.getD i dP) (pc.getD ((i + 1) % pc.length) dP)).fr < (edgeOf (pc.getD i dP) (pc.getD ((i + 1) % pc.length) dP)).to := by rw [edgeOf_ge h84]; dsimp only; omega
          refine l_val rfl (o_move rfl) ?_
          refine l_val rfl (o_addi rfl rfl ?_) ?_
          · omega
          refine l_val rfl (o_assign rfl) ?_
          refine l_nil ?_
          refine kt_norm ?_
          refine ⟨(i + 1, v82), ⟨hil, by rw [edgesTo_succ, edgesAt_yes hgo, List.length_append]; exact hv82⟩, (by show pc.length - (i + 1) < pc.length - i; omega), le_app (And.intro rfl (And.intro rfl (True.intro))) [0] rfl (And.intro (congrArg some (own_congr (by rw [edgesTo_succ, edgesAt_yes hgo, List.length_append]; rfl) (by rw [edgesTo_succ, edgesAt_yes hgo, List.flatMap_append, edgeOf_ge h84]; simp [eE]))) (True.intro)) [] rfl⟩
        · skip
          refine d_val (fun _ => rfl) rfl rfl (fun _ => o_pickT rfl rfl) ?_
          refine d_nil (fun σ => ?_)
          refine l_nil ?_
          refine kt_norm ?_
          refine v_sel [4, 3, 0, 5, 6, 7, 50, 51, 52, 53, 54, 55, 56, 57] [5, 6, 82] rfl rfl ?_
          refine v_condF rfl ?_
          refine v_skip ?_
          refine kb_norm ?_
          refine kt_norm ?_
          refine v_region ?_
          have hno : ¬ (edgeOf (pc.getD i dP) (pc.getD ((i + 1) % pc.length) dP)).fr < (edgeOf (pc.getD i dP) (pc.getD ((i + 1) % pc.length) dP)).to := by rw [edgeOf_ge h84]; dsimp only; omega
          refine l_val rfl (o_move rfl) ?_
          refine l_val rfl (o_addi rfl rfl ?_) ?_
          · omega
          refine l_val rfl (o_assign rfl) ?_
          refine l_nil ?_
          refine kt_norm ?_
          refine ⟨(i + 1, v3), ⟨hil, by rw [edgesTo_succ, edgesAt_no hno, List.append_nil]; exact hv3⟩, (by show pc.length - (i + 1) < pc.length - i; omega), le_app (And.intro rfl (And.intro rfl (True.intro))) [0] rfl (And.intro (congrArg some (own_congr (by rw [edgesTo_succ, edgesAt_no hno, List.append_nil]) (by rw [edgesTo_succ, edgesAt_no hno, List.append_nil]))) (True.intro)) [] rfl⟩
      · skip
        refine d_val (fun _ => rfl) rfl rfl (fun _ => o_move rfl) ?_
        refine d_no (fun _ => rfl) ?_
        refine d_no (fun _ => rfl) ?_
        refine d_no (fun _ => rfl) ?_
        refine d_no (fun _ => rfl) ?_
        refine d_no (fun _ => rfl) ?_
        refine d_no (fun _ => rfl) ?_
        refine d_no (fun _ => rfl) ?_
        refine d_val (fun _ => rfl) rfl rfl (fun _ => o_pickF rfl rfl) ?_
        refine d_nil (fun σ => ?_)
        refine l_nil ?_
        refine kt_norm ?_
        refine v_sel [4, 3, 0, 5, 6, 7, 50, 51, 52, 53, 54, 55, 56, 57] [5, 6, 82] rfl rfl ?_
        refine v_condF rfl ?_
        refine v_skip ?_
        refine kb_norm ?_
        refine kt_norm ?_
        refine v_region ?_
        have hno : ¬ (edgeOf (pc.getD i dP) (pc.getD ((i + 1) % pc.length) dP)).fr < (edgeOf (pc.getD i dP) (pc.getD ((i + 1) % pc.length) dP)).to := by rw [edgeOf_ge h84]; dsimp only; omega
        refine l_val rfl (o_move rfl) ?_
        refine l_val rfl (o_addi rfl rfl ?_) ?_
        · omega
        refine l_val rfl (o_assign rfl) ?_
        refine l_nil ?_
        refine kt_norm ?_
        refine ⟨(i + 1, v3), ⟨hil, by rw [edgesTo_succ, edgesAt_no hno, List.append_nil]; exact hv3⟩, (by show pc.length - (i + 1) < pc.length - i; omega), le_app (And.intro rfl (And.intro rfl (True.intro))) [0] rfl (And.intro (congrArg some (own_congr (by rw [edgesTo_succ, edgesAt_no hno, List.append_nil]) (by rw [edgesTo_succ, edgesAt_no hno, List.append_nil]))) (True.intro)) [] rfl⟩
  · skip
    refine l_nil ?_
    refine kt_norm ?_
    refine v_condF rfl ?_
    refine v_exit ?_
    refine kt_exit ?_
    refine kt_exit ?_
    refine kb_eq ?_
    refine kt_norm ?_
    refine v_sel [3] [82] rfl rfl ?_
    refine v_seq ?_
    refine v_region ?_
    obtain rfl : i = pc.length := by omega
    refine l_val rfl (o_move rfl) ?_
    refine l_val rfl (o_assign rfl) ?_
    refine l_nil ?_
    refine kt_norm ?_
    refine v_ret ?_
    refine ⟨[_], .cons (.tmp rfl) (ResAll.nil), ?_⟩
    exact ⟨82, rfl⟩
def tabT (X Y W H : Int) (ps : List (List PtT)) : List EdgeT := if ViewOk X Y W H then stSort (viewEs (16 * Y) (16 * (Y + H)) (edgesAll ps)) else []
theorem tabT_len {X Y W H : Int} {ps : List (List PtT)} (hb : Bnd ps) : (tabT X Y W H ps).length ≤ 320 := by
  unfold tabT
  split
  · rw [stSort_len]; exact Nat.le_trans (viewEs_len _ _ _) (edgesAll_len hb)
  · exact Nat.zero_le _
theorem a_TableT (w : World) (v : Value) (pvs : List Value) (ps : List (List PtT)) (X Y W H : Int) (hb : Bnd ps) (hv : PcsV v pvs ps) (hat : PcsAt w v pvs ps) :
    Calls Tryz.prog 31 #[v, .agg #[.int .i64 X, .int .i64 Y, .int .i64 W, .int .i64 H]] w fun e w' => ∃ y, e = .returned y ∧ Below w.heap.size w w' ∧ OwnAt w.heap.size w' y 84 7 (tabT X Y W H ps).length ((tabT X Y W H ps).flatMap eE) := by
  unfold tabT
  by_cases hvw : ViewOk X Y W H
  · rw [if_pos hvw]
    obtain ⟨a0, c0, rfl⟩ := hv.V.sl
    refine (a_Table w a0 ps.length c0 pvs ps X Y W H hb hv hat hvw).mono ?_
    rintro e w' ⟨y, es, rfl, hS, h1, h2⟩
    have := srtQ_stSort hS
    subst this
    exact ⟨y, rfl, h1, by rw [stSort_len]; exact h2⟩
  · rw [if_neg hvw]
    exact a_TableN w v X Y W H hvw
/-- what the document's loop holds: of the first edges -/
def docT (X Y W H : Int) (es : List EdgeT) : List EdgeT := stSort (viewEs (16 * Y) (16 * (Y + H)) es)
theorem docT_yes {X Y W H : Int} {es : List EdgeT} {e : EdgeT} (h : (cutE (16 * Y) (16 * (Y + H)) e).fr < (cutE (16 * Y) (16 * (Y + H)) e).to) : docT X Y W H (es ++ [e]) = insS (cutE (16 * Y) (16 * (Y + H)) e) (docT X Y W H es) := by
  unfold docT; rw [viewEs_snoc, if_pos h, stSort_snoc]
theorem docT_no {X Y W H : Int} {es : List EdgeT} {e : EdgeT} (h : ¬ (cutE (16 * Y) (16 * (Y + H)) e).fr < (cutE (16 * Y) (16 * (Y + H)) e).to) : docT X Y W H (es ++ [e]) = docT X Y W H es := by
  unfold docT; rw [viewEs_snoc, if_neg h, List.append_nil]
theorem docT_len {X Y W H : Int} {es : List EdgeT} : (docT X Y W H es).length ≤ es.length := by
  unfold docT; rw [stSort_len]; exact viewEs_len _ _ _
theorem all_split {ps : List (List PtT)} {i : Nat} (hi : i < ps.length) (k : Nat) : (edgesAll (ps.take i) ++ (edgesOf (ps.getD i [])).take k).length ≤ (edgesAll ps).length := by
  have h1 : edgesAll ps = edgesAll (ps.take (i + 1)) ++ edgesAll (ps.drop (i + 1)) := by
    unfold edgesAll; rw [← List.flatMap_append, List.take_append_drop]
  rw [h1, all_take_succ hi]
  simp only [List.length_append, List.length_take]
  omega
set_option maxHeartbeats 2000000 in
theorem r_TableY (w : World) (v : Value) (pvs : List Value) (ps : List (List PtT)) (X Y W H : Int) (hb : Bnd ps) (hv : PcsV v pvs ps) (hat : PcsAt w v pvs ps) (hvw : ViewOk X Y W H) :
    Calls Tryz.prog 46 #[v, .agg #[.int .i64 X, .int .i64 Y, .int .i64 W, .int .i64 H]] w fun e w' => ∃ y, e = .returned y ∧ Below w.heap.size w w' ∧ OwnAt w.heap.size w' y 79 7 (docT X Y W H (edgesAll ps)).length ((docT X Y W H (edgesAll ps)).flatMap eE) := by
  have vd := (viewOk_def X Y W H).1 hvw
  have hVp := hv.V
  have hlen := hv.len
  have hrowP : ∀ w', Chg (fun _ => False) w w' → RowAt w' v 1 ps.length pvs := fun w' h => (hat.keep h).row
  refine calls_own (args := [v, .agg #[.int .i64 X, .int .i64 Y, .int .i64 W, .int .i64 H]]) Tryz.func46 rfl Tryz.ntmps46 Tryz.results46 rfl ?_
  refine v_seq ?_
  refine v_region ?_
  refine l_new rfl (o_box (cs := [_, _, _, _]) rfl rfl) fun b3 => ?_
  refine l_val rfl (o_assign rfl) ?_
  refine l_nil ?_
  refine kt_norm ?_
  refine v_seq ?_
  refine v_region ?_
  refine l_buildSlice (vs := []) (cs := []) rfl rfl rfl rfl rfl rfl fun v13 hv13 => ?_
  refine l_val rfl (o_assign rfl) ?_
  refine l_nil ?_
  refine kt_norm ?_
  refine v_seq ?_
  refine v_seq ?_
  refine v_region ?_
  refine l_val rfl (o_loadW (key := 3) rfl rfl rfl) ?_
  refine l_ans (vs := [_]) rfl rfl ((show Ans Tryz.prog _ _ (.int .i64 0) by have := r_Check X Y W H; rwa [if_pos hvw] at this)) ?_
  refine l_split rfl (o_neq rfl rfl) (fun q1 => absurd q1 (by omega)) (fun q1 => ?_)
  refine l_nil ?_
  refine kt_norm ?_
  refine v_condF rfl ?_
  refine v_skip ?_
  refine kt_norm ?_
  refine v_sel [0, 3, 5] [3, 13] rfl rfl ?_
  refine v_seq ?_
  refine v_region ?_
  refine l_val rfl (o_fld rfl) ?_
  refine l_val rfl (o_load1 (key := 3) rfl rfl rfl) ?_
  refine l_val rfl (o_muli rfl rfl ?_) ?_
  · omega
  refine l_val rfl (o_assign rfl) ?_
  refine l_nil ?_
  refine kt_norm ?_
  refine v_seq ?_
  refine v_region ?_
  refine l_val rfl (o_fld rfl) ?_
  refine l_val rfl (o_load1 (key := 3) rfl rfl rfl) ?_
  refine l_val rfl (o_fld rfl) ?_
  refine l_val rfl (o_load1 (key := 3) rfl rfl rfl) ?_
  refine l_val rfl (o_addi rfl rfl ?_) ?_
  · omega
  refine l_val rfl (o_muli rfl rfl ?_) ?_
  · omega
  refine l_val rfl (o_assign rfl) ?_
  refine l_nil ?_
  refine kt_norm ?_
  refine v_sel [0, 5, 6, 7] [13] rfl rfl ?_
  refine v_seq ?_
  refine v_seq ?_
  refine v_region ?_
  refine l_val rfl (o_assign rfl) ?_
  refine l_nil ?_
  refine kt_norm ?_
  refine v_block ?_
  refine v_ren 13 2000 [] rfl rfl rfl ?_
  refine v_loopS (α := Nat × Value) (fun ⟨i, v5⟩ => [(8, .int .i64 (i : Int)), (5, v5)]) (fun ⟨i, v5⟩ => [(2000, Hp.own v5 79 7 (docT X Y W H (edgesAll (ps.take i))).length ((docT X Y W H (edgesAll (ps.take i))).flatMap eE))])  (fun ⟨i, v5⟩ => i ≤ ps.length ∧ RowV v5 (docT X Y W H (edgesAll (ps.take i))).length) (fun ⟨i, v5⟩ => ps.length - i) (0, v13) [0, 6, 7] [] ⟨Nat.zero_le _, hv13⟩  (And.intro rfl (And.intro rfl (True.intro))) rfl (And.intro rfl (True.intro)) rfl ?_
  rintro ⟨i, v5⟩ ⟨hi, hv5⟩
  refine v_seq ?_
  refine v_seq ?_
  refine v_region ?_
  refine l_val rfl (o_move rfl) ?_
  refine l_val rfl (o_move rfl) ?_
  refine l_val rfl (o_len rfl hVp) ?_
  refine l_split rfl (o_lss rfl rfl) (fun q2 => ?_) (fun q2 => ?_)
  · have hil : i < ps.length := by omega
    obtain ⟨pc, hpc⟩ : ∃ pc, ps.getD i [] = pc := ⟨_, rfl⟩
    have hVq := hv.pV i hil
    have hnear := hv.near i hil
    have hbi := (hb.2 i hil).1
    have hrowQ : ∀ w', Chg (fun _ => False) w w' → RowAt w' (pvs.getD i undef) 2 (ps.getD i []).length ((ps.getD i []).flatMap eP) := fun w' h => (hat.keep h).pc i hil
    rw [hpc] at hVq hnear hrowQ hbi
    refine l_nil ?_
    refine kt_norm ?_
    refine v_condT rfl ?_
    refine v_skip ?_
    refine kt_norm ?_
    refine v_seq ?_
    refine v_block ?_
    refine v_seq ?_
    refine v_region ?_
    refine l_val rfl (o_move rfl) ?_
    refine l_val rfl (o_move rfl) ?_
    refine l_val rfl (o_idx (i) rfl hVp rfl (by first | rfl | omega) (by omega)) ?_
    refine l_val rfl (o_loadR1 rfl (row_imm hrowP) (el_one (by rw [hv.lenv]; exact hil))) ?_
    refine l_gown (ks := []) (caps := #[]) (vs := [_]) rfl rfl (ent_of Tryz.func70 rfl rfl) rfl (fun w' hg hh => r_OfE w' (pvs.getD i undef) pc (by omega) hVq (hrowQ w' hg) hnear) fun of hof => ?_
    refine l_val rfl (o_assign rfl) ?_
    refine l_nil ?_
    refine kt_norm ?_
    refine v_sel [8, 5, 0, 6, 7, 9] [37, 2000] rfl rfl ?_
    refine v_seq ?_
    refine v_region ?_
    have hofl := edgesTo_len pc pc.length
    have hofe : (edgesTo pc pc.length).length = (edgesOf pc).length := rfl
    refine l_val rfl (o_assign rfl) ?_
    refine l_nil ?_
    refine kt_norm ?_
    refine v_block ?_
    refine v_loopS (α := Nat × Value) (fun ⟨k, v5⟩ => [(10, .int .i64 (k : Int)), (5, v5)]) (fun ⟨k, v5⟩ => [(2000, Hp.own v5 79 7 (docT X Y W H (edgesAll (ps.take i) ++ (edgesOf pc).take k)).length ((docT X Y W H (edgesAll (ps.take i) ++ (edgesOf pc).take k)).flatMap eE))])  (fun ⟨k, v5⟩ => k ≤ (edgesOf pc).length ∧ RowV v5 (docT X Y W H (edgesAll (ps.take i) ++ (edgesOf pc).take k)).length) (fun ⟨k, v5⟩ => (edgesOf pc).length - k) (0, v5) [8, 0, 6, 7, 9] [37] ⟨Nat.zero_le _, by rw [List.take_zero, List.append_nil]; exact hv5⟩  (And.intro rfl (And.intro rfl (True.intro))) rfl (And.intro (congrArg some (own_congr (by rw [List.take_zero, List.append_nil]) (by rw [List.take_zero, List.append_nil]))) (True.intro)) rfl ?_
    rintro ⟨k, v5⟩ ⟨hk, hv5⟩
    refine v_seq ?_
    refine v_seq ?_
    refine v_region ?_
    refine l_val rfl (o_move rfl) ?_
    refine l_val rfl (o_move rfl) ?_
    refine l_val rfl (o_len rfl hof) ?_
    refine l_split rfl (o_lss rfl rfl) (fun q3 => ?_) (fun q3 => ?_)
    · have hkl : k < (edgesOf pc).length := by omega
      have ho := edgeOk_getD hnear hkl
      have hlt := ho.lt
      have hall := all_split hil k
      rw [hpc] at hall
      have h320 := edgesAll_len hb
      have hgk : (edgesOf pc)[k] = (edgesOf pc).getD k dE := by rw [List.getD_eq_getElem?_getD, List.getElem?_eq_getElem hkl]; rfl
      have htk : (edgesAll (ps.take i) ++ (edgesOf pc).take (k + 1)) = (edgesAll (ps.take i) ++ (edgesOf pc).take k) ++ [(edgesOf pc).getD k dE] := by rw [List.take_add_one, List.getElem?_eq_getElem hkl, ← List.append_assoc, hgk]; rfl
      have hdl := docT_len (X := X) (Y := Y) (W := W) (H := H) (es := (edgesAll (ps.take i) ++ (edgesOf pc).take k))
      have hfk := ho.fr
      have hyk := ho.y
      have hrk := rowOf_def ((edgesOf pc).getD k dE).y
      refine l_nil ?_
      refine kt_norm ?_
      refine v_condT rfl ?_
      refine v_skip ?_
      refine kt_norm ?_
      refine v_seq ?_
      refine v_block ?_
      refine v_seq ?_
      refine v_region ?_
      refine l_val rfl (o_move rfl) ?_
      refine l_val rfl (o_move rfl) ?_
      refine l_val rfl (o_idx (k) rfl hof rfl (by first | rfl | omega) (by omega)) ?_
      refine l_val rfl (o_loadRE (c' := [_, _, _, _, _, _, _]) rfl (row_own (key := 37) rfl) (el_flat eE_len dE (edgesOf pc) (k) (by omega)) rfl) ?_
      refine l_new rfl o_alloc fun b11 => ?_
      refine l_store rfl (o_storeW (key := 11) (xs := [_, _, _, _, _, _, _]) rfl rfl rfl rfl rfl rfl rfl) ?_
      refine l_nil ?_
      refine kt_norm ?_
      refine v_sel [10, 5, 8, 0, 6, 7, 9, 11] [11, 37, 2000] rfl rfl ?_
      refine v_seq ?_
      refine v_seq ?_
      refine v_region ?_
      refine l_val rfl (o_fld rfl) ?_
      refine l_val rfl (o_load1 (key := 11) rfl rfl rfl) ?_
      refine l_val rfl (o_move rfl) ?_
      refine l_split rfl (o_geq rfl rfl) (fun q4 => ?_) (fun q4 => ?_)
      · skip
        refine l_val rfl (o_move rfl) ?_
        refine l_no rfl ?_
        refine l_no rfl ?_
        refine l_no rfl ?_
        refine l_no rfl ?_
        refine l_val rfl (o_pickT rfl rfl) ?_
        refine l_nil ?_
        refine kt_norm ?_
        refine v_condT rfl ?_
        refine v_exit ?_
        refine kt_exit ?_
        refine kb_eq ?_
        refine kt_norm ?_
        refine v_sel [10, 5, 8, 0, 6, 7, 9, 53, 54, 55, 56] [37, 2000] rfl rfl ?_
        refine v_region ?_
        have hout : ¬ (cutE (16 * Y) (16 * (Y + H)) ((edgesOf pc).getD k dE)).fr < (cutE (16 * Y) (16 * (Y + H)) ((edgesOf pc).getD k dE)).to := by rw [cutE_fr, cutE_to]; split <;> split <;> omega
        refine l_val rfl (o_move rfl) ?_
        refine l_val rfl (o_addi rfl rfl ?_) ?_
        · omega
        refine l_val rfl (o_assign rfl) ?_
        refine l_nil ?_
        refine kt_norm ?_
        refine ⟨(k + 1, v5), ⟨hkl, by rw [htk, docT_no hout]; exact hv5⟩, (by show (edgesOf pc).length - (k + 1) < (edgesOf pc).length - k; omega), le_app (And.intro rfl (And.intro rfl (True.intro))) [8, 0, 6, 7, 9] rfl (And.intro (congrArg some (own_congr (by rw [htk, docT_no hout]) (by rw [htk, docT_no hout]))) (True.intro)) [37] rfl⟩
      · skip
        refine l_val rfl (o_move rfl) ?_
        refine l_val rfl (o_fld rfl) ?_
        refine l_val rfl (o_load1 (key := 11) rfl rfl rfl) ?_
        refine l_val rfl (o_move rfl) ?_
        refine l_split rfl (o_leq rfl rfl) (fun q5 => ?_) (fun q5 => ?_)
        · skip
          refine l_val rfl (o_pickF rfl rfl) ?_
          refine l_nil ?_
          refine kt_norm ?_
          refine v_condT rfl ?_
          refine v_exit ?_
          refine kt_exit ?_
          refine kb_eq ?_
          refine kt_norm ?_
          refine v_sel [10, 5, 8, 0, 6, 7, 9, 53, 54, 55, 56] [11, 37, 2000] rfl rfl ?_
          refine v_region ?_
          have hout : ¬ (cutE (16 * Y) (16 * (Y + H)) ((edgesOf pc).getD k dE)).fr < (cutE (16 * Y) (16 * (Y + H)) ((edgesOf pc).getD k dE)).to := by rw [cutE_fr, cutE_to]; split <;> split <;> omega
          refine l_val rfl (o_move rfl) ?_
          refine l_val rfl (o_addi rfl rfl ?_) ?_
          · omega
          refine l_val rfl (o_assign rfl) ?_
          refine l_nil ?_
          refine kt_norm ?_
          refine ⟨(k + 1, v5), ⟨hkl, by rw [htk, docT_no hout]; exact hv5⟩, (by show (edgesOf pc).length - (k + 1) < (edgesOf pc).length - k; omega), le_app (And.intro rfl (And.intro rfl (True.intro))) [8, 0, 6, 7, 9] rfl (And.intro (congrArg some (own_congr (by rw [htk, docT_no hout]) (by rw [htk, docT_no hout]))) (True.intro)) [37] rfl⟩
        · skip
          refine l_val rfl (o_pickF rfl rfl) ?_
          refine l_nil ?_
          refine kt_norm ?_
          refine v_condF rfl ?_
          refine v_skip ?_
          refine kt_norm ?_
          refine v_sel [10, 5, 8, 0, 6, 7, 9, 11, 53, 54, 55, 56] [11, 37, 2000] rfl rfl ?_
          refine v_seq ?_
          refine v_region ?_
          refine l_val rfl (o_fld rfl) ?_
          refine l_val rfl (o_load1 (key := 11) rfl rfl rfl) ?_
          refine l_val rfl (o_move rfl) ?_
          refine l_val rfl (o_max rfl rfl) ?_
          refine l_val rfl (o_fld rfl) ?_
          refine l_store rfl (o_store1 (key := 11) (rs := [_, _, _, _, _, _, _]) rfl rfl rfl rfl rfl rfl rfl) ?_
          refine l_nil ?_
          refine kt_norm ?_
          refine v_seq ?_
          refine v_region ?_
          refine l_val rfl (o_fld rfl) ?_
          refine l_val rfl (o_load1 (key := 11) rfl rfl rfl) ?_
          refine l_val rfl (o_move rfl) ?_
          refine l_val rfl (o_min rfl rfl) ?_
          refine l_val rfl (o_fld rfl) ?_
          refine l_store rfl (o_store1 (key := 11) (rs := [_, _, _, _, _, _, _]) rfl rfl rfl rfl rfl rfl rfl) ?_
          refine l_nil ?_
          refine kt_norm ?_
          refine v_sel [10, 5, 8, 0, 6, 7, 9, 11, 53, 54, 55, 56] [11, 37, 2000] rfl rfl ?_
          refine v_seq ?_
          refine v_region ?_
          refine l_val rfl (o_assign rfl) ?_
          refine l_nil ?_
          refine kt_norm ?_
          refine v_seq ?_
          refine v_block ?_
          refine v_loopS (α := Nat) (fun at_ => [(12, .int .i64 (at_ : Int))]) (fun at_ => [])  (fun at_ => at_ ≤ (docT X Y W H (edgesAll (ps.take i) ++ (edgesOf pc).take k)).length ∧ ∀ j, j < at_ → ((docT X Y W H (edgesAll (ps.take i) ++ (edgesOf pc).take k)).getD j dE).fr ≤ (cutE (16 * Y) (16 * (Y + H)) ((edgesOf pc).getD k dE)).fr) (fun at_ => (docT X Y W H (edgesAll (ps.take i) ++ (edgesOf pc).take k)).length - at_) 0 [10, 5, 8, 0, 6, 7, 9, 11, 53, 54, 55, 56] [11, 37, 2000] ⟨Nat.zero_le _, fun j h => by omega⟩  (And.intro rfl (True.intro)) rfl (True.intro) rfl ?_
          rintro at_ ⟨hat_, hB⟩
          refine v_seq ?_
          refine v_seq ?_
          refine v_drawZ [[], [], [], [], [], [], [], [], [], [2000], [], [11], [], []] mixed ?_ (by kernel_rfl) (by kernel_rfl)
          refine d_val (fun _ => rfl) rfl rfl (fun _ => o_move rfl) ?_
          refine d_val (fun _ => rfl) rfl rfl (fun _ => o_move rfl) ?_
          refine d_val (fun _ => rfl) rfl rfl (fun _ => o_len rfl hv5) ?_
          refine d_lss (fun _ => rfl) (fun _ => rfl) (fun _ => rfl) (fun q6 => ?_) (fun q6 => ?_)
          · skip
            refine d_val (fun _ => rfl) rfl rfl (fun _ => o_move rfl) ?_
            refine d_val (fun _ => rfl) rfl rfl (fun _ => o_move rfl) ?_
            refine d_val (fun _ => rfl) rfl rfl (fun _ => o_move rfl) ?_
            refine d_val (fun _ => rfl) rfl rfl (fun _ => o_idx (at_) rfl hv5 rfl (by first | rfl | omega) (by omega)) ?_
            refine d_val (fun _ => rfl) rfl rfl (fun _ => o_fld rfl) ?_
            refine d_val (fun _ => rfl) rfl rfl (fun _ => o_loadRF (f := 5) rfl (row_own (key := 2000) rfl) (el_flat eE_len dE (docT X Y W H (edgesAll (ps.take i) ++ (edgesOf pc).take k)) (at_) (by omega)) rfl) ?_
            refine d_val (fun _ => rfl) rfl rfl (fun _ => o_fld rfl) ?_
            refine d_val (fun _ => rfl) rfl rfl (fun _ => o_load1 (key := 11) rfl rfl rfl) ?_
            refine d_leq (fun _ => rfl) (fun _ => rfl) (fun _ => rfl) (fun h1812 => ?_) (fun h1812 => ?_)
            · skip
              refine d_val (fun _ => rfl) rfl rfl (fun _ => o_pickT rfl rfl) ?_
              refine d_nil (fun σ => ?_)
              refine l_nil ?_
              refine kt_norm ?_
              refine v_condT rfl ?_
              refine v_skip ?_
              refine kt_norm ?_
              refine v_sel [12, 10, 5, 8, 0, 6, 7, 9, 11, 53, 54, 55, 56, 73, 74, 75, 76, 77, 78, 79, 80] [11, 37, 2000] rfl rfl ?_
              refine v_block ?_
              refine v_region ?_
              refine l_val rfl (o_move rfl) ?_
              refine l_val rfl (o_addi rfl rfl ?_) ?_
              · omega
              refine l_val rfl (o_assign rfl) ?_
              refine l_nil ?_
              refine kb_norm ?_
              refine kt_norm ?_
              refine ⟨at_ + 1, ⟨by omega, fun j hj => by rcases Nat.lt_or_eq_of_le (Nat.le_of_lt_succ hj) with h | h; exact hB j h; subst h; exact h1812⟩, by omega, le_app (And.intro rfl (True.intro)) [10, 5, 8, 0, 6, 7, 9, 11, 53, 54, 55, 56] rfl (True.intro) [11, 37, 2000] rfl⟩
            · skip
              refine d_val (fun _ => rfl) rfl rfl (fun _ => o_pickT rfl rfl) ?_
              refine d_nil (fun σ => ?_)
              refine l_nil ?_
              refine kt_norm ?_
              refine v_condF rfl ?_
              refine v_exit ?_
              refine kt_exit ?_
              refine kt_exit ?_
              refine kb_eq ?_
              refine kt_norm ?_
              refine v_sel [12, 10, 5, 8, 0, 6, 7, 9, 11, 53, 54, 55, 56, 73, 74, 75, 76, 77, 78, 79, 80] [11, 37, 2000] rfl rfl ?_
              refine v_drawW [(88, 0 + at_), (91, 0 + at_ + 1), (95, 0 + at_ + 1 + ((docT X Y W H (edgesAll (ps.take i) ++ (edgesOf pc).take k)).length - at_))] [[], [], [], [2000], [84, 2000], [11], [], [84, 90], [], [], [], [84, 2000], []] mixed ?_ (by kernel_rfl) (by kernel_rfl)
              have hC : at_ < (docT X Y W H (edgesAll (ps.take i) ++ (edgesOf pc).take k)).length → ¬ ((docT X Y W H (edgesAll (ps.take i) ++ (edgesOf pc).take k)).getD at_ dE).fr ≤ (cutE (16 * Y) (16 * (Y + H)) ((edgesOf pc).getD k dE)).fr := fun h => by first | (exfalso; omega) | exact h1812
              refine d_bsO (n := 0) (vs := fun _ => []) (cs := fun _ => []) (fun _ => rfl) (fun _ => rfl) (fun _ => rfl) rfl rfl (fun _ => rfl) (fun _ => rfl) ?_
              refine d_val (fun _ => rfl) rfl rfl (fun σ20 => o_move rfl) ?_
              refine d_val (fun _ => rfl) rfl rfl (fun σ20 => o_move rfl) ?_
              refine d_val (fun _ => rfl) rfl rfl (fun _ => o_sliceTo (key := 2000) at_ rfl rfl rfl rfl (by omega)) ?_
              refine d_app 84 (n := 0) (mm := at_) (κ := [2000]) (fun _ => rfl) (fun _ => rfl) (fun _ => rfl) (fun _ => rfl) rfl (fun σ20 => rowV_to hv5 (by omega)) (fun σ20 => row_to (key := 2000) rfl (by omega)) (by omega) (fun _ h => h) ?_
              refine d_val (fun _ => rfl) rfl rfl (fun σ20 => o_loadW (key := 11) rfl rfl rfl) ?_
              refine d_bsO (n := 1) (vs := fun _ => [_]) (cs := fun _ => [_, _, _, _, _, _, _]) (fun _ => rfl) (fun _ => rfl) (fun _ => rfl) rfl rfl (fun _ => rfl) (fun _ => rfl) ?_
              refine d_app 84 (n := 0 + at_) (mm := 1) (κ := [90]) (fun _ => rfl) (fun _ => rfl) (fun _ => rfl) (fun _ => rfl) rfl (fun σ20 => .inl ⟨_, _, _, rfl⟩) (fun σ20 => row_own (key := 90) rfl) (by omega) (fun _ h => h) ?_
              refine d_val (fun _ => rfl) rfl rfl (fun σ20 => o_move rfl) ?_
              refine d_val (fun _ => rfl) rfl rfl (fun σ20 => o_move rfl) ?_
              refine d_val (fun _ => rfl) rfl rfl (fun _ => o_sliceFrom (lo := at_) rfl hv5 rfl rfl (by omega)) ?_
              refine d_app 84 (n := 0 + at_ + 1) (mm := (docT X Y W H (edgesAll (ps.take i) ++ (edgesOf pc).take k)).length - at_) (κ := [2000]) (fun _ => rfl) (fun _ => rfl) (fun _ => rfl) (fun _ => rfl) rfl (fun σ20 => rowV_from hv5 (by omega)) (fun σ20 => row_from (key := 2000) rfl (by omega)) (by omega) (fun _ h => h) ?_
              refine d_val (fun _ => rfl) rfl rfl (fun σ20 => o_assign rfl) ?_
              refine d_nil (fun σ20 => ?_)
              refine l_nil ?_
              refine kb_norm ?_
              refine kt_norm ?_
              refine v_sel [10, 5, 8, 0, 6, 7, 9, 53, 54, 55, 56, 73, 74, 75, 76, 77, 78, 79, 80] [11, 37, 84, 2000] rfl rfl ?_
              refine v_region ?_
              have hin : (cutE (16 * Y) (16 * (Y + H)) ((edgesOf pc).getD k dE)).fr < (cutE (16 * Y) (16 * (Y + H)) ((edgesOf pc).getD k dE)).to := by rw [cutE_fr, cutE_to]; split <;> split <;> omega
              refine l_ren 84 2000 [11, 37] rfl rfl rfl ?_
              refine l_val rfl (o_move rfl) ?_
              refine l_val rfl (o_addi rfl rfl ?_) ?_
              · omega
              refine l_val rfl (o_assign rfl) ?_
              refine l_nil ?_
              refine kt_norm ?_
              refine ⟨(k + 1, σ20.v 95), ⟨hkl, by rw [htk, docT_yes hin, insS_len]; exact RowV.to (show RowV (σ20.v 95) (0 + at_ + 1 + ((docT X Y W H (edgesAll (ps.take i) ++ (edgesOf pc).take k)).length - at_)) from σ20.ok 95) (by omega)⟩, (by show (edgesOf pc).length - (k + 1) < (edgesOf pc).length - k; omega), le_app (And.intro rfl (And.intro rfl (True.intro))) [8, 0, 6, 7, 9] rfl (And.intro (congrArg some (own_congr (by rw [htk, docT_yes hin, insS_len]; omega) (by rw [htk, docT_yes hin]; exact ins_flat (by omega) hB (fun h => by omega)))) (True.intro)) [37] rfl⟩
          · skip
            refine d_val (fun _ => rfl) rfl rfl (fun _ => o_move rfl) ?_
            refine d_no (fun _ => rfl) ?_
            refine d_no (fun _ => rfl) ?_
            refine d_no (fun _ => rfl) ?_
            refine d_no (fun _ => rfl) ?_
            refine d_no (fun _ => rfl) ?_
            refine d_no (fun _ => rfl) ?_
            refine d_no (fun _ => rfl) ?_
            refine d_no (fun _ => rfl) ?_
            refine d_val (fun _ => rfl) rfl rfl (fun _ => o_pickF rfl rfl) ?_
            refine d_nil (fun σ => ?_)
            refine l_nil ?_
            refine kt_norm ?_
            refine v_condF rfl ?_
            refine v_exit ?_
            refine kt_exit ?_
            refine kt_exit ?_
            refine kb_eq ?_
            refine kt_norm ?_
            refine v_sel [12, 10, 5, 8, 0, 6, 7, 9, 11, 53, 54, 55, 56, 73, 74, 75, 76, 77, 78, 79, 80] [11, 37, 2000] rfl rfl ?_
            refine v_drawW [(88, 0 + at_), (91, 0 + at_ + 1), (95, 0 + at_ + 1 + ((docT X Y W H (edgesAll (ps.take i) ++ (edgesOf pc).take k)).length - at_))] [[], [], [], [2000], [84, 2000], [11], [], [84, 90], [], [], [], [84, 2000], []] mixed ?_ (by kernel_rfl) (by kernel_rfl)
            have hC : at_ < (docT X Y W H (edgesAll (ps.take i) ++ (edgesOf pc).take k)).length → ¬ ((docT X Y W H (edgesAll (ps.take i) ++ (edgesOf pc).take k)).getD at_ dE).fr ≤ (cutE (16 * Y) (16 * (Y + H)) ((edgesOf pc).getD k dE)).fr := fun h => by first | (exfalso; omega) | exact h1812
            refine d_bsO (n := 0) (vs := fun _ => []) (cs := fun _ => []) (fun _ => rfl) (fun _ => rfl) (fun _ => rfl) rfl rfl (fun _ => rfl) (fun _ => rfl) ?_
            refine d_val (fun _ => rfl) rfl rfl (fun σ20 => o_move rfl) ?_
            refine d_val (fun _ => rfl) rfl rfl (fun σ20 => o_move rfl) ?_
            refine d_val (fun _ => rfl) rfl rfl (fun _ => o_sliceTo (key := 2000) at_ rfl rfl rfl rfl (by omega)) ?_
            refine d_app 84 (n := 0) (mm := at_) (κ := [2000]) (fun _ => rfl) (fun _ => rfl) (fun _ => rfl) (fun _ => rfl) rfl (fun σ20 => rowV_to hv5 (by omega)) (fun σ20 => row_to (key := 2000) rfl (by omega)) (by omega) (fun _ h => h) ?_
            refine d_val (fun _ => rfl) rfl rfl (fun σ20 => o_loadW (key := 11) rfl rfl rfl) ?_
            refine d_bsO (n := 1) (vs := fun _ => [_]) (cs := fun _ => [_, _, _, _, _, _, _]) (fun _ => rfl) (fun _ => rfl) (fun _ => rfl) rfl rfl (fun _ => rfl) (fun _ => rfl) ?_
            refine d_app 84 (n := 0 + at_) (mm := 1) (κ := [90]) (fun _ => rfl) (fun _ => rfl) (fun _ => rfl) (fun _ => rfl) rfl (fun σ20 => .inl ⟨_, _, _, rfl⟩) (fun σ20 => row_own (key := 90) rfl) (by omega) (fun _ h => h) ?_
            refine d_val (fun _ => rfl) rfl rfl (fun σ20 => o_move rfl) ?_
            refine d_val (fun _ => rfl) rfl rfl (fun σ20 => o_move rfl) ?_
            refine d_val (fun _ => rfl) rfl rfl (fun _ => o_sliceFrom (lo := at_) rfl hv5 rfl rfl (by omega)) ?_
            refine d_app 84 (n := 0 + at_ + 1) (mm := (docT X Y W H (edgesAll (ps.take i) ++ (edgesOf pc).take k)).length - at_) (κ := [2000]) (fun _ => rfl) (fun _ => rfl) (fun _ => rfl) (fun _ => rfl) rfl (fun σ20 => rowV_from hv5 (by omega)) (fun σ20 => row_from (key := 2000) rfl (by omega)) (by omega) (fun _ h => h) ?_
            refine d_val (fun _ => rfl) rfl rfl (fun σ20 => o_assign rfl) ?_
            refine d_nil (fun σ20 => ?_)
            refine l_nil ?_
            refine kb_norm ?_
            refine kt_norm ?_
            refine v_sel [10, 5, 8, 0, 6, 7, 9, 53, 54, 55, 56, 73, 74, 75, 76, 77, 78, 79, 80] [11, 37, 84, 2000] rfl rfl ?_
            refine v_region ?_
            have hin : (cutE (16 * Y) (16 * (Y + H)) ((edgesOf pc).getD k dE)).fr < (cutE (16 * Y) (16 * (Y + H)) ((edgesOf pc).getD k dE)).to := by rw [cutE_fr, cutE_to]; split <;> split <;> omega
            refine l_ren 84 2000 [11, 37] rfl rfl rfl ?_
            refine l_val rfl (o_move rfl) ?_
            refine l_val rfl (o_addi rfl rfl ?_) ?_
            · omega
            refine l_val rfl (o_assign rfl) ?_
            refine l_nil ?_
            refine kt_norm ?_
            refine ⟨(k + 1, σ20.v 95), ⟨hkl, by rw [htk, docT_yes hin, insS_len]; exact RowV.to (show RowV (σ20.v 95) (0 + at_ + 1 + ((docT X Y W H (edgesAll (ps.take i) ++ (edgesOf pc).take k)).length - at_)) from σ20.ok 95) (by omega)⟩, (by show (edgesOf pc).length - (k + 1) < (edgesOf pc).length - k; omega), le_app (And.intro rfl (And.intro rfl (True.intro))) [8, 0, 6, 7, 9] rfl (And.intro (congrArg some (own_congr (by rw [htk, docT_yes hin, insS_len]; omega) (by rw [htk, docT_yes hin]; exact ins_flat (by omega) hB (fun h => by omega)))) (True.intro)) [37] rfl⟩
    · skip
      refine l_nil ?_
      refine kt_norm ?_
      refine v_condF rfl ?_
      refine v_exit ?_
      refine kt_exit ?_
      refine kt_exit ?_
      refine kb_eq ?_
      refine kb_norm ?_
      refine kt_norm ?_
      refine v_sel [5, 8, 0, 6, 7] [2000] rfl rfl ?_
      refine v_region ?_
      have hkk : (edgesOf pc).take k = edgesOf pc := List.take_of_length_le (by omega)
      refine l_val rfl (o_move rfl) ?_
      refine l_val rfl (o_addi rfl rfl ?_) ?_
      · omega
      refine l_val rfl (o_assign rfl) ?_
      refine l_nil ?_
      refine kt_norm ?_
      refine ⟨(i + 1, v5), ⟨hil, by rw [all_take_succ hil, hpc]; rw [hkk] at hv5; exact hv5⟩, (by show ps.length - (i + 1) < ps.length - i; omega), le_app (And.intro rfl (And.intro rfl (True.intro))) [0, 6, 7] rfl (And.intro (congrArg some (own_congr (by rw [all_take_succ hil, hpc, hkk]) (by rw [all_take_succ hil, hpc, hkk]))) (True.intro)) [] rfl⟩
  · skip
    refine l_nil ?_
    refine kt_norm ?_
    refine v_condF rfl ?_
    refine v_exit ?_
    refine kt_exit ?_
    refine kt_exit ?_
    refine kb_eq ?_
    refine kt_norm ?_
    refine v_sel [5] [2000] rfl rfl ?_
    refine v_seq ?_
    refine v_region ?_
    obtain rfl : i = ps.length := by omega
    refine l_val rfl (o_move rfl) ?_
    refine l_val rfl (o_assign rfl) ?_
    refine l_nil ?_
    refine kt_norm ?_
    refine v_ret ?_
    refine ⟨[_], .cons (.tmp rfl) (ResAll.nil), ?_⟩
    exact ⟨2000, congrArg some (own_congr (by rw [List.take_length]) (by rw [List.take_length]))⟩
theorem r_TableN (w : World) (v : Value) (X Y W H : Int) (hvw : ¬ ViewOk X Y W H) :
    Calls Tryz.prog 46 #[v, .agg #[.int .i64 X, .int .i64 Y, .int .i64 W, .int .i64 H]] w fun e w' => ∃ y, e = .returned y ∧ Below w.heap.size w w' ∧ OwnAt w.heap.size w' y 79 7 0 [] := by
  refine calls_own (args := [v, .agg #[.int .i64 X, .int .i64 Y, .int .i64 W, .int .i64 H]]) Tryz.func46 rfl Tryz.ntmps46 Tryz.results46 rfl ?_
  refine v_seq ?_
  refine v_region ?_
  refine l_new rfl (o_box (cs := [_, _, _, _]) rfl rfl) fun b3 => ?_
  refine l_val rfl (o_assign rfl) ?_
  refine l_nil ?_
  refine kt_norm ?_
  refine v_seq ?_
  refine v_region ?_
  refine l_buildSlice (vs := []) (cs := []) rfl rfl rfl rfl rfl rfl fun v13 hv13 => ?_
  refine l_val rfl (o_assign rfl) ?_
  refine l_nil ?_
  refine kt_norm ?_
  refine v_seq ?_
  refine v_seq ?_
  refine v_region ?_
  refine l_val rfl (o_loadW (key := 3) rfl rfl rfl) ?_
  refine l_ans (vs := [_]) rfl rfl ((show Ans Tryz.prog _ _ (.int .i64 190) by have := r_Check X Y W H; rwa [if_neg hvw] at this)) ?_
  refine l_split rfl (o_neq rfl rfl) (fun q1 => ?_) (fun q1 => absurd (show _ by omega) q1)
  refine l_nil ?_
  refine kt_norm ?_
  refine v_condT rfl ?_
  refine v_seq ?_
  refine v_region ?_
  refine l_val rfl (o_move rfl) ?_
  refine l_val rfl (o_assign rfl) ?_
  refine l_nil ?_
  refine kt_norm ?_
  refine v_sel [4] [13] rfl rfl ?_
  refine v_ret ?_
  refine kt_ret ?_
  refine ⟨[_], .cons (.tmp rfl) (ResAll.nil), ?_⟩
  exact ⟨13, rfl⟩
theorem r_TableT (w : World) (v : Value) (pvs : List Value) (ps : List (List PtT)) (X Y W H : Int) (hb : Bnd ps) (hv : PcsV v pvs ps) (hat : PcsAt w v pvs ps) :
    Calls Tryz.prog 46 #[v, .agg #[.int .i64 X, .int .i64 Y, .int .i64 W, .int .i64 H]] w fun e w' => ∃ y, e = .returned y ∧ Below w.heap.size w w' ∧ OwnAt w.heap.size w' y 79 7 (tabT X Y W H ps).length ((tabT X Y W H ps).flatMap eE) := by
  unfold tabT
  by_cases hvw : ViewOk X Y W H
  · rw [if_pos hvw]; exact r_TableY w v pvs ps X Y W H hb hv hat hvw
  · rw [if_neg hvw]; exact r_TableN w v X Y W H hvw
end Go.Proofs.YtaijclimdfchfaaGreat
