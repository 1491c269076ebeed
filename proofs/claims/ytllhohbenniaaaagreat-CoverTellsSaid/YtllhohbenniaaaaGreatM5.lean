import Derived.Shelf.SlIterI.Sorted
import Derived.Shelf.SortM.Plain
import Derived.Shelf.SortM.SortNone
import Derived.Ground.GgzProg
import Derived.Ground.SlgmProg
import Derived.Maps.Views
import Derived.Test.YtllhohbenniaaaaGreatM1
import Derived.Test.YtllhohbenniaaaaGreatM2
import Derived.Test.YtllhohbenniaaaaGreatM3
import Derived.Test.YtllhohbenniaaaaGreatM4
/- The edges of a piece, and the table of a view, as the document has them. Conditions: none. -/
namespace Go.Proofs.YtllhohbenniaaaaGreat
open Go.Proofs Go.RowKit Go.Shelf

set_option maxHeartbeats 1000000 in
theorem r_OfE (w : World) (pv : Value) (pc : List PtT) (hs : pc.length ≤ 1000000) (hV : RowV pv pc.length) (hrow : RowAt w pv 2 pc.length (pc.flatMap eP)) (hnear : ∀ p ∈ pc, NearT p) :
    Calls Tryz.prog 52 #[pv] w fun e w' => ∃ y, e = .returned y ∧ Below w.heap.size w w' ∧ OwnAt w.heap.size w' y 101 7 (edgesOf pc).length ((edgesOf pc).flatMap eE) := by
  have hr : ∀ w', Chg (fun _ => False) w w' → RowAt w' pv 2 pc.length (pc.flatMap eP) := fun w' h => hrow.chg h (fun h => h)
  refine calls_own (args := [pv]) Tryz.func52 rfl Tryz.ntmps52 Tryz.results52 rfl ?_
  refine v_seq ?_
  refine v_region ?_
  refine l_val rfl (o_assign rfl) ?_
  refine l_nil ?_
  refine kt_norm ?_
  refine v_seq ?_
  refine v_region ?_
  refine l_buildSlice (vs := []) (cs := []) rfl rfl rfl rfl rfl rfl fun v8 hv8 => ?_
  refine l_val rfl (o_assign rfl) ?_
  refine l_nil ?_
  refine kt_norm ?_
  refine v_seq ?_
  refine v_seq ?_
  refine v_region ?_
  refine l_val rfl (o_assign rfl) ?_
  refine l_nil ?_
  refine kt_norm ?_
  refine v_block ?_
  refine v_ren 8 82 [] rfl rfl rfl ?_
  refine v_loopS (α := Nat × Value) (fun ⟨i, v3⟩ => [(4, .int .i64 (i : Int)), (3, v3)]) (fun ⟨i, v3⟩ => [(82, Hp.own v3 101 7 (edgesTo pc i).length ((edgesTo pc i).flatMap eE))])  (fun ⟨i, v3⟩ => i ≤ pc.length ∧ RowV v3 (edgesTo pc i).length) (fun ⟨i, v3⟩ => pc.length - i) (0, v8) [0] [] ⟨Nat.zero_le _, hv8⟩  (And.intro rfl (And.intro rfl (True.intro))) rfl (And.intro rfl (True.intro)) rfl ?_
  rintro ⟨i, v3⟩ ⟨hi, hv3⟩
  refine v_seq ?_
  refine v_seq ?_
  refine v_region ?_
  refine l_val rfl (o_move rfl) ?_
  refine l_val rfl (o_move rfl) ?_
  refine l_val rfl (o_len rfl hV) ?_
  refine l_split rfl (o_lss rfl rfl) (fun q1 => ?_) (fun q1 => ?_)
  · have hil : i < pc.length := by omega
    have n1 := near_getD hnear hil
    have n2 := near_getD hnear (Nat.mod_lt (i + 1) (show 0 < pc.length by omega))
    unfold NearT at n1 n2
    have r1 := rowOf_def (pc.getD i dP).y
    have r2 := rowOf_def (pc.getD ((i + 1) % pc.length) dP).y
    refine l_nil ?_
    refine kt_norm ?_
    refine v_condT rfl ?_
    refine v_skip ?_
    refine kt_norm ?_
    refine v_seq ?_
    refine v_block ?_
    refine v_seq ?_
    refine v_region ?_
    refine l_val rfl (o_move rfl) ?_
    refine l_val rfl (o_move rfl) ?_
    refine l_val rfl (o_idx (i) rfl hV rfl (by first | rfl | omega) (by omega)) ?_
    refine l_val rfl (o_loadRE (c' := [_, _]) rfl (row_imm hr) (el_flat eP_len dP pc (i) (by omega)) rfl) ?_
    refine l_new rfl o_alloc fun b5 => ?_
    refine l_store rfl (o_storeW (key := 5) (xs := [_, _]) rfl rfl rfl rfl rfl rfl rfl) ?_
    refine l_nil ?_
    refine kt_norm ?_
    refine v_sel [4, 3, 0, 5] [5, 82] rfl rfl ?_
    refine v_seq ?_
    refine v_region ?_
    refine l_val rfl (o_move rfl) ?_
    refine l_val rfl (o_move rfl) ?_
    refine l_val rfl (o_addi rfl rfl ?_) ?_
    · omega
    refine l_val rfl (o_move rfl) ?_
    refine l_val rfl (o_len rfl hV) ?_
    refine l_val rfl (o_remn rfl rfl ?_) ?_
    · omega
    refine l_val rfl (o_idx ((i + 1) % pc.length) rfl hV rfl (by first | rfl | omega) (Nat.mod_lt _ (by omega))) ?_
    refine l_val rfl (o_loadRE (c' := [_, _]) rfl (row_imm hr) (el_flat eP_len dP pc ((i + 1) % pc.length) (Nat.mod_lt _ (by omega))) rfl) ?_
    refine l_new rfl o_alloc fun b6 => ?_
    refine l_store rfl (o_storeW (key := 6) (xs := [_, _]) rfl rfl rfl rfl rfl rfl rfl) ?_
    refine l_nil ?_
    refine kt_norm ?_
    refine v_sel [4, 3, 0, 5, 6] [5, 6, 82] rfl rfl ?_
    refine v_seq ?_
    refine v_region ?_
    refine l_val rfl (o_assign rfl) ?_
    refine l_nil ?_
    refine kt_norm ?_
    refine v_seq ?_
    refine v_seq ?_
    refine v_region ?_
    refine l_val rfl (o_fld rfl) ?_
    refine l_val rfl (o_load1 (key := 5) rfl rfl rfl) ?_
    refine l_val rfl (o_fld rfl) ?_
    refine l_val rfl (o_load1 (key := 6) rfl rfl rfl) ?_
    refine l_split rfl (o_gtr rfl rfl) (fun h84 => ?_) (fun h84 => ?_)
    · skip
      refine l_nil ?_
      refine kt_norm ?_
      refine v_condT rfl ?_
      refine v_seq ?_
      refine v_region ?_
      refine l_val rfl (o_move rfl) ?_
      refine l_val rfl (o_move rfl) ?_
      refine l_val rfl (o_addi rfl rfl ?_) ?_
      · omega
      refine l_val rfl (o_move rfl) ?_
      refine l_val rfl (o_len rfl hV) ?_
      refine l_val rfl (o_remn rfl rfl ?_) ?_
      · omega
      refine l_val rfl (o_idx ((i + 1) % pc.length) rfl hV rfl (by first | rfl | omega) (Nat.mod_lt _ (by omega))) ?_
      refine l_val rfl (o_loadRE (c' := [_, _]) rfl (row_imm hr) (el_flat eP_len dP pc ((i + 1) % pc.length) (Nat.mod_lt _ (by omega))) rfl) ?_
      refine l_store rfl (o_storeW (key := 5) (xs := [_, _]) rfl rfl rfl rfl rfl rfl rfl) ?_
      refine l_nil ?_
      refine kt_norm ?_
      refine v_sel [4, 3, 0, 5, 6] [5, 6, 82] rfl rfl ?_
      refine v_seq ?_
      refine v_region ?_
      refine l_val rfl (o_move rfl) ?_
      refine l_val rfl (o_move rfl) ?_
      refine l_val rfl (o_idx (i) rfl hV rfl (by first | rfl | omega) (by omega)) ?_
      refine l_val rfl (o_loadRE (c' := [_, _]) rfl (row_imm hr) (el_flat eP_len dP pc (i) (by omega)) rfl) ?_
      refine l_store rfl (o_storeW (key := 6) (xs := [_, _]) rfl rfl rfl rfl rfl rfl rfl) ?_
      refine l_nil ?_
      refine kt_norm ?_
      refine v_region ?_
      refine l_val rfl (o_assign rfl) ?_
      refine l_nil ?_
      refine kt_norm ?_
      refine v_seq ?_
      refine v_drawZ [[], [5], [], [6], [], [], [], [5], [], [], [6], [], [], []] mixed ?_ (by kernel_rfl) (by kernel_rfl)
      refine d_val (fun _ => rfl) rfl rfl (fun _ => o_fld rfl) ?_
      refine d_val (fun _ => rfl) rfl rfl (fun _ => o_load1 (key := 5) rfl rfl rfl) ?_
      refine d_val (fun _ => rfl) rfl rfl (fun _ => o_fld rfl) ?_
      refine d_val (fun _ => rfl) rfl rfl (fun _ => o_load1 (key := 6) rfl rfl rfl) ?_
      refine d_neq (fun _ => rfl) (fun _ => rfl) (fun _ => rfl) (fun q2 => ?_) (fun q2 => ?_)
      · skip
        refine d_val (fun _ => rfl) rfl rfl (fun _ => o_move rfl) ?_
        refine d_val (fun _ => rfl) rfl rfl (fun _ => o_fld rfl) ?_
        refine d_val (fun _ => rfl) rfl rfl (fun _ => o_load1 (key := 5) rfl rfl rfl) ?_
        refine d_ans (vs := [_]) (fun _ => rfl) (fun _ => rfl) (r_Row _ ?_) ?_
        · omega
        refine d_val (fun _ => rfl) rfl rfl (fun _ => o_fld rfl) ?_
        refine d_val (fun _ => rfl) rfl rfl (fun _ => o_load1 (key := 6) rfl rfl rfl) ?_
        refine d_ans (vs := [_]) (fun _ => rfl) (fun _ => rfl) (r_Row _ ?_) ?_
        · omega
        refine d_neq (fun _ => rfl) (fun _ => rfl) (fun _ => rfl) (fun q3 => ?_) (fun q3 => ?_)
        · skip
          refine d_val (fun _ => rfl) rfl rfl (fun _ => o_pickT rfl rfl) ?_
          refine d_nil (fun σ => ?_)
          refine l_nil ?_
          refine kt_norm ?_
          refine v_sel [4, 3, 0, 5, 6, 7, 50, 51, 52, 53, 54, 55, 56, 57] [5, 6, 82] rfl rfl ?_
          refine v_condT rfl ?_
          refine v_drawZ [[], [], [5], [], [5], [], [6], [], [5], [], [], [6], [], [5], [], [], [], [5], [], [], [6], [], [], []] mixed ?_ (by kernel_rfl) (by kernel_rfl)
          refine d_val (fun _ => rfl) rfl rfl (fun _ => o_move rfl) ?_
          refine d_val (fun _ => rfl) rfl rfl (fun _ => o_fld rfl) ?_
          refine d_val (fun _ => rfl) rfl rfl (fun _ => o_load1 (key := 5) rfl rfl rfl) ?_
          refine d_val (fun _ => rfl) rfl rfl (fun _ => o_fld rfl) ?_
          refine d_val (fun _ => rfl) rfl rfl (fun _ => o_load1 (key := 5) rfl rfl rfl) ?_
          refine d_val (fun _ => rfl) rfl rfl (fun _ => o_fld rfl) ?_
          refine d_val (fun _ => rfl) rfl rfl (fun _ => o_load1 (key := 6) rfl rfl rfl) ?_
          refine d_val (fun _ => rfl) rfl rfl (fun _ => o_fld rfl) ?_
          refine d_val (fun _ => rfl) rfl rfl (fun _ => o_load1 (key := 5) rfl rfl rfl) ?_
          refine d_val (fun _ => rfl) rfl rfl (fun _ => o_subi rfl rfl ?_) ?_
          · omega
          refine d_val (fun _ => rfl) rfl rfl (fun _ => o_fld rfl) ?_
          refine d_val (fun _ => rfl) rfl rfl (fun _ => o_load1 (key := 6) rfl rfl rfl) ?_
          refine d_val (fun _ => rfl) rfl rfl (fun _ => o_fld rfl) ?_
          refine d_val (fun _ => rfl) rfl rfl (fun _ => o_load1 (key := 5) rfl rfl rfl) ?_
          refine d_val (fun _ => rfl) rfl rfl (fun _ => o_subi rfl rfl ?_) ?_
          · omega
          refine d_val (fun _ => rfl) rfl rfl (fun _ => o_move rfl) ?_
          refine d_val (fun _ => rfl) rfl rfl (fun _ => o_fld rfl) ?_
          refine d_val (fun _ => rfl) rfl rfl (fun _ => o_load1 (key := 5) rfl rfl rfl) ?_
          refine d_ans (vs := [_]) (fun _ => rfl) (fun _ => rfl) (r_Row _ ?_) ?_
          · omega
          refine d_val (fun _ => rfl) rfl rfl (fun _ => o_fld rfl) ?_
          refine d_val (fun _ => rfl) rfl rfl (fun _ => o_load1 (key := 6) rfl rfl rfl) ?_
          refine d_ans (vs := [_]) (fun _ => rfl) (fun _ => rfl) (r_Row _ ?_) ?_
          · omega
          refine d_val (fun _ => rfl) rfl rfl (fun _ => o_build (vs := [_, _, _, _, _, _, _]) (cs := [_, _, _, _, _, _, _]) rfl rfl) ?_
          refine d_newS (fun _ => rfl) rfl rfl (fun _ => o_bs (vs := [_]) (cs := [_, _, _, _, _, _, _]) rfl rfl rfl rfl) ?_
          refine d_nil (fun σ => ?_)
          refine l_toOwn 81 [5, 6, 82] (n := 1) 7 rfl rfl rfl rfl rfl rfl ?_
          refine l_append 82 [5, 6, 81] rfl rfl rfl rfl rfl rfl rfl (.inl ⟨_, _, _, rfl⟩) (row_own (key := 81) rfl) (by have := edgesTo_len pc i; omega) fun v82 hv82 => ?_
          refine l_val rfl (o_assign rfl) ?_
          refine l_nil ?_
          refine kb_norm ?_
          refine kt_norm ?_
          refine v_sel [4, 3, 0, 50, 51, 52, 53, 54, 55, 56] [5, 6, 82] rfl rfl ?_
          refine v_region ?_
          have hgo : (edgeOf (pc.getD i dP) (pc.getD ((i + 1) % pc.length) dP)).fr < (edgeOf (pc.getD i dP) (pc.getD ((i + 1) % pc.length) dP)).to := by rw [edgeOf_lt h84]; dsimp only; omega
          refine l_val rfl (o_move rfl) ?_
          refine l_val rfl (o_addi rfl rfl ?_) ?_
          · omega
          refine l_val rfl (o_assign rfl) ?_
          refine l_nil ?_
          refine kt_norm ?_
          refine ⟨(i + 1, v82), ⟨hil, by rw [edgesTo_succ, edgesAt_yes hgo, List.length_append]; exact hv82⟩, (by show pc.length - (i + 1) < pc.length - i; omega), le_app (And.intro rfl (And.intro rfl (True.intro))) [0] rfl (And.intro (congrArg some (own_congr (by rw [edgesTo_succ, edgesAt_yes hgo, List.length_append]; rfl) (by rw [edgesTo_succ, edgesAt_yes hgo, List.flatMap_append, edgeOf_lt h84]; simp [eE]))) (True.intro)) [] rfl⟩
        · skip
          refine d_val (fun _ => rfl) rfl rfl (fun _ => o_pickT rfl rfl) ?_
          refine d_nil (fun σ => ?_)
          refine l_nil ?_
          refine kt_norm ?_
          refine v_sel [4, 3, 0, 5, 6, 7, 50, 51, 52, 53, 54, 55, 56, 57] [5, 6, 82] rfl rfl ?_
          refine v_condF rfl ?_
          refine v_skip ?_
          refine kb_norm ?_
          refine kt_norm ?_
          refine v_region ?_
          have hno : ¬ (edgeOf (pc.getD i dP) (pc.getD ((i + 1) % pc.length) dP)).fr < (edgeOf (pc.getD i dP) (pc.getD ((i + 1) % pc.length) dP)).to := by rw [edgeOf_lt h84]; dsimp only; omega
          refine l_val rfl (o_move rfl) ?_
          refine l_val rfl (o_addi rfl rfl ?_) ?_
          · omega
          refine l_val rfl (o_assign rfl) ?_
          refine l_nil ?_
          refine kt_norm ?_
          refine ⟨(i + 1, v3), ⟨hil, by rw [edgesTo_succ, edgesAt_no hno, List.append_nil]; exact hv3⟩, (by show pc.length - (i + 1) < pc.length - i; omega), le_app (And.intro rfl (And.intro rfl (True.intro))) [0] rfl (And.intro (congrArg some (own_congr (by rw [edgesTo_succ, edgesAt_no hno, List.append_nil]) (by rw [edgesTo_succ, edgesAt_no hno, List.append_nil]))) (True.intro)) [] rfl⟩
      · skip
        refine d_val (fun _ => rfl) rfl rfl (fun _ => o_move rfl) ?_
        refine d_no (fun _ => rfl) ?_
        refine d_no (fun _ => rfl) ?_
        refine d_no (fun _ => rfl) ?_
        refine d_no (fun _ => rfl) ?_
        refine d_no (fun _ => rfl) ?_
        refine d_no (fun _ => rfl) ?_
        refine d_no (fun _ => rfl) ?_
        refine d_val (fun _ => rfl) rfl rfl (fun _ => o_pickF rfl rfl) ?_
        refine d_nil (fun σ => ?_)
        refine l_nil ?_
        refine kt_norm ?_
        refine v_sel [4, 3, 0, 5, 6, 7, 50, 51, 52, 53, 54, 55, 56, 57] [5, 6, 82] rfl rfl ?_
        refine v_condF rfl ?_
        refine v_skip ?_
        refine kb_norm ?_
        refine kt_norm ?_
        refine v_region ?_
        have hno : ¬ (edgeOf (pc.getD i dP) (pc.getD ((i + 1) % pc.length) dP)).fr < (edgeOf (pc.getD i dP) (pc.getD ((i + 1) % pc.length) dP)).to := by rw [edgeOf_lt h84]; dsimp only; omega
        refine l_val rfl (o_move rfl) ?_
        refine l_val rfl (o_addi rfl rfl ?_) ?_
        · omega
        refine l_val rfl (o_assign rfl) ?_
        refine l_nil ?_
        refine kt_norm ?_
        refine ⟨(i + 1, v3), ⟨hil, by rw [edgesTo_succ, edgesAt_no hno, List.append_nil]; exact hv3⟩, (by show pc.length - (i + 1) < pc.length - i; omega), le_app (And.intro rfl (And.intro rfl (True.intro))) [0] rfl (And.intro (congrArg some (own_congr (by rw [edgesTo_succ, edgesAt_no hno, List.append_nil]) (by rw [edgesTo_succ, edgesAt_no hno, List.append_nil]))) (True.intro)) [] rfl⟩
    · skip
      refine l_nil ?_
      refine kt_norm ?_
      refine v_condF rfl ?_
      refine v_skip ?_
      refine kt_norm ?_
      refine v_seq ?_
      refine v_drawZ [[], [5], [], [6], [], [], [], [5], [], [], [6], [], [], []] mixed ?_ (by kernel_rfl) (by kernel_rfl)
      refine d_val (fun _ => rfl) rfl rfl (fun _ => o_fld rfl) ?_
      refine d_val (fun _ => rfl) rfl rfl (fun _ => o_load1 (key := 5) rfl rfl rfl) ?_
      refine d_val (fun _ => rfl) rfl rfl (fun _ => o_fld rfl) ?_
      refine d_val (fun _ => rfl) rfl rfl (fun _ => o_load1 (key := 6) rfl rfl rfl) ?_
      refine d_neq (fun _ => rfl) (fun _ => rfl) (fun _ => rfl) (fun q4 => ?_) (fun q4 => ?_)
      · skip
        refine d_val (fun _ => rfl) rfl rfl (fun _ => o_move rfl) ?_
        refine d_val (fun _ => rfl) rfl rfl (fun _ => o_fld rfl) ?_
        refine d_val (fun _ => rfl) rfl rfl (fun _ => o_load1 (key := 5) rfl rfl rfl) ?_
        refine d_ans (vs := [_]) (fun _ => rfl) (fun _ => rfl) (r_Row _ ?_) ?_
        · omega
        refine d_val (fun _ => rfl) rfl rfl (fun _ => o_fld rfl) ?_
        refine d_val (fun _ => rfl) rfl rfl (fun _ => o_load1 (key := 6) rfl rfl rfl) ?_
        refine d_ans (vs := [_]) (fun _ => rfl) (fun _ => rfl) (r_Row _ ?_) ?_
        · omega
        refine d_neq (fun _ => rfl) (fun _ => rfl) (fun _ => rfl) (fun q5 => ?_) (fun q5 => ?_)
        · skip
          refine d_val (fun _ => rfl) rfl rfl (fun _ => o_pickT rfl rfl) ?_
          refine d_nil (fun σ => ?_)
          refine l_nil ?_
          refine kt_norm ?_
          refine v_sel [4, 3, 0, 5, 6, 7, 50, 51, 52, 53, 54, 55, 56, 57] [5, 6, 82] rfl rfl ?_
          refine v_condT rfl ?_
          refine v_drawZ [[], [], [5], [], [5], [], [6], [], [5], [], [], [6], [], [5], [], [], [], [5], [], [], [6], [], [], []] mixed ?_ (by kernel_rfl) (by kernel_rfl)
          refine d_val (fun _ => rfl) rfl rfl (fun _ => o_move rfl) ?_
          refine d_val (fun _ => rfl) rfl rfl (fun _ => o_fld rfl) ?_
          refine d_val (fun _ => rfl) rfl rfl (fun _ => o_load1 (key := 5) rfl rfl rfl) ?_
          refine d_val (fun _ => rfl) rfl rfl (fun _ => o_fld rfl) ?_
          refine d_val (fun _ => rfl) rfl rfl (fun _ => o_load1 (key := 5) rfl rfl rfl) ?_
          refine d_val (fun _ => rfl) rfl rfl (fun _ => o_fld rfl) ?_
          refine d_val (fun _ => rfl) rfl rfl (fun _ => o_load1 (key := 6) rfl rfl rfl) ?_
          refine d_val (fun _ => rfl) rfl rfl (fun _ => o_fld rfl) ?_
          refine d_val (fun _ => rfl) rfl rfl (fun _ => o_load1 (key := 5) rfl rfl rfl) ?_
          refine d_val (fun _ => rfl) rfl rfl (fun _ => o_subi rfl rfl ?_) ?_
          · omega
          refine d_val (fun _ => rfl) rfl rfl (fun _ => o_fld rfl) ?_
          refine d_val (fun _ => rfl) rfl rfl (fun _ => o_load1 (key := 6) rfl rfl rfl) ?_
          refine d_val (fun _ => rfl) rfl rfl (fun _ => o_fld rfl) ?_
          refine d_val (fun _ => rfl) rfl rfl (fun _ => o_load1 (key := 5) rfl rfl rfl) ?_
          refine d_val (fun _ => rfl) rfl rfl (fun _ => o_subi rfl rfl ?_) ?_
          · omega
          refine d_val (fun _ => rfl) rfl rfl (fun _ => o_move rfl) ?_
          refine d_val (fun _ => rfl) rfl rfl (fun _ => o_fld rfl) ?_
          refine d_val (fun _ => rfl) rfl rfl (fun _ => o_load1 (key := 5) rfl rfl rfl) ?_
          refine d_ans (vs := [_]) (fun _ => rfl) (fun _ => rfl) (r_Row _ ?_) ?_
          · omega
          refine d_val (fun _ => rfl) rfl rfl (fun _ => o_fld rfl) ?_
          refine d_val (fun _ => rfl) rfl rfl (fun _ => o_load1 (key := 6) rfl rfl rfl) ?_
          refine d_ans (vs := [_]) (fun _ => rfl) (fun _ => rfl) (r_Row _ ?_) ?_
          · omega
          refine d_val (fun _ => rfl) rfl rfl (fun _ => o_build (vs := [_, _, _, _, _, _, _]) (cs := [_, _, _, _, _, _, _]) rfl rfl) ?_
          refine d_newS (fun _ => rfl) rfl rfl (fun _ => o_bs (vs := [_]) (cs := [_, _, _, _, _, _, _]) rfl rfl rfl rfl) ?_
          refine d_nil (fun σ => ?_)
          refine l_toOwn 81 [5, 6, 82] (n := 1) 7 rfl rfl rfl rfl rfl rfl ?_
          refine l_append 82 [5, 6, 81] rfl rfl rfl rfl rfl rfl rfl (.inl ⟨_, _, _, rfl⟩) (row_own (key := 81) rfl) (by have := edgesTo_len pc i; omega) fun v82 hv82 => ?_
          refine l_val rfl (o_assign rfl) ?_
          refine l_nil ?_
          refine kb_norm ?_
          refine kt_norm ?_
          refine v_sel [4, 3, 0, 50, 51, 52, 53, 54, 55, 56] [5, 6, 82] rfl rfl ?_
          refine v_region ?_
          have hgo : (edgeOf (pc.getD i dP) (pc.getD ((i + 1) % pc.length) dP)).fr < (edgeOf (pc.getD i dP) (pc.getD ((i + 1) % pc.length) dP)).to := by rw [edgeOf_ge h84]; dsimp only; omega
          refine l_val rfl (o_move rfl) ?_
          refine l_val rfl (o_addi rfl rfl ?_) ?_
          · omega
          refine l_val rfl (o_assign rfl) ?_
          refine l_nil ?_
          refine kt_norm ?_
          refine ⟨(i + 1, v82), ⟨hil, by rw [edgesTo_succ, edgesAt_yes hgo, List.length_append]; exact hv82⟩, (by show pc.length - (i + 1) < pc.length - i; omega), le_app (And.intro rfl (And.intro rfl (True.intro))) [0] rfl (And.intro (congrArg some (own_congr (by rw [edgesTo_succ, edgesAt_yes hgo, List.length_append]; rfl) (by rw [edgesTo_succ, edgesAt_yes hgo, List.flatMap_append, edgeOf_ge h84]; simp [eE]))) (True.intro)) [] rfl⟩
        · skip
          refine d_val (fun _ => rfl) rfl rfl (fun _ => o_pickT rfl rfl) ?_
          refine d_nil (fun σ => ?_)
          refine l_nil ?_
          refine kt_norm ?_
          refine v_sel [4, 3, 0, 5, 6, 7, 50, 51, 52, 53, 54, 55, 56, 57] [5, 6, 82] rfl rfl ?_
          refine v_condF rfl ?_
          refine v_skip ?_
          refine kb_norm ?_
          refine kt_norm ?_
          refine v_region ?_
          have hno : ¬ (edgeOf (pc.getD i dP) (pc.getD ((i + 1) % pc.length) dP)).fr < (edgeOf (pc.getD i dP) (pc.getD ((i + 1) % pc.length) dP)).to := by rw [edgeOf_ge h84]; dsimp only; omega
          refine l_val rfl (o_move rfl) ?_
          refine l_val rfl (o_addi rfl rfl ?_) ?_
          · omega
          refine l_val rfl (o_assign rfl) ?_
          refine l_nil ?_
          refine kt_norm ?_
          refine ⟨(i + 1, v3), ⟨hil, by rw [edgesTo_succ, edgesAt_no hno, List.append_nil]; exact hv3⟩, (by show pc.length - (i + 1) < pc.length - i; omega), le_app (And.intro rfl (And.intro rfl (True.intro))) [0] rfl (And.intro (congrArg some (own_congr (by rw [edgesTo_succ, edgesAt_no hno, List.append_nil]) (by rw [edgesTo_succ, edgesAt_no hno, List.append_nil]))) (True.intro)) [] rfl⟩
      · skip
        refine d_val (fun _ => rfl) rfl rfl (fun _ => o_move rfl) ?_
        refine d_no (fun _ => rfl) ?_
        refine d_no (fun _ => rfl) ?_
        refine d_no (fun _ => rfl) ?_
        refine d_no (fun _ => rfl) ?_
        refine d_no (fun _ => rfl) ?_
        refine d_no (fun _ => rfl) ?_
        refine d_no (fun _ => rfl) ?_
        refine d_val (fun _ => rfl) rfl rfl (fun _ => o_pickF rfl rfl) ?_
        refine d_nil (fun σ => ?_)
        refine l_nil ?_
        refine kt_norm ?_
        refine v_sel [4, 3, 0, 5, 6, 7, 50, 51, 52, 53, 54, 55, 56, 57] [5, 6, 82] rfl rfl ?_
        refine v_condF rfl ?_
        refine v_skip ?_
        refine kb_norm ?_
        refine kt_norm ?_
        refine v_region ?_
        have hno : ¬ (edgeOf (pc.getD i dP) (pc.getD ((i + 1) % pc.length) dP)).fr < (edgeOf (pc.getD i dP) (pc.getD ((i + 1) % pc.length) dP)).to := by rw [edgeOf_ge h84]; dsimp only; omega
        refine l_val rfl (o_move rfl) ?_
        refine l_val rfl (o_addi rfl rfl ?_) ?_
        · omega
        refine l_val rfl (o_assign rfl) ?_
        refine l_nil ?_
        refine kt_norm ?_
        refine ⟨(i + 1, v3), ⟨hil, by rw [edgesTo_succ, edgesAt_no hno, List.append_nil]; exact hv3⟩, (by show pc.length - (i + 1) < pc.length - i; omega), le_app (And.intro rfl (And.intro rfl (True.intro))) [0] rfl (And.intro (congrArg some (own_congr (by rw [edgesTo_succ, edgesAt_no hno, List.append_nil]) (by rw [edgesTo_succ, edgesAt_no hno, List.append_nil]))) (True.intro)) [] rfl⟩
  · skip
    refine l_nil ?_
    refine kt_norm ?_
    refine v_condF rfl ?_
    refine v_exit ?_
    refine kt_exit ?_
    refine kt_exit ?_
    refine kb_eq ?_
    refine kt_norm ?_
    refine v_sel [3] [82] rfl rfl ?_
    refine v_seq ?_
    refine v_region ?_
    obtain rfl : i = pc.length := by omega
    refine l_val rfl (o_move rfl) ?_
    refine l_val rfl (o_assign rfl) ?_
    refine l_nil ?_
    refine kt_norm ?_
    refine v_ret ?_
    refine ⟨[_], .cons (.tmp rfl) (ResAll.nil), ?_⟩
    exact ⟨82, rfl⟩
def tabT (X Y W H : Int) (ps : List (List PtT)) : List EdgeT := if ViewOk X Y W H then stSort (viewEs (16 * Y) (16 * (Y + H)) (edgesAll ps)) else []
theorem tabT_len {X Y W H : Int} {ps : List (List PtT)} (hb : Bnd ps) : (tabT X Y W H ps).length ≤ 320 := by
  unfold tabT
  split
  · rw [stSort_len]; exact Nat.le_trans (viewEs_len _ _ _) (edgesAll_len hb)
  · exact Nat.zero_le _
theorem a_TableT (w : World) (v : Value) (pvs : List Value) (ps : List (List PtT)) (X Y W H : Int) (hb : Bnd ps) (hv : PcsV v pvs ps) (hat : PcsAt w v pvs ps) :
    Calls Tryz.prog 24 #[v, .agg #[.int .i64 X, .int .i64 Y, .int .i64 W, .int .i64 H]] w fun e w' => ∃ y, e = .returned y ∧ Below w.heap.size w w' ∧ OwnAt w.heap.size w' y 66 7 (tabT X Y W H ps).length ((tabT X Y W H ps).flatMap eE) := by
  unfold tabT
  by_cases hvw : ViewOk X Y W H
  · rw [if_pos hvw]
    obtain ⟨a0, c0, rfl⟩ := hv.V.sl
    refine (a_Table w a0 ps.length c0 pvs ps X Y W H hb hv hat hvw).mono ?_
    rintro e w' ⟨y, es, rfl, hS, h1, h2⟩
    have := srtQ_stSort hS
    subst this
    exact ⟨y, rfl, h1, by rw [stSort_len]; exact h2⟩
  · rw [if_neg hvw]
    exact a_TableN w v X Y W H hvw
/-- what the document's loop holds: of the first edges -/
def docT (X Y W H : Int) (es : List EdgeT) : List EdgeT := stSort (viewEs (16 * Y) (16 * (Y + H)) es)
theorem docT_yes {X Y W H : Int} {es : List EdgeT} {e : EdgeT} (h : (cutE (16 * Y) (16 * (Y + H)) e).fr < (cutE (16 * Y) (16 * (Y + H)) e).to) : docT X Y W H (es ++ [e]) = insS (cutE (16 * Y) (16 * (Y + H)) e) (docT X Y W H es) := by
  unfold docT; rw [viewEs_snoc, if_pos h, stSort_snoc]
theorem docT_no {X Y W H : Int} {es : List EdgeT} {e : EdgeT} (h : ¬ (cutE (16 * Y) (16 * (Y + H)) e).fr < (cutE (16 * Y) (16 * (Y + H)) e).to) : docT X Y W H (es ++ [e]) = docT X Y W H es := by
  unfold docT; rw [viewEs_snoc, if_neg h, List.append_nil]
theorem docT_len {X Y W H : Int} {es : List EdgeT} : (docT X Y W H es).length ≤ es.length := by
  unfold docT; rw [stSort_len]; exact viewEs_len _ _ _
theorem all_split {ps : List (List PtT)} {i : Nat} (hi : i < ps.length) (k : Nat) : (edgesAll (ps.take i) ++ (edgesOf (ps.getD i [])).take k).length ≤ (edgesAll ps).length := by
  have h1 : edgesAll ps = edgesAll (ps.take (i + 1)) ++ edgesAll (ps.drop (i + 1)) := by
    unfold edgesAll; rw [← List.flatMap_append, List.take_append_drop]
  rw [h1, all_take_succ hi]
  simp only [List.length_append, List.length_take]
  omega
set_option maxHeartbeats 2000000 in
theorem r_TableY (w : World) (v : Value) (pvs : List Value) (ps : List (List PtT)) (X Y W H : Int) (hb : Bnd ps) (hv : PcsV v pvs ps) (hat : PcsAt w v pvs ps) (hvw : ViewOk X Y W H) :
    Calls Tryz.prog 29 #[v, .agg #[.int .i64 X, .int .i64 Y, .int .i64 W, .int .i64 H]] w fun e w' => ∃ y, e = .returned y ∧ Below w.heap.size w w' ∧ OwnAt w.heap.size w' y 101 7 (docT X Y W H (edgesAll ps)).length ((docT X Y W H (edgesAll ps)).flatMap eE) := by
  have vd := (viewOk_def X Y W H).1 hvw
  have hVp := hv.V
  have hlen := hv.len
  have hrowP : ∀ w', Chg (fun _ => False) w w' → RowAt w' v 1 ps.length pvs := fun w' h => (hat.keep h).row
  refine calls_own (args := [v, .agg #[.int .i64 X, .int .i64 Y, .int .i64 W, .int .i64 H]]) Tryz.func29 rfl Tryz.ntmps29 Tryz.results29 rfl ?_
  refine v_seq ?_
  refine v_region ?_
  refine l_new rfl (o_box (cs := [_, _, _, _]) rfl rfl) fun b3 => ?_
  refine l_val rfl (o_assign rfl) ?_
  refine l_nil ?_
  refine kt_norm ?_
  refine v_seq ?_
  refine v_region ?_
  refine l_buildSlice (vs := []) (cs := []) rfl rfl rfl rfl rfl rfl fun v13 hv13 => ?_
  refine l_val rfl (o_assign rfl) ?_
  refine l_nil ?_
  refine kt_norm ?_
  refine v_seq ?_
  refine v_seq ?_
  refine v_region ?_
  refine l_val rfl (o_loadW (key := 3) rfl rfl rfl) ?_
  refine l_ans (vs := [_]) rfl rfl ((show Ans Tryz.prog _ _ (.int .i64 0) by have := r_Check X Y W H; rwa [if_pos hvw] at this)) ?_
  refine l_split rfl (o_neq rfl rfl) (fun q1 => absurd q1 (by omega)) (fun q1 => ?_)
  refine l_nil ?_
  refine kt_norm ?_
  refine v_condF rfl ?_
  refine v_skip ?_
  refine kt_norm ?_
  refine v_sel [0, 3, 5] [3, 13] rfl rfl ?_
  refine v_seq ?_
  refine v_region ?_
  refine l_val rfl (o_fld rfl) ?_
  refine l_val rfl (o_load1 (key := 3) rfl rfl rfl) ?_
  refine l_val rfl (o_muli rfl rfl ?_) ?_
  · omega
  refine l_val rfl (o_assign rfl) ?_
  refine l_nil ?_
  refine kt_norm ?_
  refine v_seq ?_
  refine v_region ?_
  refine l_val rfl (o_fld rfl) ?_
  refine l_val rfl (o_load1 (key := 3) rfl rfl rfl) ?_
  refine l_val rfl (o_fld rfl) ?_
  refine l_val rfl (o_load1 (key := 3) rfl rfl rfl) ?_
  refine l_val rfl (o_addi rfl rfl ?_) ?_
  · omega
  refine l_val rfl (o_muli rfl rfl ?_) ?_
  · omega
  refine l_val rfl (o_assign rfl) ?_
  refine l_nil ?_
  refine kt_norm ?_
  refine v_sel [0, 5, 6, 7] [13] rfl rfl ?_
  refine v_seq ?_
  refine v_seq ?_
  refine v_region ?_
  refine l_val rfl (o_assign rfl) ?_
  refine l_nil ?_
  refine kt_norm ?_
  refine v_block ?_
  refine v_ren 13 2000 [] rfl rfl rfl ?_
  refine v_loopS (α := Nat × Value) (fun ⟨i, v5⟩ => [(8, .int .i64 (i : Int)), (5, v5)]) (fun ⟨i, v5⟩ => [(2000, Hp.own v5 101 7 (docT X Y W H (edgesAll (ps.take i))).length ((docT X Y W H (edgesAll (ps.take i))).flatMap eE))])  (fun ⟨i, v5⟩ => i ≤ ps.length ∧ RowV v5 (docT X Y W H (edgesAll (ps.take i))).length) (fun ⟨i, v5⟩ => ps.length - i) (0, v13) [0, 6, 7] [] ⟨Nat.zero_le _, hv13⟩  (And.intro rfl (And.intro rfl (True.intro))) rfl (And.intro rfl (True.intro)) rfl ?_
  rintro ⟨i, v5⟩ ⟨hi, hv5⟩
  refine v_seq ?_
  refine v_seq ?_
  refine v_region ?_
  refine l_val rfl (o_move rfl) ?_
  refine l_val rfl (o_move rfl) ?_
  refine l_val rfl (o_len rfl hVp) ?_
  refine l_split rfl (o_lss rfl rfl) (fun q2 => ?_) (fun q2 => ?_)
  · have hil : i < ps.length := by omega
    obtain ⟨pc, hpc⟩ : ∃ pc, ps.getD i [] = pc := ⟨_, rfl⟩
    have hVq := hv.pV i hil
    have hnear := hv.near i hil
    have hbi := (hb.2 i hil).1
    have hrowQ : ∀ w', Chg (fun _ => False) w w' → RowAt w' (pvs.getD i undef) 2 (ps.getD i []).length ((ps.getD i []).flatMap eP) := fun w' h => (hat.keep h).pc i hil
    rw [hpc] at hVq hnear hrowQ hbi
    refine l_nil ?_
    refine kt_norm ?_
    refine v_condT rfl ?_
    refine v_skip ?_
    refine kt_norm ?_
    refine v_seq ?_
    refine v_block ?_
    refine v_seq ?_
    refine v_region ?_
    refine l_val rfl (o_move rfl) ?_
    refine l_val rfl (o_move rfl) ?_
    refine l_val rfl (o_idx (i) rfl hVp rfl (by first | rfl | omega) (by omega)) ?_
    refine l_val rfl (o_loadR1 rfl (row_imm hrowP) (el_one (by rw [hv.lenv]; exact hil))) ?_
    refine l_gown (ks := []) (caps := #[]) (vs := [_]) rfl rfl (ent_of Tryz.func52 rfl rfl) rfl (fun w' hg hh => r_OfE w' (pvs.getD i undef) pc (by omega) hVq (hrowQ w' hg) hnear) fun of hof => ?_
    refine l_val rfl (o_assign rfl) ?_
    refine l_nil ?_
    refine kt_norm ?_
    refine v_sel [8, 5, 0, 6, 7, 9] [37, 2000] rfl rfl ?_
    refine v_seq ?_
    refine v_region ?_
    have hofl := edgesTo_len pc pc.length
    have hofe : (edgesTo pc pc.length).length = (edgesOf pc).length := rfl
    refine l_val rfl (o_assign rfl) ?_
    refine l_nil ?_
    refine kt_norm ?_
    refine v_block ?_
    refine v_loopS (α := Nat × Value) (fun ⟨k, v5⟩ => [(10, .int .i64 (k : Int)), (5, v5)]) (fun ⟨k, v5⟩ => [(2000, Hp.own v5 101 7 (docT X Y W H (edgesAll (ps.take i) ++ (edgesOf pc).take k)).length ((docT X Y W H (edgesAll (ps.take i) ++ (edgesOf pc).take k)).flatMap eE))])  (fun ⟨k, v5⟩ => k ≤ (edgesOf pc).length ∧ RowV v5 (docT X Y W H (edgesAll (ps.take i) ++ (edgesOf pc).take k)).length) (fun ⟨k, v5⟩ => (edgesOf pc).length - k) (0, v5) [8, 0, 6, 7, 9] [37] ⟨Nat.zero_le _, by rw [List.take_zero, List.append_nil]; exact hv5⟩  (And.intro rfl (And.intro rfl (True.intro))) rfl (And.intro (congrArg some (own_congr (by rw [List.take_zero, List.append_nil]) (by rw [List.take_zero, List.append_nil]))) (True.intro)) rfl ?_
    rintro ⟨k, v5⟩ ⟨hk, hv5⟩
    refine v_seq ?_
    refine v_seq ?_
    refine v_region ?_
    refine l_val rfl (o_move rfl) ?_
    refine l_val rfl (o_move rfl) ?_
    refine l_val rfl (o_len rfl hof) ?_
    refine l_split rfl (o_lss rfl rfl) (fun q3 => ?_) (fun q3 => ?_)
    · have hkl : k < (edgesOf pc).length := by omega
      have ho := edgeOk_getD hnear hkl
      have hlt := ho.lt
      have hall := all_split hil k
      rw [hpc] at hall
      have h320 := edgesAll_len hb
      have hgk : (edgesOf pc)[k] = (edgesOf pc).getD k dE := by rw [List.getD_eq_getElem?_getD, List.getElem?_eq_getElem hkl]; rfl
      have htk : (edgesAll (ps.take i) ++ (edgesOf pc).take (k + 1)) = (edgesAll (ps.take i) ++ (edgesOf pc).take k) ++ [(edgesOf pc).getD k dE] := by rw [List.take_add_one, List.getElem?_eq_getElem hkl, ← List.append_assoc, hgk]; rfl
      have hdl := docT_len (X := X) (Y := Y) (W := W) (H := H) (es := (edgesAll (ps.take i) ++ (edgesOf pc).take k))
      have hfk := ho.fr
      have hyk := ho.y
      have hrk := rowOf_def ((edgesOf pc).getD k dE).y
      refine l_nil ?_
      refine kt_norm ?_
      refine v_condT rfl ?_
      refine v_skip ?_
      refine kt_norm ?_
      refine v_seq ?_
      refine v_block ?_
      refine v_seq ?_
      refine v_region ?_
      refine l_val rfl (o_move rfl) ?_
      refine l_val rfl (o_move rfl) ?_
      refine l_val rfl (o_idx (k) rfl hof rfl (by first | rfl | omega) (by omega)) ?_
      refine l_val rfl (o_loadRE (c' := [_, _, _, _, _, _, _]) rfl (row_own (key := 37) rfl) (el_flat eE_len dE (edgesOf pc) (k) (by omega)) rfl) ?_
      refine l_new rfl o_alloc fun b11 => ?_
      refine l_store rfl (o_storeW (key := 11) (xs := [_, _, _, _, _, _, _]) rfl rfl rfl rfl rfl rfl rfl) ?_
      refine l_nil ?_
      refine kt_norm ?_
      refine v_sel [10, 5, 8, 0, 6, 7, 9, 11] [11, 37, 2000] rfl rfl ?_
      refine v_seq ?_
      refine v_seq ?_
      refine v_region ?_
      refine l_val rfl (o_fld rfl) ?_
      refine l_val rfl (o_load1 (key := 11) rfl rfl rfl) ?_
      refine l_val rfl (o_move rfl) ?_
      refine l_split rfl (o_geq rfl rfl) (fun q4 => ?_) (fun q4 => ?_)
      · skip
        refine l_val rfl (o_move rfl) ?_
        refine l_no rfl ?_
        refine l_no rfl ?_
        refine l_no rfl ?_
        refine l_no rfl ?_
        refine l_val rfl (o_pickT rfl rfl) ?_
        refine l_nil ?_
        refine kt_norm ?_
        refine v_condT rfl ?_
        refine v_exit ?_
        refine kt_exit ?_
        refine kb_eq ?_
        refine kt_norm ?_
        refine v_sel [10, 5, 8, 0, 6, 7, 9, 53, 54, 55, 56] [37, 2000] rfl rfl ?_
        refine v_region ?_
        have hout : ¬ (cutE (16 * Y) (16 * (Y + H)) ((edgesOf pc).getD k dE)).fr < (cutE (16 * Y) (16 * (Y + H)) ((edgesOf pc).getD k dE)).to := by rw [cutE_fr, cutE_to]; split <;> split <;> omega
        refine l_val rfl (o_move rfl) ?_
        refine l_val rfl (o_addi rfl rfl ?_) ?_
        · omega
        refine l_val rfl (o_assign rfl) ?_
        refine l_nil ?_
        refine kt_norm ?_
        refine ⟨(k + 1, v5), ⟨hkl, by rw [htk, docT_no hout]; exact hv5⟩, (by show (edgesOf pc).length - (k + 1) < (edgesOf pc).length - k; omega), le_app (And.intro rfl (And.intro rfl (True.intro))) [8, 0, 6, 7, 9] rfl (And.intro (congrArg some (own_congr (by rw [htk, docT_no hout]) (by rw [htk, docT_no hout]))) (True.intro)) [37] rfl⟩
      · skip
        refine l_val rfl (o_move rfl) ?_
        refine l_val rfl (o_fld rfl) ?_
        refine l_val rfl (o_load1 (key := 11) rfl rfl rfl) ?_
        refine l_val rfl (o_move rfl) ?_
        refine l_split rfl (o_leq rfl rfl) (fun q5 => ?_) (fun q5 => ?_)
        · skip
          refine l_val rfl (o_pickF rfl rfl) ?_
          refine l_nil ?_
          refine kt_norm ?_
          refine v_condT rfl ?_
          refine v_exit ?_
          refine kt_exit ?_
          refine kb_eq ?_
          refine kt_norm ?_
          refine v_sel [10, 5, 8, 0, 6, 7, 9, 53, 54, 55, 56] [11, 37, 2000] rfl rfl ?_
          refine v_region ?_
          have hout : ¬ (cutE (16 * Y) (16 * (Y + H)) ((edgesOf pc).getD k dE)).fr < (cutE (16 * Y) (16 * (Y + H)) ((edgesOf pc).getD k dE)).to := by rw [cutE_fr, cutE_to]; split <;> split <;> omega
          refine l_val rfl (o_move rfl) ?_
          refine l_val rfl (o_addi rfl rfl ?_) ?_
          · omega
          refine l_val rfl (o_assign rfl) ?_
          refine l_nil ?_
          refine kt_norm ?_
          refine ⟨(k + 1, v5), ⟨hkl, by rw [htk, docT_no hout]; exact hv5⟩, (by show (edgesOf pc).length - (k + 1) < (edgesOf pc).length - k; omega), le_app (And.intro rfl (And.intro rfl (True.intro))) [8, 0, 6, 7, 9] rfl (And.intro (congrArg some (own_congr (by rw [htk, docT_no hout]) (by rw [htk, docT_no hout]))) (True.intro)) [37] rfl⟩
        · skip
          refine l_val rfl (o_pickF rfl rfl) ?_
          refine l_nil ?_
          refine kt_norm ?_
          refine v_condF rfl ?_
          refine v_skip ?_
          refine kt_norm ?_
          refine v_sel [10, 5, 8, 0, 6, 7, 9, 11, 53, 54, 55, 56] [11, 37, 2000] rfl rfl ?_
          refine v_seq ?_
          refine v_region ?_
          refine l_val rfl (o_fld rfl) ?_
          refine l_val rfl (o_load1 (key := 11) rfl rfl rfl) ?_
          refine l_val rfl (o_move rfl) ?_
          refine l_val rfl (o_max rfl rfl) ?_
          refine l_val rfl (o_fld rfl) ?_
          refine l_store rfl (o_store1 (key := 11) (rs := [_, _, _, _, _, _, _]) rfl rfl rfl rfl rfl rfl rfl) ?_
          refine l_nil ?_
          refine kt_norm ?_
          refine v_seq ?_
          refine v_region ?_
          refine l_val rfl (o_fld rfl) ?_
          refine l_val rfl (o_load1 (key := 11) rfl rfl rfl) ?_
          refine l_val rfl (o_move rfl) ?_
          refine l_val rfl (o_min rfl rfl) ?_
          refine l_val rfl (o_fld rfl) ?_
          refine l_store rfl (o_store1 (key := 11) (rs := [_, _, _, _, _, _, _]) rfl rfl rfl rfl rfl rfl rfl) ?_
          refine l_nil ?_
          refine kt_norm ?_
          refine v_sel [10, 5, 8, 0, 6, 7, 9, 11, 53, 54, 55, 56] [11, 37, 2000] rfl rfl ?_
          refine v_seq ?_
          refine v_region ?_
          refine l_val rfl (o_assign rfl) ?_
          refine l_nil ?_
          refine kt_norm ?_
          refine v_seq ?_
          refine v_block ?_
          refine v_loopS (α := Nat) (fun at_ => [(12, .int .i64 (at_ : Int))]) (fun at_ => [])  (fun at_ => at_ ≤ (docT X Y W H (edgesAll (ps.take i) ++ (edgesOf pc).take k)).length ∧ ∀ j, j < at_ → ((docT X Y W H (edgesAll (ps.take i) ++ (edgesOf pc).take k)).getD j dE).fr ≤ (cutE (16 * Y) (16 * (Y + H)) ((edgesOf pc).getD k dE)).fr) (fun at_ => (docT X Y W H (edgesAll (ps.take i) ++ (edgesOf pc).take k)).length - at_) 0 [10, 5, 8, 0, 6, 7, 9, 11, 53, 54, 55, 56] [11, 37, 2000] ⟨Nat.zero_le _, fun j h => by omega⟩  (And.intro rfl (True.intro)) rfl (True.intro) rfl ?_
          rintro at_ ⟨hat_, hB⟩
          refine v_seq ?_
          refine v_seq ?_
          refine v_drawZ [[], [], [], [], [], [], [], [], [], [2000], [], [11], [], []] mixed ?_ (by kernel_rfl) (by kernel_rfl)
          refine d_val (fun _ => rfl) rfl rfl (fun _ => o_move rfl) ?_
          refine d_val (fun _ => rfl) rfl rfl (fun _ => o_move rfl) ?_
          refine d_val (fun _ => rfl) rfl rfl (fun _ => o_len rfl hv5) ?_
          refine d_lss (fun _ => rfl) (fun _ => rfl) (fun _ => rfl) (fun q6 => ?_) (fun q6 => ?_)
          · skip
            refine d_val (fun _ => rfl) rfl rfl (fun _ => o_move rfl) ?_
            refine d_val (fun _ => rfl) rfl rfl (fun _ => o_move rfl) ?_
            refine d_val (fun _ => rfl) rfl rfl (fun _ => o_move rfl) ?_
            refine d_val (fun _ => rfl) rfl rfl (fun _ => o_idx (at_) rfl hv5 rfl (by first | rfl | omega) (by omega)) ?_
            refine d_val (fun _ => rfl) rfl rfl (fun _ => o_fld rfl) ?_
            refine d_val (fun _ => rfl) rfl rfl (fun _ => o_loadRF (f := 5) rfl (row_own (key := 2000) rfl) (el_flat eE_len dE (docT X Y W H (edgesAll (ps.take i) ++ (edgesOf pc).take k)) (at_) (by omega)) rfl) ?_
            refine d_val (fun _ => rfl) rfl rfl (fun _ => o_fld rfl) ?_
            refine d_val (fun _ => rfl) rfl rfl (fun _ => o_load1 (key := 11) rfl rfl rfl) ?_
            refine d_leq (fun _ => rfl) (fun _ => rfl) (fun _ => rfl) (fun h1812 => ?_) (fun h1812 => ?_)
            · skip
              refine d_val (fun _ => rfl) rfl rfl (fun _ => o_pickT rfl rfl) ?_
              refine d_nil (fun σ => ?_)
              refine l_nil ?_
              refine kt_norm ?_
              refine v_condT rfl ?_
              refine v_skip ?_
              refine kt_norm ?_
              refine v_sel [12, 10, 5, 8, 0, 6, 7, 9, 11, 53, 54, 55, 56, 73, 74, 75, 76, 77, 78, 79, 80] [11, 37, 2000] rfl rfl ?_
              refine v_block ?_
              refine v_region ?_
              refine l_val rfl (o_move rfl) ?_
              refine l_val rfl (o_addi rfl rfl ?_) ?_
              · omega
              refine l_val rfl (o_assign rfl) ?_
              refine l_nil ?_
              refine kb_norm ?_
              refine kt_norm ?_
              refine ⟨at_ + 1, ⟨by omega, fun j hj => by rcases Nat.lt_or_eq_of_le (Nat.le_of_lt_succ hj) with h | h; exact hB j h; subst h; exact h1812⟩, by omega, le_app (And.intro rfl (True.intro)) [10, 5, 8, 0, 6, 7, 9, 11, 53, 54, 55, 56] rfl (True.intro) [11, 37, 2000] rfl⟩
            · skip
              refine d_val (fun _ => rfl) rfl rfl (fun _ => o_pickT rfl rfl) ?_
              refine d_nil (fun σ => ?_)
              refine l_nil ?_
              refine kt_norm ?_
              refine v_condF rfl ?_
              refine v_exit ?_
              refine kt_exit ?_
              refine kt_exit ?_
              refine kb_eq ?_
              refine kt_norm ?_
              refine v_sel [12, 10, 5, 8, 0, 6, 7, 9, 11, 53, 54, 55, 56, 73, 74, 75, 76, 77, 78, 79, 80] [11, 37, 2000] rfl rfl ?_
              refine v_drawW [(88, 0 + at_), (91, 0 + at_ + 1), (95, 0 + at_ + 1 + ((docT X Y W H (edgesAll (ps.take i) ++ (edgesOf pc).take k)).length - at_))] [[], [], [], [2000], [84, 2000], [11], [], [84, 90], [], [], [], [84, 2000], []] mixed ?_ (by kernel_rfl) (by kernel_rfl)
              have hC : at_ < (docT X Y W H (edgesAll (ps.take i) ++ (edgesOf pc).take k)).length → ¬ ((docT X Y W H (edgesAll (ps.take i) ++ (edgesOf pc).take k)).getD at_ dE).fr ≤ (cutE (16 * Y) (16 * (Y + H)) ((edgesOf pc).getD k dE)).fr := fun h => by first | (exfalso; omega) | exact h1812
              refine d_bsO (n := 0) (vs := fun _ => []) (cs := fun _ => []) (fun _ => rfl) (fun _ => rfl) (fun _ => rfl) rfl rfl (fun _ => rfl) (fun _ => rfl) ?_
              refine d_val (fun _ => rfl) rfl rfl (fun σ20 => o_move rfl) ?_
              refine d_val (fun _ => rfl) rfl rfl (fun σ20 => o_move rfl) ?_
              refine d_val (fun _ => rfl) rfl rfl (fun _ => o_sliceTo (key := 2000) at_ rfl rfl rfl rfl (by omega)) ?_
              refine d_app 84 (n := 0) (mm := at_) (κ := [2000]) (fun _ => rfl) (fun _ => rfl) (fun _ => rfl) (fun _ => rfl) rfl (fun σ20 => rowV_to hv5 (by omega)) (fun σ20 => row_to (key := 2000) rfl (by omega)) (by omega) (fun _ h => h) ?_
              refine d_val (fun _ => rfl) rfl rfl (fun σ20 => o_loadW (key := 11) rfl rfl rfl) ?_
              refine d_bsO (n := 1) (vs := fun _ => [_]) (cs := fun _ => [_, _, _, _, _, _, _]) (fun _ => rfl) (fun _ => rfl) (fun _ => rfl) rfl rfl (fun _ => rfl) (fun _ => rfl) ?_
              refine d_app 84 (n := 0 + at_) (mm := 1) (κ := [90]) (fun _ => rfl) (fun _ => rfl) (fun _ => rfl) (fun _ => rfl) rfl (fun σ20 => .inl ⟨_, _, _, rfl⟩) (fun σ20 => row_own (key := 90) rfl) (by omega) (fun _ h => h) ?_
              refine d_val (fun _ => rfl) rfl rfl (fun σ20 => o_move rfl) ?_
              refine d_val (fun _ => rfl) rfl rfl (fun σ20 => o_move rfl) ?_
              refine d_val (fun _ => rfl) rfl rfl (fun _ => o_sliceFrom (lo := at_) rfl hv5 rfl rfl (by omega)) ?_
              refine d_app 84 (n := 0 + at_ + 1) (mm := (docT X Y W H (edgesAll (ps.take i) ++ (edgesOf pc).take k)).length - at_) (κ := [2000]) (fun _ => rfl) (fun _ => rfl) (fun _ => rfl) (fun _ => rfl) rfl (fun σ20 => rowV_from hv5 (by omega)) (fun σ20 => row_from (key := 2000) rfl (by omega)) (by omega) (fun _ h => h) ?_
              refine d_val (fun _ => rfl) rfl rfl (fun σ20 => o_assign rfl) ?_
              refine d_nil (fun σ20 => ?_)
              refine l_nil ?_
              refine kb_norm ?_
              refine kt_norm ?_
              refine v_sel [10, 5, 8, 0, 6, 7, 9, 53, 54, 55, 56, 73, 74, 75, 76, 77, 78, 79, 80] [11, 37, 84, 2000] rfl rfl ?_
              refine v_region ?_
              have hin : (cutE (16 * Y) (16 * (Y + H)) ((edgesOf pc).getD k dE)).fr < (cutE (16 * Y) (16 * (Y + H)) ((edgesOf pc).getD k dE)).to := by rw [cutE_fr, cutE_to]; split <;> split <;> omega
              refine l_ren 84 2000 [11, 37] rfl rfl rfl ?_
              refine l_val rfl (o_move rfl) ?_
              refine l_val rfl (o_addi rfl rfl ?_) ?_
              · omega
              refine l_val rfl (o_assign rfl) ?_
              refine l_nil ?_
              refine kt_norm ?_
              refine ⟨(k + 1, σ20.v 95), ⟨hkl, by rw [htk, docT_yes hin, insS_len]; exact RowV.to (show RowV (σ20.v 95) (0 + at_ + 1 + ((docT X Y W H (edgesAll (ps.take i) ++ (edgesOf pc).take k)).length - at_)) from σ20.ok 95) (by omega)⟩, (by show (edgesOf pc).length - (k + 1) < (edgesOf pc).length - k; omega), le_app (And.intro rfl (And.intro rfl (True.intro))) [8, 0, 6, 7, 9] rfl (And.intro (congrArg some (own_congr (by rw [htk, docT_yes hin, insS_len]; omega) (by rw [htk, docT_yes hin]; exact ins_flat (by omega) hB (fun h => by omega)))) (True.intro)) [37] rfl⟩
          · skip
            refine d_val (fun _ => rfl) rfl rfl (fun _ => o_move rfl) ?_
            refine d_no (fun _ => rfl) ?_
            refine d_no (fun _ => rfl) ?_
            refine d_no (fun _ => rfl) ?_
            refine d_no (fun _ => rfl) ?_
            refine d_no (fun _ => rfl) ?_
            refine d_no (fun _ => rfl) ?_
            refine d_no (fun _ => rfl) ?_
            refine d_no (fun _ => rfl) ?_
            refine d_val (fun _ => rfl) rfl rfl (fun _ => o_pickF rfl rfl) ?_
            refine d_nil (fun σ => ?_)
            refine l_nil ?_
            refine kt_norm ?_
            refine v_condF rfl ?_
            refine v_exit ?_
            refine kt_exit ?_
            refine kt_exit ?_
            refine kb_eq ?_
            refine kt_norm ?_
            refine v_sel [12, 10, 5, 8, 0, 6, 7, 9, 11, 53, 54, 55, 56, 73, 74, 75, 76, 77, 78, 79, 80] [11, 37, 2000] rfl rfl ?_
            refine v_drawW [(88, 0 + at_), (91, 0 + at_ + 1), (95, 0 + at_ + 1 + ((docT X Y W H (edgesAll (ps.take i) ++ (edgesOf pc).take k)).length - at_))] [[], [], [], [2000], [84, 2000], [11], [], [84, 90], [], [], [], [84, 2000], []] mixed ?_ (by kernel_rfl) (by kernel_rfl)
            have hC : at_ < (docT X Y W H (edgesAll (ps.take i) ++ (edgesOf pc).take k)).length → ¬ ((docT X Y W H (edgesAll (ps.take i) ++ (edgesOf pc).take k)).getD at_ dE).fr ≤ (cutE (16 * Y) (16 * (Y + H)) ((edgesOf pc).getD k dE)).fr := fun h => by first | (exfalso; omega) | exact h1812
            refine d_bsO (n := 0) (vs := fun _ => []) (cs := fun _ => []) (fun _ => rfl) (fun _ => rfl) (fun _ => rfl) rfl rfl (fun _ => rfl) (fun _ => rfl) ?_
            refine d_val (fun _ => rfl) rfl rfl (fun σ20 => o_move rfl) ?_
            refine d_val (fun _ => rfl) rfl rfl (fun σ20 => o_move rfl) ?_
            refine d_val (fun _ => rfl) rfl rfl (fun _ => o_sliceTo (key := 2000) at_ rfl rfl rfl rfl (by omega)) ?_
            refine d_app 84 (n := 0) (mm := at_) (κ := [2000]) (fun _ => rfl) (fun _ => rfl) (fun _ => rfl) (fun _ => rfl) rfl (fun σ20 => rowV_to hv5 (by omega)) (fun σ20 => row_to (key := 2000) rfl (by omega)) (by omega) (fun _ h => h) ?_
            refine d_val (fun _ => rfl) rfl rfl (fun σ20 => o_loadW (key := 11) rfl rfl rfl) ?_
            refine d_bsO (n := 1) (vs := fun _ => [_]) (cs := fun _ => [_, _, _, _, _, _, _]) (fun _ => rfl) (fun _ => rfl) (fun _ => rfl) rfl rfl (fun _ => rfl) (fun _ => rfl) ?_
            refine d_app 84 (n := 0 + at_) (mm := 1) (κ := [90]) (fun _ => rfl) (fun _ => rfl) (fun _ => rfl) (fun _ => rfl) rfl (fun σ20 => .inl ⟨_, _, _, rfl⟩) (fun σ20 => row_own (key := 90) rfl) (by omega) (fun _ h => h) ?_
            refine d_val (fun _ => rfl) rfl rfl (fun σ20 => o_move rfl) ?_
            refine d_val (fun _ => rfl) rfl rfl (fun σ20 => o_move rfl) ?_
            refine d_val (fun _ => rfl) rfl rfl (fun _ => o_sliceFrom (lo := at_) rfl hv5 rfl rfl (by omega)) ?_
            refine d_app 84 (n := 0 + at_ + 1) (mm := (docT X Y W H (edgesAll (ps.take i) ++ (edgesOf pc).take k)).length - at_) (κ := [2000]) (fun _ => rfl) (fun _ => rfl) (fun _ => rfl) (fun _ => rfl) rfl (fun σ20 => rowV_from hv5 (by omega)) (fun σ20 => row_from (key := 2000) rfl (by omega)) (by omega) (fun _ h => h) ?_
            refine d_val (fun _ => rfl) rfl rfl (fun σ20 => o_assign rfl) ?_
            refine d_nil (fun σ20 => ?_)
            refine l_nil ?_
            refine kb_norm ?_
            refine kt_norm ?_
            refine v_sel [10, 5, 8, 0, 6, 7, 9, 53, 54, 55, 56, 73, 74, 75, 76, 77, 78, 79, 80] [11, 37, 84, 2000] rfl rfl ?_
            refine v_region ?_
            have hin : (cutE (16 * Y) (16 * (Y + H)) ((edgesOf pc).getD k dE)).fr < (cutE (16 * Y) (16 * (Y + H)) ((edgesOf pc).getD k dE)).to := by rw [cutE_fr, cutE_to]; split <;> split <;> omega
            refine l_ren 84 2000 [11, 37] rfl rfl rfl ?_
            refine l_val rfl (o_move rfl) ?_
            refine l_val rfl (o_addi rfl rfl ?_) ?_
            · omega
            refine l_val rfl (o_assign rfl) ?_
            refine l_nil ?_
            refine kt_norm ?_
            refine ⟨(k + 1, σ20.v 95), ⟨hkl, by rw [htk, docT_yes hin, insS_len]; exact RowV.to (show RowV (σ20.v 95) (0 + at_ + 1 + ((docT X Y W H (edgesAll (ps.take i) ++ (edgesOf pc).take k)).length - at_)) from σ20.ok 95) (by omega)⟩, (by show (edgesOf pc).length - (k + 1) < (edgesOf pc).length - k; omega), le_app (And.intro rfl (And.intro rfl (True.intro))) [8, 0, 6, 7, 9] rfl (And.intro (congrArg some (own_congr (by rw [htk, docT_yes hin, insS_len]; omega) (by rw [htk, docT_yes hin]; exact ins_flat (by omega) hB (fun h => by omega)))) (True.intro)) [37] rfl⟩
    · skip
      refine l_nil ?_
      refine kt_norm ?_
      refine v_condF rfl ?_
      refine v_exit ?_
      refine kt_exit ?_
      refine kt_exit ?_
      refine kb_eq ?_
      refine kb_norm ?_
      refine kt_norm ?_
      refine v_sel [5, 8, 0, 6, 7] [2000] rfl rfl ?_
      refine v_region ?_
      have hkk : (edgesOf pc).take k = edgesOf pc := List.take_of_length_le (by omega)
      refine l_val rfl (o_move rfl) ?_
      refine l_val rfl (o_addi rfl rfl ?_) ?_
      · omega
      refine l_val rfl (o_assign rfl) ?_
      refine l_nil ?_
      refine kt_norm ?_
      refine ⟨(i + 1, v5), ⟨hil, by rw [all_take_succ hil, hpc]; rw [hkk] at hv5; exact hv5⟩, (by show ps.length - (i + 1) < ps.length - i; omega), le_app (And.intro rfl (And.intro rfl (True.intro))) [0, 6, 7] rfl (And.intro (congrArg some (own_congr (by rw [all_take_succ hil, hpc, hkk]) (by rw [all_take_succ hil, hpc, hkk]))) (True.intro)) [] rfl⟩
  · skip
    refine l_nil ?_
    refine kt_norm ?_
    refine v_condF rfl ?_
    refine v_exit ?_
    refine kt_exit ?_
    refine kt_exit ?_
    refine kb_eq ?_
    refine kt_norm ?_
    refine v_sel [5] [2000] rfl rfl ?_
    refine v_seq ?_
    refine v_region ?_
    obtain rfl : i = ps.length := by omega
    refine l_val rfl (o_move rfl) ?_
    refine l_val rfl (o_assign rfl) ?_
    refine l_nil ?_
    refine kt_norm ?_
    refine v_ret ?_
    refine ⟨[_], .cons (.tmp rfl) (ResAll.nil), ?_⟩
    exact ⟨2000, congrArg some (own_congr (by rw [List.take_length]) (by rw [List.take_length]))⟩
theorem r_TableN (w : World) (v : Value) (X Y W H : Int) (hvw : ¬ ViewOk X Y W H) :
    Calls Tryz.prog 29 #[v, .agg #[.int .i64 X, .int .i64 Y, .int .i64 W, .int .i64 H]] w fun e w' => ∃ y, e = .returned y ∧ Below w.heap.size w w' ∧ OwnAt w.heap.size w' y 101 7 0 [] := by
  refine calls_own (args := [v, .agg #[.int .i64 X, .int .i64 Y, .int .i64 W, .int .i64 H]]) Tryz.func29 rfl Tryz.ntmps29 Tryz.results29 rfl ?_
  refine v_seq ?_
  refine v_region ?_
  refine l_new rfl (o_box (cs := [_, _, _, _]) rfl rfl) fun b3 => ?_
  refine l_val rfl (o_assign rfl) ?_
  refine l_nil ?_
  refine kt_norm ?_
  refine v_seq ?_
  refine v_region ?_
  refine l_buildSlice (vs := []) (cs := []) rfl rfl rfl rfl rfl rfl fun v13 hv13 => ?_
  refine l_val rfl (o_assign rfl) ?_
  refine l_nil ?_
  refine kt_norm ?_
  refine v_seq ?_
  refine v_seq ?_
  refine v_region ?_
  refine l_val rfl (o_loadW (key := 3) rfl rfl rfl) ?_
  refine l_ans (vs := [_]) rfl rfl ((show Ans Tryz.prog _ _ (.int .i64 190) by have := r_Check X Y W H; rwa [if_neg hvw] at this)) ?_
  refine l_split rfl (o_neq rfl rfl) (fun q1 => ?_) (fun q1 => absurd (show _ by omega) q1)
  refine l_nil ?_
  refine kt_norm ?_
  refine v_condT rfl ?_
  refine v_seq ?_
  refine v_region ?_
  refine l_val rfl (o_move rfl) ?_
  refine l_val rfl (o_assign rfl) ?_
  refine l_nil ?_
  refine kt_norm ?_
  refine v_sel [4] [13] rfl rfl ?_
  refine v_ret ?_
  refine kt_ret ?_
  refine ⟨[_], .cons (.tmp rfl) (ResAll.nil), ?_⟩
  exact ⟨13, rfl⟩
theorem r_TableT (w : World) (v : Value) (pvs : List Value) (ps : List (List PtT)) (X Y W H : Int) (hb : Bnd ps) (hv : PcsV v pvs ps) (hat : PcsAt w v pvs ps) :
    Calls Tryz.prog 29 #[v, .agg #[.int .i64 X, .int .i64 Y, .int .i64 W, .int .i64 H]] w fun e w' => ∃ y, e = .returned y ∧ Below w.heap.size w w' ∧ OwnAt w.heap.size w' y 101 7 (tabT X Y W H ps).length ((tabT X Y W H ps).flatMap eE) := by
  unfold tabT
  by_cases hvw : ViewOk X Y W H
  · rw [if_pos hvw]; exact r_TableY w v pvs ps X Y W H hb hv hat hvw
  · rw [if_neg hvw]; exact r_TableN w v X Y W H hvw
end Go.Proofs.YtllhohbenniaaaaGreat

/- The crossings of a row: how its winding turns at each place; the places, rising. Conditions: none. -/
namespace Go.Proofs.YtllhohbenniaaaaGreat
open Go.Proofs Go.RowKit Go.Shelf

/-! ### crossings and spans: plain law -/
structure SpanT where
  fr : Int
  to : Int
def eS (s : SpanT) : List Value := [.int .i64 s.fr, .int .i64 s.to]
def dS : SpanT := ⟨0, 0⟩
theorem eS_len (s : SpanT) : (eS s).length = 2 := rfl
def sumF {α : Type} (f : α → Int) : List α → Int
  | [] => 0
  | x :: r => f x + sumF f r
theorem sumF_append {α : Type} (f : α → Int) : ∀ l k : List α, sumF f (l ++ k) = sumF f l + sumF f k
  | [], k => by simp [sumF]
  | x :: r, k => by simp only [List.cons_append, sumF, sumF_append f r k]; omega
theorem sumF_add {α : Type} (f g : α → Int) : ∀ l : List α, sumF (fun x => f x + g x) l = sumF f l + sumF g l
  | [] => rfl
  | x :: r => by simp only [sumF, sumF_add f g r]; omega
theorem sumF_congr {α : Type} {f g : α → Int} : ∀ l : List α, (∀ x ∈ l, f x = g x) → sumF f l = sumF g l
  | [], _ => rfl
  | x :: r, h => by simp only [sumF]; rw [h x List.mem_cons_self, sumF_congr r fun y hy => h y (List.mem_cons_of_mem _ hy)]
theorem sumF_zero {α : Type} : ∀ l : List α, sumF (fun _ => 0) l = 0
  | [] => rfl
  | x :: r => by simp only [sumF, sumF_zero r]; rfl
theorem sumF_map {α β : Type} (f : β → Int) (h : α → β) : ∀ l : List α, sumF f (l.map h) = sumF (fun x => f (h x)) l
  | [] => rfl
  | x :: r => by simp only [List.map_cons, sumF, sumF_map f h r]
theorem sumF_bound {α : Type} {f : α → Int} : ∀ l : List α, (∀ x ∈ l, -1 ≤ f x ∧ f x ≤ 1) → -(l.length : Int) ≤ sumF f l ∧ sumF f l ≤ l.length
  | [], _ => by simp [sumF]
  | x :: r, h => by
    have h1 := h x List.mem_cons_self
    have h2 := sumF_bound r fun y hy => h y (List.mem_cons_of_mem _ hy)
    simp only [sumF, List.length_cons]
    omega
theorem sumF_swap {α β : Type} (f : α → β → Int) : ∀ (l : List α) (k : List β), sumF (fun x => sumF (f x) k) l = sumF (fun y => sumF (fun x => f x y) l) k
  | [], k => by simp only [sumF]; rw [sumF_zero]
  | x :: r, k => by simp only [sumF]; rw [sumF_swap f r k, ← sumF_add]
theorem sumF_perm {α : Type} {f : α → Int} {l k : List α} (h : l.Perm k) : sumF f l = sumF f k := by
  induction h with
  | nil => rfl
  | cons x _ ih => simp only [sumF, ih]
  | swap x y l => simp only [sumF]; omega
  | trans _ _ h1 h2 => rw [h1, h2]
/-- how a row's winding turns at x; up to x -/
def sumAt (cs : List (Int × Int)) (x : Int) : Int := sumF (fun c => if c.1 = x then c.2 else 0) cs
def sumTo (cs : List (Int × Int)) (x : Int) : Int := sumF (fun c => if c.1 ≤ x then c.2 else 0) cs
def insU (x : Int) : List Int → List Int
  | [] => [x]
  | y :: r => if y < x then y :: insU x r else if y = x then y :: r else x :: y :: r
/-- the places, rising, each once -/
def keysOf (cs : List (Int × Int)) : List Int := cs.foldl (fun l c => insU c.1 l) []
def Inc (l : List Int) : Prop := l.Pairwise (· < ·)
theorem keysOf_snoc (cs : List (Int × Int)) (c : Int × Int) : keysOf (cs ++ [c]) = insU c.1 (keysOf cs) := by simp [keysOf, List.foldl_append]
theorem insU_mem {x y : Int} : ∀ l : List Int, y ∈ insU x l ↔ y = x ∨ y ∈ l
  | [] => by simp [insU]
  | z :: r => by
    unfold insU
    split
    · rw [List.mem_cons, insU_mem r, List.mem_cons]
      constructor
      · rintro (h | h | h)
        · exact .inr (.inl h)
        · exact .inl h
        · exact .inr (.inr h)
      · rintro (h | h | h)
        · exact .inr (.inl h)
        · exact .inl h
        · exact .inr (.inr h)
    · split
      · rename_i h; subst h; simp
      · simp
theorem insU_inc {x : Int} : ∀ l : List Int, Inc l → Inc (insU x l)
  | [], _ => List.pairwise_singleton _ _
  | z :: r, h => by
    have hz := List.pairwise_cons.1 h
    unfold insU
    split
    · rename_i hlt
      refine List.pairwise_cons.2 ⟨fun y hy => ?_, insU_inc r hz.2⟩
      rcases (insU_mem r).1 hy with rfl | hy
      · exact hlt
      · exact hz.1 y hy
    · split
      · exact h
      · rename_i h1 h2
        refine List.pairwise_cons.2 ⟨fun y hy => ?_, h⟩
        rcases List.mem_cons.1 hy with rfl | hy
        · omega
        · have := hz.1 y hy; omega
theorem insU_at {x : Int} : ∀ (l : List Int) (at_ : Nat), at_ ≤ l.length → (∀ j, j < at_ → l.getD j 0 < x) → (at_ < l.length → ¬ l.getD at_ 0 < x) → insU x l = if at_ < l.length ∧ l.getD at_ 0 = x then l else l.take at_ ++ x :: l.drop at_
  | [], at_, h1, _, _ => by
    obtain rfl : at_ = 0 := by simpa using h1
    rfl
  | y :: r, 0, _, _, h3 => by
    have h := h3 (by simp)
    simp only [List.getD_cons_zero] at h
    simp only [insU, if_neg h, List.getD_cons_zero, List.length_cons, Nat.zero_lt_succ, true_and, List.take_zero, List.drop_zero, List.nil_append]
  | y :: r, at_ + 1, h1, h2, h3 => by
    have h0 := h2 0 (by omega)
    simp only [List.getD_cons_zero] at h0
    have ih := insU_at r at_ (by simpa using h1) (fun j hj => by simpa using h2 (j + 1) (by omega)) (fun hj => by simpa using h3 (by simpa using hj))
    simp only [insU, if_pos h0, ih, List.getD_cons_succ, List.length_cons, Nat.add_lt_add_iff_right, List.take_succ_cons, List.drop_succ_cons]
    split <;> rfl
theorem keysOf_ok : ∀ (n : Nat) (cs : List (Int × Int)), cs.length = n → Inc (keysOf cs) ∧ ∀ x, x ∈ keysOf cs ↔ ∃ c ∈ cs, c.1 = x
  | 0, cs, h => by
    obtain rfl : cs = [] := List.length_eq_zero_iff.1 h
    exact ⟨List.Pairwise.nil, fun x => by simp [keysOf]⟩
  | n + 1, cs, h => by
    have hne : cs ≠ [] := by intro e; subst e; simp at h
    have e := List.dropLast_concat_getLast hne
    obtain ⟨l0, c, rfl⟩ : ∃ l0 c, cs = l0 ++ [c] := ⟨_, _, e.symm⟩
    have ih := keysOf_ok n l0 (by simpa using h)
    rw [keysOf_snoc]
    refine ⟨insU_inc _ ih.1, fun x => ?_⟩
    rw [insU_mem, ih.2]
    constructor
    · rintro (rfl | ⟨c', h1, h2⟩)
      · exact ⟨c, by simp, rfl⟩
      · exact ⟨c', by simp [h1], h2⟩
    · rintro ⟨c', h1, h2⟩
      rcases List.mem_append.1 h1 with h1 | h1
      · exact .inr ⟨c', h1, h2⟩
      · rw [List.mem_singleton.1 h1] at h2; exact .inl h2.symm
theorem keysOf_inc (cs : List (Int × Int)) : Inc (keysOf cs) := (keysOf_ok _ cs rfl).1
theorem keysOf_mem {cs : List (Int × Int)} {x : Int} : x ∈ keysOf cs ↔ ∃ c ∈ cs, c.1 = x := (keysOf_ok _ cs rfl).2 x
theorem inc_unique : ∀ (l l' : List Int), Inc l → Inc l' → (∀ x, x ∈ l ↔ x ∈ l') → l = l'
  | [], [], _, _, _ => rfl
  | [], y :: r, _, _, h => by have := (h y).2 List.mem_cons_self; simp at this
  | x :: l, [], _, _, h => by have := (h x).1 List.mem_cons_self; simp at this
  | x :: l, y :: r, h1, h2, h => by
    have a1 := List.pairwise_cons.1 h1
    have a2 := List.pairwise_cons.1 h2
    have e : x = y := by
      rcases List.mem_cons.1 ((h x).1 List.mem_cons_self) with e | hx
      · exact e
      · rcases List.mem_cons.1 ((h y).2 List.mem_cons_self) with e | hy
        · exact e.symm
        · have := a2.1 x hx; have := a1.1 y hy; omega
    subst e
    rw [inc_unique l r a1.2 a2.2 fun z => ?_]
    have hz := h z
    simp only [List.mem_cons] at hz
    constructor
    · intro hm
      rcases hz.1 (.inr hm) with e | h'
      · subst e; have := a1.1 z hm; omega
      · exact h'
    · intro hm
      rcases hz.2 (.inr hm) with e | h'
      · subst e; have := a2.1 z hm; omega
      · exact h'
theorem keysOf_len (cs : List (Int × Int)) : (keysOf cs).length ≤ cs.length := by
  have key : ∀ (n : Nat) (cs : List (Int × Int)), cs.length = n → (keysOf cs).length ≤ n := fun n => by
    induction n with
    | zero => intro cs h; obtain rfl : cs = [] := List.length_eq_zero_iff.1 h; exact Nat.le_refl _
    | succ n ih =>
      intro cs h
      have hne : cs ≠ [] := by intro e; subst e; simp at h
      have e := List.dropLast_concat_getLast hne
      obtain ⟨l0, c, rfl⟩ : ∃ l0 c, cs = l0 ++ [c] := ⟨_, _, e.symm⟩
      have h1 := ih l0 (by simpa using h)
      rw [keysOf_snoc]
      have h2 : ∀ (x : Int) (l : List Int), (insU x l).length ≤ l.length + 1 := fun x l => by
        induction l with
        | nil => exact Nat.le_refl _
        | cons y r ih => unfold insU; split <;> (try split) <;> simp <;> omega
      have := h2 c.1 (keysOf l0)
      omega
  exact key _ cs rfl
/-! #### the spans of a row -/
abbrev RowS := Int × Int × List SpanT
def stepR (cs : List (Int × Int)) (s : RowS) (x : Int) : RowS := (s.1 + sumAt cs x, if s.1 = 0 then x else s.2.1, if s.1 = 0 then s.2.2 else if s.1 + sumAt cs x = 0 then s.2.2 ++ [⟨s.2.1, x⟩] else s.2.2)
theorem stepR0 {cs : List (Int × Int)} {s : RowS} {x : Int} (h : s.1 = 0) : stepR cs s x = (s.1 + sumAt cs x, x, s.2.2) := by unfold stepR; rw [if_pos h, if_pos h]
theorem stepR1 {cs : List (Int × Int)} {s : RowS} {x : Int} (h : ¬ s.1 = 0) (h2 : s.1 + sumAt cs x = 0) : stepR cs s x = (s.1 + sumAt cs x, s.2.1, s.2.2 ++ [⟨s.2.1, x⟩]) := by unfold stepR; rw [if_neg h, if_neg h, if_pos h2]
theorem stepR2 {cs : List (Int × Int)} {s : RowS} {x : Int} (h : ¬ s.1 = 0) (h2 : ¬ s.1 + sumAt cs x = 0) : stepR cs s x = (s.1 + sumAt cs x, s.2.1, s.2.2) := by unfold stepR; rw [if_neg h, if_neg h, if_neg h2]
theorem stepR_from {cs : List (Int × Int)} {s : RowS} {x : Int} (h : ¬ s.1 = 0) : (stepR cs s x).2.1 = s.2.1 := if_neg h
def rowTo (cs : List (Int × Int)) (k : Nat) : RowS := ((keysOf cs).take k).foldl (stepR cs) (0, 0, [])
def rowS (cs : List (Int × Int)) : List SpanT := (rowTo cs (keysOf cs).length).2.2
theorem rowTo_succ {cs : List (Int × Int)} {k : Nat} (h : k < (keysOf cs).length) : rowTo cs (k + 1) = stepR cs (rowTo cs k) ((keysOf cs).getD k 0) := by
  unfold rowTo
  rw [List.take_add_one, List.getElem?_eq_getElem h, List.foldl_append, List.getD_eq_getElem?_getD, List.getElem?_eq_getElem h]
  rfl
theorem inc_lt {l : List Int} (h : Inc l) {i j : Nat} (hij : i < j) (hj : j < l.length) : l.getD i 0 < l.getD j 0 := by
  have := List.pairwise_iff_getElem.1 h i j (by omega) hj hij
  rwa [List.getD_eq_getElem?_getD, List.getD_eq_getElem?_getD, List.getElem?_eq_getElem hj, List.getElem?_eq_getElem (show i < l.length by omega)]
theorem sum_pick : ∀ (l : List Int) (c : Int × Int), Inc l → sumF (fun y => if c.1 = y then c.2 else 0) l = if c.1 ∈ l then c.2 else 0
  | [], c, _ => by simp [sumF]
  | y :: r, c, h => by
    have hy := List.pairwise_cons.1 h
    simp only [sumF]
    rw [sum_pick r c hy.2]
    by_cases e : c.1 = y
    · have hn : c.1 ∉ r := fun hm => by have := hy.1 _ hm; omega
      rw [if_pos e, if_neg hn, if_pos (by rw [e]; exact List.mem_cons_self), Int.add_zero]
    · rw [if_neg e, Int.zero_add]
      by_cases hm : c.1 ∈ r
      · rw [if_pos hm, if_pos (List.mem_cons_of_mem _ hm)]
      · rw [if_neg hm, if_neg (fun h => by rcases List.mem_cons.1 h with h | h; exact e h; exact hm h)]
theorem inc_take {l : List Int} (h : Inc l) (k : Nat) : Inc (l.take k) := List.Pairwise.sublist (List.take_sublist k l) h
theorem mem_take_iff {l : List Int} (h : Inc l) {k : Nat} (hk : k < l.length) {x : Int} (hx : x ∈ l) : x ∈ l.take (k + 1) ↔ x ≤ l.getD k 0 := by
  obtain ⟨j, hj, rfl⟩ := List.getElem_of_mem hx
  have ej : l[j] = l.getD j 0 := by rw [List.getD_eq_getElem?_getD, List.getElem?_eq_getElem hj]; rfl
  constructor
  · intro hm
    obtain ⟨i, hi, e⟩ := List.getElem_of_mem hm
    rw [List.getElem_take] at e
    have hi' : i ≤ k := by simp at hi; omega
    rw [← e]
    have ei : l[i]'(by omega) = l.getD i 0 := by rw [List.getD_eq_getElem?_getD, List.getElem?_eq_getElem (show i < l.length by omega)]; rfl
    rw [ei]
    rcases Nat.lt_or_eq_of_le hi' with h' | h'
    · exact Int.le_of_lt (inc_lt h h' hk)
    · rw [h']; exact Int.le_refl _
  · intro hle
    have hjk : j ≤ k := by
      rcases Nat.lt_or_ge k j with h' | h'
      · have := inc_lt h h' hj; rw [ej] at hle; omega
      · exact h'
    have h1 : j < (l.take (k + 1)).length := by rw [List.length_take]; omega
    have := List.getElem_mem h1
    rwa [List.getElem_take] at this
/-- the winding behind the k-th place -/
theorem rowTo_w (cs : List (Int × Int)) : ∀ k, k ≤ (keysOf cs).length → (rowTo cs k).1 = sumF (fun y => sumAt cs y) ((keysOf cs).take k)
  | 0, _ => rfl
  | k + 1, h => by
    rw [rowTo_succ (by omega)]
    show (rowTo cs k).1 + sumAt cs _ = _
    rw [rowTo_w cs k (by omega), List.take_add_one, List.getElem?_eq_getElem (show k < _ by omega), sumF_append, List.getD_eq_getElem?_getD, List.getElem?_eq_getElem (show k < _ by omega)]
    simp [sumF]
theorem sum_keys (cs : List (Int × Int)) {l : List Int} (hl : Inc l) : sumF (fun y => sumAt cs y) l = sumF (fun c => if c.1 ∈ l then c.2 else 0) cs := by
  unfold sumAt
  rw [sumF_swap (fun (y : Int) (c : Int × Int) => if c.1 = y then c.2 else 0)]
  exact sumF_congr cs fun c _ => sum_pick l c hl
theorem rowTo_sumTo {cs : List (Int × Int)} {k : Nat} (h : k < (keysOf cs).length) : (rowTo cs (k + 1)).1 = sumTo cs ((keysOf cs).getD k 0) := by
  rw [rowTo_w cs (k + 1) (by omega), sum_keys cs (inc_take (keysOf_inc cs) _)]
  refine sumF_congr cs fun c hc => ?_
  have hm : c.1 ∈ keysOf cs := keysOf_mem.2 ⟨c, hc, rfl⟩
  have := mem_take_iff (keysOf_inc cs) h hm
  by_cases hle : c.1 ≤ (keysOf cs).getD k 0
  · rw [if_pos hle, if_pos (this.2 hle)]
  · rw [if_neg hle, if_neg (fun h' => hle (this.1 h'))]
theorem rowTo_end (cs : List (Int × Int)) : (rowTo cs (keysOf cs).length).1 = sumF (fun c => c.2) cs := by
  rw [rowTo_w cs _ (Nat.le_refl _), List.take_length, sum_keys cs (keysOf_inc cs)]
  exact sumF_congr cs fun c hc => if_pos (keysOf_mem.2 ⟨c, hc, rfl⟩)
/-- what stands behind the k-th place -/
structure RowQ (cs : List (Int × Int)) (k : Nat) : Prop where
  rise : (rowTo cs k).2.2.Pairwise (fun s t => s.to < t.fr)
  pos : ∀ s ∈ (rowTo cs k).2.2, s.fr < s.to
  from_ : ∀ s ∈ (rowTo cs k).2.2, s.fr ∈ keysOf cs ∧ s.to ∈ keysOf cs
  below : ∀ s ∈ (rowTo cs k).2.2, ∃ j, j < k ∧ s.to = (keysOf cs).getD j 0
  open_ : (rowTo cs k).1 ≠ 0 → ∃ j, j < k ∧ (rowTo cs k).2.1 = (keysOf cs).getD j 0 ∧ ∀ s ∈ (rowTo cs k).2.2, s.to < (rowTo cs k).2.1
theorem getD_mem {l : List Int} {i : Nat} (h : i < l.length) : l.getD i 0 ∈ l := by
  rw [List.getD_eq_getElem?_getD, List.getElem?_eq_getElem h]; exact List.getElem_mem h
theorem rowQ (cs : List (Int × Int)) : ∀ k, k ≤ (keysOf cs).length → RowQ cs k
  | 0, _ => ⟨List.Pairwise.nil, fun s h => by simp [rowTo] at h, fun s h => by simp [rowTo] at h, fun s h => by simp [rowTo] at h, fun h => by simp [rowTo] at h⟩
  | k + 1, h => by
    have ih := rowQ cs k (by omega)
    have hk : k < (keysOf cs).length := by omega
    have hinc := keysOf_inc cs
    have e := rowTo_succ hk
    by_cases h0 : (rowTo cs k).1 = 0
    · have e2 : (rowTo cs (k + 1)).2.2 = (rowTo cs k).2.2 := by rw [e, stepR0 h0]
      have e1 : (rowTo cs (k + 1)).2.1 = (keysOf cs).getD k 0 := by rw [e, stepR0 h0]
      refine ⟨by rw [e2]; exact ih.rise, by rw [e2]; exact ih.pos, by rw [e2]; exact ih.from_, ?_, fun _ => ⟨k, by omega, e1, ?_⟩⟩
      · rw [e2]; intro s hs; obtain ⟨j, hj, he⟩ := ih.below s hs; exact ⟨j, by omega, he⟩
      · rw [e2, e1]; intro s hs; obtain ⟨j, hj, he⟩ := ih.below s hs; rw [he]; exact inc_lt hinc hj hk
    · obtain ⟨j, hj, hfr, hlt⟩ := ih.open_ h0
      have e1 : (rowTo cs (k + 1)).2.1 = (rowTo cs k).2.1 := by rw [e, stepR_from h0]
      by_cases h1 : (rowTo cs k).1 + sumAt cs ((keysOf cs).getD k 0) = 0
      · have e2 : (rowTo cs (k + 1)).2.2 = (rowTo cs k).2.2 ++ [⟨(rowTo cs k).2.1, (keysOf cs).getD k 0⟩] := by rw [e, stepR1 h0 h1]
        have e0 : (rowTo cs (k + 1)).1 = 0 := by rw [e]; exact h1
        have hjk := inc_lt hinc hj hk
        refine ⟨?_, ?_, ?_, ?_, fun hne => absurd e0 hne⟩
        · rw [e2]
          refine List.pairwise_append.2 ⟨ih.rise, List.pairwise_singleton _ _, fun s hs t ht => ?_⟩
          rw [List.mem_singleton.1 ht]; exact hlt s hs
        · rw [e2]; intro s hs
          rcases List.mem_append.1 hs with hs | hs
          · exact ih.pos s hs
          · rw [List.mem_singleton.1 hs]; dsimp only; rw [hfr]; exact hjk
        · rw [e2]; intro s hs
          rcases List.mem_append.1 hs with hs | hs
          · exact ih.from_ s hs
          · rw [List.mem_singleton.1 hs]; dsimp only; rw [hfr]; exact ⟨getD_mem (by omega), getD_mem hk⟩
        · rw [e2]; intro s hs
          rcases List.mem_append.1 hs with hs | hs
          · obtain ⟨j', hj', he⟩ := ih.below s hs; exact ⟨j', by omega, he⟩
          · rw [List.mem_singleton.1 hs]; exact ⟨k, by omega, rfl⟩
      · have e2 : (rowTo cs (k + 1)).2.2 = (rowTo cs k).2.2 := by rw [e, stepR2 h0 h1]
        refine ⟨by rw [e2]; exact ih.rise, by rw [e2]; exact ih.pos, by rw [e2]; exact ih.from_, ?_, fun _ => ⟨j, by omega, by rw [e1, hfr], by rw [e1, e2]; exact hlt⟩⟩
        rw [e2]; intro s hs; obtain ⟨j', hj', he⟩ := ih.below s hs; exact ⟨j', by omega, he⟩
/-! #### the document's spans -/
def docStep (cs : List (Int × Int)) (out : List SpanT) (i : Nat) : List SpanT :=
  if sumTo cs ((keysOf cs).getD i 0) = 0 then out
  else match out.getLast? with
    | some s => if s.to = (keysOf cs).getD i 0 then out.dropLast ++ [⟨s.fr, (keysOf cs).getD (i + 1) 0⟩] else out ++ [⟨(keysOf cs).getD i 0, (keysOf cs).getD (i + 1) 0⟩]
    | none => out ++ [⟨(keysOf cs).getD i 0, (keysOf cs).getD (i + 1) 0⟩]
def docTo (cs : List (Int × Int)) (k : Nat) : List SpanT := (List.range k).foldl (docStep cs) []
theorem docTo_succ (cs : List (Int × Int)) (k : Nat) : docTo cs (k + 1) = docStep cs (docTo cs k) k := by
  unfold docTo; rw [List.range_succ, List.foldl_append]; rfl
theorem docTo_ok (cs : List (Int × Int)) : ∀ k, k + 1 ≤ (keysOf cs).length → docTo cs k = (rowTo cs k).2.2 ++ (if (rowTo cs k).1 = 0 then [] else [⟨(rowTo cs k).2.1, (keysOf cs).getD k 0⟩])
  | 0, _ => by simp [docTo, rowTo]
  | k + 1, h => by
    have ih := docTo_ok cs k (by omega)
    have hk : k < (keysOf cs).length := by omega
    have hinc := keysOf_inc cs
    have e := rowTo_succ hk
    have hq := rowQ cs k (by omega)
    have hw := rowTo_sumTo hk
    rw [docTo_succ, docStep, ih]
    have hlast : ∀ s, (rowTo cs k).2.2.getLast? = some s → s.to ≠ (keysOf cs).getD k 0 := fun s hs he => by
      obtain ⟨j, hj, h'⟩ := hq.below s (List.mem_of_getLast? hs)
      have := inc_lt hinc hj hk
      rw [← h', he] at this; omega
    by_cases h0 : (rowTo cs k).1 = 0
    · rw [if_pos h0, List.append_nil]
      have e2 : (rowTo cs (k + 1)).2.2 = (rowTo cs k).2.2 := by rw [e, stepR0 h0]
      have e1 : (rowTo cs (k + 1)).2.1 = (keysOf cs).getD k 0 := by rw [e, stepR0 h0]
      rw [e2, e1, ← hw]
      by_cases h1 : (rowTo cs (k + 1)).1 = 0
      · rw [if_pos h1, if_pos h1, List.append_nil]
      · rw [if_neg h1, if_neg h1]
        cases hl : (rowTo cs k).2.2.getLast? with
        | none => rfl
        | some s => simp only [if_neg (hlast s hl)]
    · rw [if_neg h0]
      have e1 : (rowTo cs (k + 1)).2.1 = (rowTo cs k).2.1 := by rw [e, stepR_from h0]
      have hws : (rowTo cs (k + 1)).1 = (rowTo cs k).1 + sumAt cs ((keysOf cs).getD k 0) := by rw [e]; rfl
      rw [e1, ← hw]
      by_cases h1 : (rowTo cs (k + 1)).1 = 0
      · have e2 : (rowTo cs (k + 1)).2.2 = (rowTo cs k).2.2 ++ [⟨(rowTo cs k).2.1, (keysOf cs).getD k 0⟩] := by rw [e, stepR1 h0 (hws ▸ h1)]
        rw [if_pos h1, if_pos h1, e2, List.append_nil]
      · have e2 : (rowTo cs (k + 1)).2.2 = (rowTo cs k).2.2 := by rw [e, stepR2 h0 (hws ▸ h1)]
        rw [if_neg h1, if_neg h1, e2]
        simp
def docRow (cs : List (Int × Int)) : List SpanT := docTo cs ((keysOf cs).length - 1)
/-- where the windings come to nothing, both are alike -/
theorem docRow_eq {cs : List (Int × Int)} (h : sumF (fun c => c.2) cs = 0) : docRow cs = rowS cs := by
  unfold docRow rowS
  rcases Nat.eq_zero_or_pos (keysOf cs).length with h0 | h0
  · rw [h0]; rfl
  · obtain ⟨k, hk⟩ : ∃ k, (keysOf cs).length = k + 1 := ⟨_, (Nat.succ_pred_eq_of_pos h0).symm⟩
    rw [hk, Nat.add_sub_cancel, docTo_ok cs k (by omega)]
    have hend := rowTo_end cs
    rw [hk, h] at hend
    have hw : (rowTo cs (k + 1)).1 = (rowTo cs k).1 + sumAt cs ((keysOf cs).getD k 0) := by rw [rowTo_succ (by omega)]; rfl
    have hz : (rowTo cs k).1 + sumAt cs ((keysOf cs).getD k 0) = 0 := by rw [← hw]; exact hend
    rw [rowTo_succ (show k < _ by omega)]
    by_cases h1 : (rowTo cs k).1 = 0
    · rw [stepR0 h1, if_pos h1, List.append_nil]
    · rw [stepR1 h1 hz, if_neg h1]

/-! #### spans by their places alone; shifted; cut -/
theorem keysOf_congr {cs cs' : List (Int × Int)} (h : ∀ x, (∃ c ∈ cs, c.1 = x) ↔ ∃ c ∈ cs', c.1 = x) : keysOf cs = keysOf cs' :=
  inc_unique _ _ (keysOf_inc cs) (keysOf_inc cs') fun x => by rw [keysOf_mem, keysOf_mem]; exact h x
theorem rowS_congr {cs cs' : List (Int × Int)} (hk : keysOf cs = keysOf cs') (hs : ∀ x, sumAt cs x = sumAt cs' x) : rowS cs = rowS cs' := by
  have e : stepR cs = stepR cs' := by funext s x; simp only [stepR, hs]
  unfold rowS rowTo
  rw [hk, e]
theorem sumAt_perm {cs cs' : List (Int × Int)} (h : cs.Perm cs') (x : Int) : sumAt cs x = sumAt cs' x := sumF_perm h
theorem rowS_perm {cs cs' : List (Int × Int)} (h : cs.Perm cs') : rowS cs = rowS cs' :=
  rowS_congr (keysOf_congr fun x => ⟨fun ⟨c, h1, h2⟩ => ⟨c, h.mem_iff.1 h1, h2⟩, fun ⟨c, h1, h2⟩ => ⟨c, h.mem_iff.2 h1, h2⟩⟩) (sumAt_perm h)
/-- shifted -/
def shS (d : Int) (s : SpanT) : SpanT := ⟨s.fr + d, s.to + d⟩
def shC (d : Int) (c : Int × Int) : Int × Int := (c.1 + d, c.2)
theorem insU_sh (d x : Int) : ∀ l : List Int, insU (x + d) (l.map (· + d)) = (insU x l).map (· + d)
  | [] => rfl
  | y :: r => by
    simp only [List.map_cons, insU]
    by_cases h : y < x
    · rw [if_pos h, if_pos (by omega), insU_sh d x r]; rfl
    · rw [if_neg h, if_neg (by omega)]
      by_cases h2 : y = x
      · rw [if_pos h2, if_pos (by omega)]; rfl
      · rw [if_neg h2, if_neg (by omega)]; rfl
theorem keysOf_sh (d : Int) : ∀ (n : Nat) (cs : List (Int × Int)), cs.length = n → keysOf (cs.map (shC d)) = (keysOf cs).map (· + d)
  | 0, cs, h => by
    obtain rfl : cs = [] := List.length_eq_zero_iff.1 h
    rfl
  | n + 1, cs, h => by
    have hne : cs ≠ [] := by intro e; subst e; simp at h
    have e := List.dropLast_concat_getLast hne
    obtain ⟨l0, c, rfl⟩ : ∃ l0 c, cs = l0 ++ [c] := ⟨_, _, e.symm⟩
    rw [List.map_append, List.map_cons, List.map_nil, keysOf_snoc, keysOf_snoc, keysOf_sh d n l0 (by simpa using h), shC, insU_sh]
theorem sumAt_sh (d x : Int) (cs : List (Int × Int)) : sumAt (cs.map (shC d)) (x + d) = sumAt cs x := by
  unfold sumAt
  rw [sumF_map]
  refine sumF_congr cs fun c _ => ?_
  by_cases h : c.1 = x
  · rw [if_pos h, if_pos (by simp only [shC]; omega)]; rfl
  · rw [if_neg h, if_neg (by simp only [shC]; omega)]
theorem rowTo_sh (d : Int) (cs : List (Int × Int)) : ∀ k, k ≤ (keysOf cs).length → (rowTo (cs.map (shC d)) k).1 = (rowTo cs k).1 ∧ ((rowTo cs k).1 ≠ 0 → (rowTo (cs.map (shC d)) k).2.1 = (rowTo cs k).2.1 + d) ∧ (rowTo (cs.map (shC d)) k).2.2 = (rowTo cs k).2.2.map (shS d)
  | 0, _ => ⟨rfl, fun h => absurd rfl h, rfl⟩
  | k + 1, h => by
    obtain ⟨h1, h2, h3⟩ := rowTo_sh d cs k (by omega)
    have hk := keysOf_sh d _ cs rfl
    have hlt : k < (keysOf cs).length := by omega
    have e := rowTo_succ hlt
    have e' := rowTo_succ (cs := cs.map (shC d)) (k := k) (by rw [hk]; simpa using hlt)
    have hg : (keysOf (cs.map (shC d))).getD k 0 = (keysOf cs).getD k 0 + d := by
      rw [hk, List.getD_eq_getElem?_getD, List.getD_eq_getElem?_getD, List.getElem?_map, List.getElem?_eq_getElem hlt]; rfl
    rw [hg] at e'
    rw [e, e']
    have hsa := sumAt_sh d ((keysOf cs).getD k 0) cs
    by_cases h0 : (rowTo cs k).1 = 0
    · rw [stepR0 h0, stepR0 (h1.trans h0)]
      exact ⟨by dsimp only; rw [h1, hsa], fun _ => rfl, h3⟩
    · have h2' := h2 h0
      have h0' : ¬ (rowTo (cs.map (shC d)) k).1 = 0 := by rw [h1]; exact h0
      by_cases hz : (rowTo cs k).1 + sumAt cs ((keysOf cs).getD k 0) = 0
      · rw [stepR1 h0 hz, stepR1 h0' (by rw [h1, hsa]; exact hz)]
        exact ⟨by dsimp only; rw [h1, hsa], fun _ => h2', by dsimp only; rw [h2', h3, List.map_append]; rfl⟩
      · rw [stepR2 h0 hz, stepR2 h0' (by rw [h1, hsa]; exact hz)]
        exact ⟨by dsimp only; rw [h1, hsa], fun _ => h2', h3⟩
theorem rowS_sh (d : Int) (cs : List (Int × Int)) : rowS (cs.map (shC d)) = (rowS cs).map (shS d) := by
  unfold rowS
  rw [keysOf_sh d _ cs rfl, List.length_map]
  exact (rowTo_sh d cs _ (Nat.le_refl _)).2.2
/-- cut -/
def clipS (lo hi : Int) (s : SpanT) : SpanT := ⟨if s.fr < lo then lo else s.fr, if hi < s.to then hi else s.to⟩
def clipT (lo hi : Int) (l : List SpanT) : List SpanT := (l.map (clipS lo hi)).filter fun s => decide (s.fr < s.to)
def sumS (l : List SpanT) : Int := sumF (fun s => s.to - s.fr) l
def hasS (l : List SpanT) (x : Int) : Bool := l.any fun s => decide (s.fr ≤ x) && decide (x < s.to)
theorem clipT_cons (lo hi : Int) (s : SpanT) (l : List SpanT) : clipT lo hi (s :: l) = (if (clipS lo hi s).fr < (clipS lo hi s).to then [clipS lo hi s] else []) ++ clipT lo hi l := by
  unfold clipT
  by_cases h : (clipS lo hi s).fr < (clipS lo hi s).to
  · rw [List.map_cons, List.filter_cons_of_pos (by simpa using h), if_pos h]; rfl
  · rw [List.map_cons, List.filter_cons_of_neg (by simpa using h), if_neg h]; rfl
theorem clipT_snoc (lo hi : Int) (s : SpanT) (l : List SpanT) : clipT lo hi (l ++ [s]) = clipT lo hi l ++ (if (clipS lo hi s).fr < (clipS lo hi s).to then [clipS lo hi s] else []) := by
  unfold clipT
  rw [List.map_append, List.filter_append]
  congr 1
  by_cases h : (clipS lo hi s).fr < (clipS lo hi s).to
  · rw [List.map_cons, List.filter_cons_of_pos (by simpa using h), if_pos h]; rfl
  · rw [List.map_cons, List.filter_cons_of_neg (by simpa using h), if_neg h]; rfl
theorem clipT_len (lo hi : Int) (l : List SpanT) : (clipT lo hi l).length ≤ l.length := Nat.le_trans (List.length_filter_le _ _) (by rw [List.length_map]; exact Nat.le_refl _)
theorem clipT_bound {lo hi : Int} {l : List SpanT} {s : SpanT} (h : s ∈ clipT lo hi l) : lo ≤ s.fr ∧ s.fr < s.to ∧ s.to ≤ hi ∧ ∃ t ∈ l, t.fr ≤ s.fr ∧ s.to ≤ t.to := by
  have h1 := List.mem_filter.1 h
  obtain ⟨t, ht, rfl⟩ := List.mem_map.1 h1.1
  have h2 : (clipS lo hi t).fr < (clipS lo hi t).to := by simpa using h1.2
  refine ⟨?_, h2, ?_, t, ht, ?_, ?_⟩
  · show lo ≤ if t.fr < lo then lo else t.fr; split <;> omega
  · show (if hi < t.to then hi else t.to) ≤ hi; split <;> omega
  · show t.fr ≤ if t.fr < lo then lo else t.fr; split <;> omega
  · show (if hi < t.to then hi else t.to) ≤ t.to; split <;> omega
theorem hasS_clip (lo hi x : Int) : ∀ l : List SpanT, hasS (clipT lo hi l) x = (hasS l x && (decide (lo ≤ x) && decide (x < hi)))
  | [] => rfl
  | s :: l => by
    have ih := hasS_clip lo hi x l
    have key : (if (clipS lo hi s).fr < (clipS lo hi s).to then [clipS lo hi s] else []).any (fun s => decide (s.fr ≤ x) && decide (x < s.to)) = ((decide (s.fr ≤ x) && decide (x < s.to)) && (decide (lo ≤ x) && decide (x < hi))) := by
      rw [Bool.eq_iff_iff]
      split
      · simp only [List.any_cons, List.any_nil, Bool.or_false, Bool.and_eq_true, decide_eq_true_eq, clipS]
        split <;> split <;> omega
      · rename_i hn
        simp only [List.any_nil, Bool.false_eq_true, Bool.and_eq_true, decide_eq_true_eq, false_iff]
        simp only [clipS] at hn
        split at hn <;> split at hn <;> omega
    rw [clipT_cons]
    unfold hasS at ih ⊢
    rw [List.any_append, key, ih, List.any_cons]
    cases h1 : (decide (s.fr ≤ x) && decide (x < s.to)) <;> cases h2 : (decide (lo ≤ x) && decide (x < hi)) <;> simp
theorem sumS_cons (s : SpanT) (l : List SpanT) : sumS (s :: l) = (s.to - s.fr) + sumS l := rfl
theorem sumS_append (l k : List SpanT) : sumS (l ++ k) = sumS l + sumS k := sumF_append _ l k
def lenC (lo hi : Int) (s : SpanT) : Int := if (clipS lo hi s).fr < (clipS lo hi s).to then (clipS lo hi s).to - (clipS lo hi s).fr else 0
theorem sumS_clip (lo hi : Int) : ∀ l : List SpanT, sumS (clipT lo hi l) = sumF (lenC lo hi) l
  | [] => rfl
  | s :: l => by
    rw [clipT_cons, sumS_append, sumS_clip lo hi l]
    simp only [sumF]
    congr 1
    unfold lenC
    split
    · simp [sumS, sumF]
    · rfl
theorem lenC_split {lo at_ hi : Int} {s : SpanT} (h1 : lo ≤ s.fr) (h2 : s.fr ≤ s.to) (h3 : s.to ≤ hi) : lenC lo at_ s + lenC at_ hi s = s.to - s.fr := by
  simp only [lenC, clipS]
  (repeat' split) <;> omega
theorem sumS_split {lo at_ hi : Int} {l : List SpanT} (h : ∀ s ∈ l, lo ≤ s.fr ∧ s.fr ≤ s.to ∧ s.to ≤ hi) : sumS (clipT lo at_ l) + sumS (clipT at_ hi l) = sumS l := by
  rw [sumS_clip, sumS_clip, ← sumF_add]
  exact sumF_congr l fun s hs => lenC_split (h s hs).1 (h s hs).2.1 (h s hs).2.2
theorem sumS_bound {B : Int} : ∀ l : List SpanT, (∀ s ∈ l, 0 ≤ s.to - s.fr ∧ s.to - s.fr ≤ B) → 0 ≤ sumS l ∧ sumS l ≤ B * l.length
  | [], _ => by simp [sumS, sumF]
  | s :: l, h => by
    have h1 := h s List.mem_cons_self
    have h2 := sumS_bound l fun t ht => h t (List.mem_cons_of_mem _ ht)
    rw [sumS_cons, List.length_cons]
    have : B * ((l.length + 1 : Nat) : Int) = B * l.length + B := by push_cast; rw [Int.mul_add, Int.mul_one]
    omega

shelf_lay_g SlLaysZI.n7 Ggz 7 at Tryz 69 as keysA
shelf_lay_g SlLaysZI.n6 Ggz 6 at Tryz 68 as sortedA
shelf_lay_g SlLaysM.n5 Slgm 5 at Tryz 83 as sortA
theorem zero_int (w : World) : (zeroValue 3).run Tryz.prog w = .ok (.int .i64 0) w := by
  obtain ⟨i, hi, hz, _⟩ := (inferInstance : TElem Tryz.prog 3 (.int .i64 0) 1 8).h
  simp [zeroValue, typeInfo, hi, hz]
theorem sortsA (m : Nat) : AnyZI.SortsIn Tryz.prog sortedA_ren Fence.wide m :=
  ⟨fun blk off cap ss W hH hblk hsz => callsIn_wide.2 (AnyM.slices_Sort_int sortA blk off cap ss W hH hblk hsz),
   fun p cap W => callsIn_wide.2 (AnyM.slices_Sort_int_none sortA p cap W)⟩
/-- block b is a map that holds the crossings' tally -/
def TallyAt (w : World) (b n : Nat) (cs : List (Int × Int)) : Prop := ∃ D : DataW Bool, w.ownsMap Tryz.prog 3 (plainElem Tryz.prog 3) b n D ∧ Go.Maps.IsMap D ∧ (∀ x, D.atKey (.int .i64 x) (.lit (.int .i64 0)) = .lit (.int .i64 (sumAt cs x))) ∧ (∀ x, Go.Maps.has D (.int .i64 x) = cs.any fun c => decide (c.1 = x))
theorem tally_lt {w : World} {b n : Nat} {cs : List (Int × Int)} (h : TallyAt w b n cs) : b < w.heap.size := h.choose_spec.1.lt
theorem tally_st {b n : Nat} {cs : List (Int × Int)} {w1 w2 : World} (h : TallyAt w1 b n cs) (e : w2.heap[b]? = w1.heap[b]?) : TallyAt w2 b n cs := by
  obtain ⟨D, ⟨es, clock, hb, F, hs, hD⟩, h2⟩ := h
  exact ⟨D, ⟨es, clock, e.trans hb, F, hs, hD⟩, h2⟩
theorem tally_new (w : World) : TallyAt (w.alloc (.map #[] 0)) w.heap.size 0 [] :=
  ⟨.map [], World.ownsMap_made w _ _ _, ⟨[], rfl⟩, fun x => rfl, fun x => rfl⟩
theorem tally_look {w : World} {b n : Nat} {cs : List (Int × Int)} (h : TallyAt w b n cs) {x : Int} (hx : (Lit.int .i64 x).wf = true) : (Instr.lookup 118 (.map (some b)) (.int .i64 x) false).run Tryz.prog w = .ok (.int .i64 (sumAt cs x)) w := by
  obtain ⟨D, h1, _, h3, _⟩ := h
  obtain ⟨c, h4, h5, _⟩ := h1.lookup_int (Go.Maps.int_keyed Tryz.underlying3) Tryz.underlying118 Tryz.underlying3 (zero_int w) (Go.Maps.keyOf_int_mk Tryz.underlying3 hx)
  rw [h3] at h5
  simp only [DataW.lit.injEq, Lit.int.injEq, true_and] at h5
  rw [h4, h5]
theorem sumAt_snoc (cs : List (Int × Int)) (x d y : Int) : sumAt (cs ++ [(x, d)]) y = sumAt cs y + if x = y then d else 0 := by
  unfold sumAt; rw [sumF_append]; simp [sumF]
theorem tally_set {w : World} {b n : Nat} {cs : List (Int × Int)} (h : TallyAt w b n cs) {x d : Int} (hx : (Lit.int .i64 x).wf = true) (hd : (Lit.int .i64 (sumAt cs x + d)).wf = true) (hn : n < maxLen) :
    ∃ w', (Instr.mapUpdate 118 (.map (some b)) (.int .i64 x) (.int .i64 (sumAt cs x + d))).run Tryz.prog w = .ok () w' ∧ Chg (fun z => z = b) w w' ∧ TallyAt w' b (n + 1) (cs ++ [(x, d)]) := by
  obtain ⟨D, h1, h2, h3, h4⟩ := h
  obtain ⟨w', h5, h6, h7⟩ := h1.update (Go.Maps.int_keyed Tryz.underlying3) Tryz.underlying118 hn (Go.Maps.keyOf_int_mk Tryz.underlying3 hx) (plainElem_int Tryz.underlying3 hd)
  have hk : WideAt.IsKeyLit (.int .i64 x) := trivial
  refine ⟨w', h5, (Chg.grown h7).mono (fun k _ hk => by cases hk; rfl), D.put (.int .i64 x) (.lit (.int .i64 (sumAt cs x + d))), h6, h2.put _ _, fun y => ?_, fun y => ?_⟩
  · rw [sumAt_snoc]
    by_cases e : x = y
    · subst e; rw [Go.Maps.atKey_put_same h2 hk, if_pos rfl]
    · rw [Go.Maps.atKey_put_other (fun h => e (by cases h; rfl)), h3, if_neg e, Int.add_zero]
  · rw [List.any_append]
    by_cases e : x = y
    · subst e; rw [Go.Maps.has_put_same h2 hk]; simp
    · rw [Go.Maps.has_put_other (fun h => e (by cases h; rfl)), h4]; simp [e]
theorem wf_of {a : Int} (h : -9223372036854775808 ≤ a ∧ a < 9223372036854775808) : (Lit.int .i64 a).wf = true := by
  simp only [Lit.wf, Bool.and_eq_true, decide_eq_true_eq]
  have e1 : IntKind.i64.min = -9223372036854775808 := by decide
  have e2 : IntKind.i64.max = 9223372036854775807 := by decide
  omega
theorem a_Tally (w : World) (b n : Nat) (cs : List (Int × Int)) (x d : Int) (hx : -1099511627776 ≤ x ∧ x ≤ 1099511627776) (hd : -1 ≤ d ∧ d ≤ 1) (hb : -1099511627776 ≤ sumAt cs x ∧ sumAt cs x ≤ 1099511627776) (hn : n < maxLen) (h : TallyAt w b n cs) :
    Calls Tryz.prog 65 #[.map (some b), .int .i64 x, .int .i64 d] w fun e w' => (∃ y, e = .returned y) ∧ Chg (fun z => z = b) w w' ∧ TallyAt w' b (n + 1) (cs ++ [(x, d)]) := by
  have hwx : (Lit.int .i64 x).wf = true := wf_of (by omega)
  have hws : (Lit.int .i64 (sumAt cs x + d)).wf = true := wf_of (by omega)
  have hlt := tally_lt h
  refine calls_turn (args := [.map (some b), .int .i64 x, .int .i64 d]) b (fun w => TallyAt w b n cs) (fun w => TallyAt w b (n + 1) (cs ++ [(x, d)])) Tryz.func65 rfl Tryz.ntmps65 Tryz.results65 rfl h (fun _ _ h e => tally_st h e) hlt ?_
  refine v_region ?_
  refine l_val rfl (o_move rfl) ?_
  refine l_val rfl (o_move rfl) ?_
  refine l_val rfl (o_lookup (b := b) rfl rfl (fun w' hg => tally_look hg.2 hwx)) ?_
  refine l_val rfl (o_move rfl) ?_
  refine l_val rfl (o_addi rfl rfl ?_) ?_
  · omega
  refine l_mapSet (b := b) (S := fun z => z = b) (g' := fun w' => Chg (fun z => z = b) w w' ∧ TallyAt w' b (n + 1) (cs ++ [(x, d)])) rfl rfl rfl rfl (fun z hz => by subst hz; exact ⟨hlt, .inr ⟨rfl, fun h => h⟩⟩) (fun w1 w2 hc h1 => ⟨h1.1.trans (hc.mono fun k _ hk => .inr (by omega)), tally_st h1.2 (hc.block b (Nat.lt_of_lt_of_le hlt h1.1.size) fun hn => hn hlt)⟩) (fun w1 h1 => by obtain ⟨w2, e1, e2, e3⟩ := tally_set h1.2 hwx hws hn; exact ⟨w2, e1, e2, h1.1.trans (e2.mono fun k _ hk => .inl hk), e3⟩) ?_
  refine l_nil ?_
  refine ⟨[], ResAll.nil, ?_⟩
  exact fun w' h => h.2
theorem keys_perm {D : DataW Bool} {cs : List (Int × Int)} {w : World} {b n : Nat} (h1 : w.ownsMap Tryz.prog 3 (plainElem Tryz.prog 3) b n D) (h4 : ∀ x, Go.Maps.has D (.int .i64 x) = cs.any fun c => decide (c.1 = x)) : (keysOf cs).Perm (intKeys D) := by
  obtain ⟨es, hD, hpw, _⟩ := h1.entries (Go.Maps.int_keyed Tryz.underlying3)
  obtain ⟨es', hD', hko⟩ := h1.keysOf
  obtain rfl : es = es' := by rw [hD] at hD'; simpa using hD'
  subst hD
  refine perm_intKeys hpw (fun p hp => by obtain ⟨v, hv⟩ := hko p hp; obtain ⟨x, _, hx, _⟩ := Go.Maps.keyOf_i64 Tryz.underlying3 hv; exact ⟨x, hx⟩) ?_ fun x => ?_
  · exact (keysOf_inc cs).imp fun h => Int.ne_of_lt h
  · rw [h4 x, List.any_eq_true, keysOf_mem]
    exact ⟨fun ⟨c, h1, h2⟩ => ⟨c, h1, by simpa using h2⟩, fun ⟨c, h1, h2⟩ => ⟨c, h1, by simpa using h2⟩⟩
theorem keys_sorted {l ss : List Int} (hl : Inc l) (hp : ss.Perm l) : ss.mergeSort (fun x y => decide (x ≤ y)) = l := by
  refine List.Perm.eq_of_pairwise (le := fun a b => a ≤ b) (fun a b _ _ h1 h2 => Int.le_antisymm h1 h2) ?_ (hl.imp fun h => Int.le_of_lt h) ((List.mergeSort_perm ss _).trans hp)
  refine (List.pairwise_mergeSort (le := fun x y => decide (x ≤ y)) (fun a b c h1 h2 => ?_) (fun a b => ?_) ss).imp fun h => by simpa using h
  · simp only [decide_eq_true_eq] at *; exact Int.le_trans h1 h2
  · simp only [Bool.or_eq_true, decide_eq_true_eq]; exact Int.le_total a b
theorem maps_size {D : DataW Bool} (h : Go.Maps.IsMap D) : Go.Maps.size D = (intKeys D).length := by
  obtain ⟨es, rfl⟩ := h
  simp [Go.Maps.size, intKeys]
theorem a_SortedK (w : World) (bx bm n : Nat) (cs : List (Int × Int)) (hl : cs.length ≤ 1000000) (hx : Blk w bx #[.map (some bm)] 118) (hT : TallyAt w bm n cs) :
    Calls Tryz.prog 68 #[.func (.func 84) #[] #[.pointer (some ⟨bx, 0, none⟩)]] w fun e w' => ∃ y, e = .returned y ∧ Below w.heap.size w w' ∧ OwnAt w.heap.size w' y 3 1 (keysOf cs).length ((keysOf cs).map (Value.int .i64)) := by
  obtain ⟨D, h1, h2, h3, h4⟩ := hT
  have hp := keys_perm h1 h4
  have hsz : Go.Maps.size D ≤ 1000000 := by
    rw [maps_size h2, ← hp.length_eq]; exact Nat.le_trans (keysOf_len cs) hl
  have hseq : SeqGives Fence.wide 2 Tryz.prog 84 #[.pointer (some ⟨bx, 0, none⟩)] encZ (fun ss => ss.Perm (intKeys D)) (Go.Maps.size D) w :=
    AnyZI.keys_gives (ρ := keysA_ren) { keysA with } Fence.wide _ trivial rfl (by omega) bx bm n D _ hx.lt (hx.cell 0 _ rfl) h1
  have cS := AnyZI.sorted_in sortedA Fence.wide 5 trivial trivial trivial trivial rfl (by omega) (sortsA _) (enters_of Tryz.func83 (by kernel_rfl) rfl) 84 #[.pointer (some ⟨bx, 0, none⟩)] trivial (enters_of Tryz.func84 (by kernel_rfl) rfl) _ _ (by unfold maxLen; omega) (by omega) _ hseq
  change CallsIn _ _ Tryz.prog 68 _ _ _ at cS
  refine (callsIn_wide (n := 5)).1 (cS.mono ?_)
  rintro e w' ⟨v, ss, rfl, hS, hrow, _, hb⟩
  have hss := keys_sorted (keysOf_inc cs) (hS.trans hp.symm)
  rw [hss] at hrow
  have hlen : ss.length = (keysOf cs).length := (hS.trans hp.symm).length_eq
  rw [hlen] at hrow
  have hone : ∀ u ∈ (keysOf cs).map (Value.int .i64), u.oneCell' = true := fun u hu => by
    obtain ⟨x, _, rfl⟩ := List.mem_map.1 hu; rfl
  refine ⟨v, rfl, hb, ⟨⟨⟨hrow.1, ?_⟩, hone⟩, fun b hb' => (hrow.lt b hb').1⟩⟩
  rcases hrow.2 with h | ⟨g, cap, cur, rfl, h0, h'⟩
  · exact .inl h
  · exact .inr ⟨g, cap, cur, rfl, Nat.zero_le _, h'⟩
theorem a_KeysM (w : World) (mb : Option Nat) : Calls Tryz.prog 69 #[.map mb] w fun e w' => ∃ b : Nat, e = .returned (.func (.func 84) #[] #[.pointer (some ⟨b, 0, none⟩)]) ∧ Below w.heap.size w w' ∧ Blk w' b #[.map mb] 118 ∧ ∀ z, z = b → w.heap.size ≤ z := by
  have h := AnyZI.keys_in keysA Fence.wide 5 trivial rfl mb w
  change CallsIn _ _ Tryz.prog 69 _ _ _ at h
  refine (callsIn_wide (n := 5)).1 (h.mono ?_)
  rintro e w' ⟨rfl, rfl⟩
  exact ⟨w.heap.size, rfl, (Below.refl _ w).alloc (Nat.le_refl _) _, Blk.new w _ _, fun z hz => by omega⟩
end Go.Proofs.YtllhohbenniaaaaGreat

/- The spans of a row. Conditions: none. -/
namespace Go.Proofs.YtllhohbenniaaaaGreat
open Go.Proofs Go.RowKit Go.Shelf

/-- an edge whose crossing of row r can be told -/
structure CrossOk (r : Int) (e : EdgeT) : Prop where
  rr : -1073741824 ≤ r ∧ r ≤ 1073741824
  x : -1099511627776 ≤ e.x ∧ e.x ≤ 1099511627776
  y : -1099511627776 ≤ e.y ∧ e.y ≤ 1099511627776
  d : -1099511627776 ≤ e.dx ∧ e.dx ≤ 1099511627776
  dy : 0 < e.dy ∧ e.dy ≤ 1099511627776
  p : -4611686018427387904 ≤ (16 * r + 8 - e.y) * e.dx ∧ (16 * r + 8 - e.y) * e.dx ≤ 4611686018427387904
  at_ : -1073741824 ≤ atE e r ∧ atE e r ≤ 1073741824
  wi : Unit e
theorem crossOk_of {e : EdgeT} {r : Int} (h : EdgeOk e) (hu : Unit e) (h1 : e.fr ≤ r) (h2 : r < e.to) : CrossOk r e := by
  have hr := h.rows; have hx := h.x; have hx2 := h.x2; have hy := h.y; have hy2 := h.y2; have hd := h.dy
  exact ⟨by omega, by omega, by omega, by omega, by omega, h.prod h1 h2, h.at_ h1 h2, hu⟩
theorem crossOk_cut {e : EdgeT} {r f t : Int} (h : CrossOk r e) : CrossOk r (cutE f t e) := ⟨h.rr, h.x, h.y, h.d, h.dy, h.p, h.at_, h.wi⟩
/-- the crossings of a row -/
def crs (r : Int) (es : List EdgeT) : List (Int × Int) := es.map fun e => (atE e r, e.wi)
theorem crs_len (r : Int) (es : List EdgeT) : (crs r es).length = es.length := by simp [crs]
theorem crs_getD {r : Int} {es : List EdgeT} {i : Nat} (h : i < es.length) : (crs r es)[i]? = some (atE (es.getD i dE) r, (es.getD i dE).wi) := by
  unfold crs
  rw [List.getElem?_map, List.getElem?_eq_getElem h, List.getD_eq_getElem?_getD, List.getElem?_eq_getElem h]; rfl
theorem crs_take {r : Int} {es : List EdgeT} {i : Nat} (h : i < es.length) : (crs r es).take (i + 1) = (crs r es).take i ++ [(atE (es.getD i dE) r, (es.getD i dE).wi)] := by
  rw [List.take_add_one, crs_getD h]; rfl
def WiOk (cs : List (Int × Int)) : Prop := ∀ c ∈ cs, c.2 = 1 ∨ c.2 = -1
theorem sumAt_bound {cs : List (Int × Int)} (h : WiOk cs) (x : Int) : -(cs.length : Int) ≤ sumAt cs x ∧ sumAt cs x ≤ cs.length :=
  sumF_bound cs fun c hc => by have := h c hc; split <;> omega
theorem rowTo_bound {cs : List (Int × Int)} (h : WiOk cs) (k : Nat) (hk : k ≤ (keysOf cs).length) : -(cs.length : Int) ≤ (rowTo cs k).1 ∧ (rowTo cs k).1 ≤ cs.length := by
  rw [rowTo_w cs k hk, sum_keys cs (inc_take (keysOf_inc cs) k)]
  exact sumF_bound cs fun c hc => by have := h c hc; split <;> omega
theorem crs_wi {r : Int} {es : List EdgeT} (h : ∀ e ∈ es, CrossOk r e) : WiOk (crs r es) := fun c hc => by
  obtain ⟨e, he, rfl⟩ := List.mem_map.1 hc
  exact (h e he).wi
theorem wiOk_take {cs : List (Int × Int)} (h : WiOk cs) (k : Nat) : WiOk (cs.take k) := fun c hc => h c (List.mem_of_mem_take hc)
theorem live_getD {r : Int} {es : List EdgeT} {i : Nat} (h : ∀ e ∈ liveT r es, CrossOk r e) (hi : i < (liveT r es).length) : CrossOk r ((liveT r es).getD i dE) := by
  refine h _ ?_
  rw [List.getD_eq_getElem?_getD, List.getElem?_eq_getElem hi]; exact List.getElem_mem hi
/-- what is handed on, by place -/
def prs (cs : List (Int × Int)) : List (Int × Int) := (keysOf cs).map fun x => (x, sumAt cs x)
theorem prs_get {cs : List (Int × Int)} {k : Nat} {p : Int × Int} (h : (prs cs)[k]? = some p) : k < (keysOf cs).length ∧ p = ((keysOf cs).getD k 0, sumAt cs ((keysOf cs).getD k 0)) := by
  unfold prs at h
  rw [List.getElem?_map] at h
  by_cases hk : k < (keysOf cs).length
  · rw [List.getElem?_eq_getElem hk] at h
    simp only [Option.map_some, Option.some.injEq] at h
    refine ⟨hk, ?_⟩
    rw [List.getD_eq_getElem?_getD, List.getElem?_eq_getElem hk]; exact h.symm
  · rw [List.getElem?_eq_none (by omega)] at h; cases h
theorem prs_at {cs : List (Int × Int)} {k : Nat} (h : k < (keysOf cs).length) : (prs cs)[k]? = some ((keysOf cs).getD k 0, sumAt cs ((keysOf cs).getD k 0)) := by
  unfold prs
  rw [List.getElem?_map, List.getElem?_eq_getElem h, List.getD_eq_getElem?_getD, List.getElem?_eq_getElem h]; rfl
theorem prs_len (cs : List (Int × Int)) : (prs cs).length = (keysOf cs).length := by simp [prs]
theorem el_int {l : List Int} {i : Nat} (h : i < l.length) : El (l.map (Value.int .i64)) 1 i [.int .i64 (l.getD i 0)] := ⟨rfl, fun f hf => by
  obtain rfl : f = 0 := by omega
  rw [Nat.mul_one, Nat.add_zero, List.getElem?_map, List.getElem?_eq_getElem h, List.getD_eq_getElem?_getD, List.getElem?_eq_getElem h]; rfl⟩
theorem key_bound {cs : List (Int × Int)} {B : Int} (h : ∀ c ∈ cs, -B ≤ c.1 ∧ c.1 ≤ B) {k : Nat} (hk : k < (keysOf cs).length) : -B ≤ (keysOf cs).getD k 0 ∧ (keysOf cs).getD k 0 ≤ B := by
  obtain ⟨c, hc, e⟩ := keysOf_mem.1 (getD_mem hk)
  rw [← e]; exact h c hc
theorem crs_bound {r : Int} {es : List EdgeT} (h : ∀ e ∈ es, CrossOk r e) : ∀ c ∈ crs r es, -1073741824 ≤ c.1 ∧ c.1 ≤ 1073741824 := fun c hc => by
  obtain ⟨e, he, rfl⟩ := List.mem_map.1 hc
  exact (h e he).at_
/-- spans lie between the least place and the greatest -/
theorem rowS_bound {cs : List (Int × Int)} {B : Int} (h : ∀ c ∈ cs, -B ≤ c.1 ∧ c.1 ≤ B) : ∀ s ∈ rowS cs, -B ≤ s.fr ∧ s.fr < s.to ∧ s.to ≤ B := fun s hs => by
  have hq := rowQ cs _ (Nat.le_refl _)
  obtain ⟨h1, h2⟩ := hq.from_ s hs
  obtain ⟨c, hc, e⟩ := keysOf_mem.1 h1
  obtain ⟨c', hc', e'⟩ := keysOf_mem.1 h2
  have b1 := h c hc; have b2 := h c' hc'
  exact ⟨by omega, hq.pos s hs, by omega⟩
theorem rowTo_out_len (cs : List (Int × Int)) : ∀ k, k ≤ (keysOf cs).length → (rowTo cs k).2.2.length ≤ k
  | 0, _ => Nat.le_refl _
  | k + 1, h => by
    have ih := rowTo_out_len cs k (by omega)
    rw [rowTo_succ (by omega)]
    simp only [stepR]
    split
    · omega
    · split
      · rw [List.length_append]; simp; omega
      · omega
theorem rowS_len (cs : List (Int × Int)) : (rowS cs).length ≤ cs.length := Nat.le_trans (rowTo_out_len cs _ (Nat.le_refl _)) (keysOf_len cs)
theorem a_crossed (w : World) (v : Value) (es : List EdgeT) (r : Int) (hn : es.length ≤ 100000) (hV : RowV v es.length) (hrow : RowAt w v 7 es.length (es.flatMap eE)) (hc : ∀ e ∈ liveT r es, CrossOk r e) :
    Calls Tryz.prog 41 #[v, .int .i64 r] w fun e w' => ∃ x : Nat × Nat, e = .returned (.func (.func 67) #[] #[.pointer (some ⟨x.1, 0, none⟩)]) ∧ Below w.heap.size w w' ∧ (Blk w' x.1 #[.map (some x.2)] 118 ∧ TallyAt w' x.2 (liveT r es).length (crs r (liveT r es))) ∧ ∀ b, (b = x.1 ∨ b = x.2) → w.heap.size ≤ b := by
  have hr : ∀ w', Chg (fun _ => False) w w' → RowAt w' v 7 es.length (es.flatMap eE) := fun w' h => hrow.chg h (fun h => h)
  have hll : (liveT r es).length ≤ es.length := List.length_filter_le _ _
  have hcl := crs_len r (liveT r es)
  refine calls_said (args := [v, .int .i64 r]) (fun x : Nat × Nat => .func (.func 67) #[] #[.pointer (some ⟨x.1, 0, none⟩)]) (fun x w' => Blk w' x.1 #[.map (some x.2)] 118 ∧ TallyAt w' x.2 (liveT r es).length (crs r (liveT r es))) (fun x b => b = x.1 ∨ b = x.2) Tryz.func41 rfl Tryz.ntmps41 Tryz.results41 rfl ?_
  refine v_seq ?_
  refine v_region ?_
  refine l_val rfl (o_assign rfl) ?_
  refine l_nil ?_
  refine kt_norm ?_
  refine v_seq ?_
  refine v_region ?_
  refine l_mapNew (fun b w => TallyAt w b 0 []) rfl tally_new (fun _ _ _ h e => tally_st h e) (fun _ _ h => tally_lt h) (fun bm hbm => ?_)
  refine l_new rfl o_alloc fun b5 => ?_
  refine l_store rfl (o_store1 (key := 5) (rs := [_]) rfl rfl rfl rfl rfl rfl rfl) ?_
  refine l_nil ?_
  refine kt_norm ?_
  refine v_seq ?_
  refine v_seq ?_
  refine v_region ?_
  skip
  refine l_val rfl (o_move rfl) ?_
  refine l_val rfl (o_move rfl) ?_
  refine l_gown (ks := []) (caps := #[]) (vs := [_, _]) rfl rfl (ent_of Tryz.func25 rfl rfl) rfl (fun w' hg hh => a_Live w' v es r (by omega) hV (hr w' hg.1)) fun y hy => ?_
  refine l_val rfl (o_len rfl hy) ?_
  refine l_val rfl (o_move rfl) ?_
  refine l_nil ?_
  refine kt_norm ?_
  refine v_block ?_
  refine v_loopL (α := Nat) (fun i => [(13, .int .i64 (i : Int))]) (fun i => []) (fun i => fun w' => Chg (fun _ => False) w w' ∧ TallyAt w' bm i ((crs r (liveT r es)).take i)) (fun i => fun b => (b < w.heap.size ∧ ¬ False) ∨ b = bm) (fun i => i ≤ (liveT r es).length) (fun i => (liveT r es).length - i) 0 [1, 5, 11, 12] [5, 11] (Nat.zero_le _) rfl rfl (And.intro rfl (True.intro)) rfl (True.intro) rfl ?_
  rintro i hi
  refine v_seq ?_
  refine v_region ?_
  refine l_split rfl (o_lss rfl rfl) (fun q1 => ?_) (fun q1 => ?_)
  · have hil : i < (liveT r es).length := by omega
    have hk := live_getD hc hil
    have hka := hk.at_
    have hkw := hk.wi
    unfold Unit at hkw
    have hct := crs_take (r := r) hil
    have hsb := sumAt_bound (wiOk_take (crs_wi hc) i) (atE ((liveT r es).getD i dE) r)
    have htl := List.length_take (i := i) (l := (crs r (liveT r es)))
    refine l_nil ?_
    refine kt_norm ?_
    refine v_seq ?_
    refine v_condT rfl ?_
    refine v_skip ?_
    refine kt_norm ?_
    refine v_seq ?_
    refine v_block ?_
    refine v_seq ?_
    refine v_region ?_
    refine l_val rfl (o_idx (i) rfl hy rfl (by first | rfl | omega) (by omega)) ?_
    refine l_val rfl (o_loadRE (c' := [_, _, _, _, _, _, _]) rfl (row_own (key := 11) rfl) (el_flat eE_len dE (liveT r es) (i) (by omega)) rfl) ?_
    refine l_new rfl o_alloc fun b7 => ?_
    refine l_store rfl (o_storeW (key := 7) (xs := [_, _, _, _, _, _, _]) rfl rfl rfl rfl rfl rfl rfl) ?_
    refine l_nil ?_
    refine kt_norm ?_
    refine v_drawZ [[5], [7], [], [], [], [7]] mixed ?_ (by kernel_rfl) (by kernel_rfl)
    refine d_val (fun _ => rfl) rfl rfl (fun _ => o_load1 (key := 5) rfl rfl rfl) ?_
    refine d_val (fun _ => rfl) rfl rfl (fun _ => o_loadW (key := 7) rfl rfl rfl) ?_
    refine d_val (fun _ => rfl) rfl rfl (fun _ => o_move rfl) ?_
    refine d_ans (vs := [_, _]) (fun _ => rfl) (fun _ => rfl) (a_At ((liveT r es).getD i dE) r hk.rr hk.x hk.y hk.d hk.dy hk.p) ?_
    refine d_val (fun _ => rfl) rfl rfl (fun _ => o_fld rfl) ?_
    refine d_val (fun _ => rfl) rfl rfl (fun _ => o_load1 (key := 7) rfl rfl rfl) ?_
    refine d_nil (fun σ => ?_)
    refine l_gturn (ks := []) (S := fun z => z = bm) (g' := fun w' => Chg (fun _ => False) w w' ∧ TallyAt w' bm (i + 1) ((crs r (liveT r es)).take (i + 1))) (caps := #[]) (vs := [_, _, _]) rfl rfl (ent_of Tryz.func65 rfl rfl) rfl (fun z hz => by subst hz; exact ⟨.inr rfl, .inl hbm⟩) (fun w1 w2 hc h1 => ⟨h1.1.trans (hc.mono fun k _ hk => .inr (Decidable.byContradiction fun hn => hk (.inl ⟨by omega, fun h => h⟩))), tally_st h1.2 (hc.block bm (tally_lt h1.2) fun hn => hn (.inr rfl))⟩) (fun w' hg _ => (a_Tally w' bm i ((crs r (liveT r es)).take i) _ _ (by omega) (by omega) (by omega) (by unfold maxLen; omega) hg.2).mono fun e w2 ⟨e1, e2, e3⟩ => ⟨e1, e2, hg.1.trans (e2.mono fun k _ hk => .inr (by subst hk; exact hbm)), by rw [hct]; exact e3⟩) (fun y2 => ?_)
    refine l_nil ?_
    refine kb_norm ?_
    refine kt_norm ?_
    refine v_sel [13, 1, 5, 11, 12] [5, 11] rfl rfl ?_
    refine v_region ?_
    refine l_val rfl (o_addi rfl rfl ?_) ?_
    · omega
    refine l_val rfl (o_move rfl) ?_
    refine l_nil ?_
    refine kt_norm ?_
    refine ⟨i + 1, hil, by omega, le_app (And.intro rfl (True.intro)) [1, 5, 11, 12] rfl (True.intro) [5, 11] rfl⟩
  · skip
    refine l_nil ?_
    refine kt_norm ?_
    refine v_seq ?_
    refine v_condF rfl ?_
    refine v_exit ?_
    refine kt_exit ?_
    refine kt_exit ?_
    refine kb_eq ?_
    refine kt_norm ?_
    refine v_seq ?_
    refine v_region ?_
    obtain rfl : i = (liveT r es).length := by omega
    refine l_val rfl (o_makeFunc (vs := [_]) rfl) ?_
    refine l_val rfl (o_assign rfl) ?_
    refine l_nil ?_
    refine kt_norm ?_
    refine v_sel [4] [5, 11] rfl rfl ?_
    refine v_ret ?_
    refine ⟨[_], .cons (.tmp rfl) (ResAll.nil), ?_⟩
    exact ⟨(b5, bm), rfl, fun w' ho => ⟨⟨(ho.mo 5 _ rfl).1, by have h1 := ho.gh.2; rw [List.take_of_length_le (by omega)] at h1; exact h1⟩, fun b hb => by rcases hb with rfl | rfl; exact ((ho.mo 5 _ rfl).2 _ rfl).elim id False.elim; exact hbm⟩⟩
set_option maxHeartbeats 1000000 in
theorem a_crossed1 (bx bm n : Nat) (cs : List (Int × Int)) (hl : cs.length ≤ 1000000) (hB : ∀ c ∈ cs, -1073741824 ≤ c.1 ∧ c.1 ≤ 1073741824) : Iter Tryz.prog 67 #[.pointer (some ⟨bx, 0, none⟩)] (fun p : Int × Int => [.int .i64 p.1, .int .i64 p.2]) (prs cs) (fun w => Blk w bx #[.map (some bm)] 118 ∧ TallyAt w bm n cs) := by
  intro lp J Jx O0 W hJ hJx hJG hround hJ0
  have gst : ∀ {w w' : World}, Blk w bx #[.map (some bm)] 118 ∧ TallyAt w bm n cs → Chg (fun _ => False) w w' → Blk w' bx #[.map (some bm)] 118 ∧ TallyAt w' bm n cs := fun h hc => ⟨(hc.block bx (Blk.lt h.1) (fun h => h)).trans h.1, tally_st h.2 (hc.block bm (tally_lt h.2) (fun h => h))⟩
  have hG0 := (hJG _ _ _ hJ0).1
  have hkl := keysOf_len cs
  refine enterI (A := fun W' => (∃ O', J (prs cs).length O' W') ∨ Jx W') (args := [.func (.yield lp) #[] #[], .pointer (some ⟨bx, 0, none⟩)]) Tryz.func67 rfl Tryz.ntmps67 Tryz.results67 rfl (fun w w' h hc => h.imp (fun ⟨O, h⟩ => ⟨O, hJ _ _ _ _ h hc⟩) (fun h => hJx _ _ h hc)) ?_
  refine v_seq ?_
  refine v_region ?_
  refine l_val rfl (o_loadG1 rfl (fun w hg => (gst hG0 hg).1.cell 0 _ rfl)) ?_
  refine l_gsaid (ks := []) (fun b : Nat => .func (.func 84) #[] #[.pointer (some ⟨b, 0, none⟩)]) (fun b w => Blk w b #[.map (some bm)] 118) (fun b z => z = b) (caps := #[]) (vs := [_]) rfl rfl (ent_of Tryz.func69 rfl rfl) rfl (fun b w1 w2 h e => (e b rfl).trans h) (fun b w1 z h e => by subst e; exact Blk.lt h) (fun w' hg _ => a_KeysM w' (some bm)) (fun b6 => ?_)
  refine l_gownB (ks := []) (caps := #[]) (vs := [_]) rfl rfl (ent_of Tryz.func68 rfl rfl) rfl (fun w' hg _ => a_SortedK w' b6 bm n cs hl hg.2 (gst hG0 hg.1).2) (fun y7 hy7 hyb => ?_)
  refine l_val rfl (o_len rfl hy7) ?_
  refine l_val rfl (o_move rfl) ?_
  refine l_nil ?_
  refine kt_norm ?_
  refine v_block ?_
  refine v_rebase (fun _ => trivial) (fun h => h) (fun W1 hg1 hm1 => ?_)
  have hok1 : (Hp.own y7 3 1 (keysOf cs).length ((keysOf cs).map (Value.int .i64))).ok W1 := hm1 7 _ rfl
  have hJ1 : J 0 O0 W1 := hJ _ _ _ _ hJ0 hg1.1
  have hO1 : ∀ b, y7.ownBlock = some b → ¬ O0 b := fun b hb ho => by have h1 := (hJG _ _ _ hJ0).2 b ho; have h2 : W.heap.size ≤ b := hyb b hb; omega
  refine v_loopL (α := Nat × World) (fun ⟨i, W2⟩ => [(9, .int .i64 (i : Int))]) (fun ⟨i, W2⟩ => []) (fun ⟨i, W2⟩ => fun w => Chg (fun _ => False) W2 w) (fun ⟨i, W2⟩ => fun b => b < W2.heap.size) (fun ⟨i, W2⟩ => i ≤ (keysOf cs).length ∧ ∃ O2, J i O2 W2 ∧ (∀ b, y7.ownBlock = some b → ¬ O2 b) ∧ (Hp.own y7 3 1 (keysOf cs).length ((keysOf cs).map (Value.int .i64))).ok W2) (fun ⟨i, W2⟩ => (keysOf cs).length - i) (0, W1) [0, 1, 7, 8] [] ⟨Nat.zero_le _, O0, hJ1, hO1, hok1⟩ rfl rfl (And.intro rfl (True.intro)) rfl (True.intro) rfl ?_
  rintro ⟨i, W2⟩ ⟨hi, O2, hJ2, hO2, hok2⟩
  have hrowK := fun w (hg : Chg (fun _ => False) W2 w) => (rowAt_own hok2).chg hg (fun h => h)
  have hGk := fun w (hg : Chg (fun _ => False) W2 w) => gst (hJG _ _ _ hJ2).1 hg
  refine v_seq ?_
  refine v_region ?_
  refine l_split rfl (o_lss rfl rfl) (fun q1 => ?_) (fun q1 => ?_)
  · have hil : i < (keysOf cs).length := by omega
    have hkb := key_bound hB hil
    refine l_nil ?_
    refine kt_norm ?_
    refine v_seq ?_
    refine v_condT rfl ?_
    refine v_skip ?_
    refine kt_norm ?_
    refine v_seq ?_
    refine v_block ?_
    refine v_seq ?_
    refine v_region ?_
    refine l_val rfl (o_idx (i) rfl hy7 rfl (by first | rfl | omega) (by omega)) ?_
    refine l_val rfl (o_loadR1 rfl (row_imm hrowK) (el_int (by omega))) ?_
    refine l_val rfl (o_assign rfl) ?_
    refine l_nil ?_
    refine kt_norm ?_
    refine v_seq ?_
    refine v_region ?_
    refine l_val rfl (o_move rfl) ?_
    refine l_val rfl (o_move rfl) ?_
    refine l_val rfl (o_loadG1 rfl (fun w hg => (hGk w hg).1.cell 0 _ rfl)) ?_
    refine l_val rfl (o_move rfl) ?_
    refine l_val rfl (o_lookup (b := bm) rfl rfl (fun w hg => tally_look (hGk w hg).2 (wf_of (by omega)))) ?_
    refine l_yield (k := 0) (vs := [_, _]) (A := fun W3 => ∃ O3, J (i + 1) O3 W3 ∧ (∀ b, y7.ownBlock = some b → ¬ O3 b) ∧ (Hp.own y7 3 1 (keysOf cs).length ((keysOf cs).map (Value.int .i64))).ok W3) (B := Jx) rfl rfl (fun _ => trivial) (fun h => h) rfl rfl rfl (fun w hg => ⟨O2, yieldAt_mono (hround _ _ O2 w (prs_at hil) (hJ _ _ _ _ hJ2 hg)) (fun e w2 h => h.imp (fun h => ⟨h.1, h.2.1, h.2.2.imp fun O3 h3 => ⟨h3.1, yield_keeps hok2 hg hO2 h.2.1 h3.2⟩⟩) id)⟩) (fun W3 hA => ?_) (fun W3 hBx => ?_)
    · obtain ⟨O3, hJ3, hO3, hok3⟩ := hA
      refine l_val rfl (o_not rfl rfl) ?_
      refine l_nil ?_
      refine kt_norm ?_
      refine v_sel [9, 0, 1, 7, 8, 19] [] rfl rfl ?_
      refine v_condF rfl ?_
      refine v_skip ?_
      refine kb_norm ?_
      refine kt_norm ?_
      refine v_region ?_
      refine l_val rfl (o_addi rfl rfl ?_) ?_
      · omega
      refine l_val rfl (o_move rfl) ?_
      refine l_nil ?_
      refine kt_norm ?_
      refine ⟨(i + 1, W3), ⟨hil, O3, hJ3, hO3, hok3⟩, (by show (keysOf cs).length - (i + 1) < (keysOf cs).length - i; omega), le_app (And.intro rfl (True.intro)) [0, 1, 7, 8] rfl (True.intro) [] rfl⟩
    · skip
      refine l_val rfl (o_not rfl rfl) ?_
      refine l_nil ?_
      refine kt_norm ?_
      refine v_sel [9, 0, 1, 7, 8, 19] [] rfl rfl ?_
      refine v_condT rfl ?_
      refine v_ret ?_
      refine kb_ret ?_
      refine kt_ret ?_
      refine kt_ret ?_
      refine kb_ret ?_
      refine ⟨[], ResAll.nil, ?_⟩
      first
        | exact ⟨rfl, fun w hg => .inr (hJx _ _ hBx hg)⟩
        | exact ⟨rfl, fun w hg => .inl ⟨O2, hJ _ _ _ _ (by rw [prs_len, show (keysOf cs).length = i by omega]; exact hJ2) hg⟩⟩
  · skip
    refine l_nil ?_
    refine kt_norm ?_
    refine v_seq ?_
    refine v_condF rfl ?_
    refine v_exit ?_
    refine kt_exit ?_
    refine kt_exit ?_
    refine kb_eq ?_
    refine ⟨[], ResAll.nil, ?_⟩
    first
      | exact ⟨rfl, fun w hg => .inr (hJx _ _ hBx hg)⟩
      | exact ⟨rfl, fun w hg => .inl ⟨O2, hJ _ _ _ _ (by rw [prs_len, show (keysOf cs).length = i by omega]; exact hJ2) hg⟩⟩
set_option maxHeartbeats 1000000 in
theorem a_Spans (w : World) (v : Value) (es : List EdgeT) (r : Int) (hn : es.length ≤ 100000) (hV : RowV v es.length) (hrow : RowAt w v 7 es.length (es.flatMap eE)) (hc : ∀ e ∈ liveT r es, CrossOk r e) :
    Calls Tryz.prog 18 #[v, .int .i64 r] w fun e w' => ∃ y, e = .returned y ∧ Below w.heap.size w w' ∧ OwnAt w.heap.size w' y 77 2 (rowS (crs r (liveT r es))).length ((rowS (crs r (liveT r es))).flatMap eS) := by
  have hr : ∀ w', Chg (fun _ => False) w w' → RowAt w' v 7 es.length (es.flatMap eE) := fun w' h => hrow.chg h (fun h => h)
  have hll : (liveT r es).length ≤ es.length := List.length_filter_le _ _
  have hcl := crs_len r (liveT r es)
  have hkl := keysOf_len (crs r (liveT r es))
  refine calls_own (args := [v, .int .i64 r]) Tryz.func18 rfl Tryz.ntmps18 Tryz.results18 rfl ?_
  refine v_seq ?_
  refine v_region ?_
  refine l_new rfl o_alloc fun b4 => ?_
  refine l_nil ?_
  refine kt_norm ?_
  refine v_seq ?_
  refine v_region ?_
  refine l_new rfl o_alloc fun b5 => ?_
  refine l_new rfl o_alloc fun b6 => ?_
  refine l_store rfl (o_store1 (key := 5) (rs := [_]) rfl rfl rfl rfl rfl rfl rfl) ?_
  refine l_store rfl (o_store1 (key := 6) (rs := [_]) rfl rfl rfl rfl rfl rfl rfl) ?_
  refine l_nil ?_
  refine kt_norm ?_
  refine v_seq ?_
  refine v_seq ?_
  refine v_region ?_
  refine l_val rfl (o_move rfl) ?_
  refine l_val rfl (o_move rfl) ?_
  refine l_gsaid (ks := []) (fun x : Nat × Nat => .func (.func 67) #[] #[.pointer (some ⟨x.1, 0, none⟩)]) (fun x w' => Blk w' x.1 #[.map (some x.2)] 118 ∧ TallyAt w' x.2 (liveT r es).length (crs r (liveT r es))) (fun x b => b = x.1 ∨ b = x.2) (caps := #[]) (vs := [_, _]) rfl rfl (ent_of Tryz.func41 rfl rfl) rfl (fun x w1 w2 h e => ⟨(e x.1 (.inl rfl)).trans h.1, tally_st h.2 (e x.2 (.inr rfl))⟩) (fun x w1 b h hb => by rcases hb with rfl | rfl; exact Blk.lt h.1; exact tally_lt h.2) (fun w' hg _ => a_crossed w' v es r hn hV (hr w' hg) hc) (fun x12 => ?_)
  refine l_nil ?_
  refine kt_norm ?_
  refine v_block ?_
  refine v_ghost 31 77 2 ?_
  refine v_range (τ := Value × RowS) rfl rfl rfl (ent_of Tryz.func67 rfl rfl) (a_crossed1 x12.1 x12.2 (liveT r es).length (crs r (liveT r es)) (by omega) (crs_bound hc)) (fun w' hg => hg.2) (fun _ => rfl) (fun t => [(4, .box b4 49 [t.1]), (5, .box b5 3 [.int .i64 t.2.1]), (6, .box b6 3 [.int .i64 t.2.2.1]), (31, .own t.1 77 2 t.2.2.2.length (t.2.2.2.flatMap eS))]) (fun k t => t.2 = rowTo (crs r (liveT r es)) k ∧ RowV t.1 t.2.2.2.length) (.slice none 0 0, 0, 0, []) ⟨rfl, .nil0⟩ [4, 5, 6, 31] rfl ?_ ?_
  · rintro k x ⟨va, wn, fr, out⟩ lp W1 Wa hx ⟨hs, hva⟩
    dsimp only at hs hva
    obtain ⟨hk, rfl⟩ := prs_get hx
    have e1 : wn = (rowTo (crs r (liveT r es)) k).1 := by rw [← hs]
    have e3 : out = (rowTo (crs r (liveT r es)) k).2.2 := by rw [← hs]
    have hb1 := rowTo_bound (crs_wi hc) k (by omega)
    have hb2 := sumAt_bound (crs_wi hc) ((keysOf (crs r (liveT r es))).getD k 0)
    have hb3 := rowTo_out_len (crs r (liveT r es)) k (by omega)
    rw [← e1] at hb1
    rw [← e3] at hb3
    dsimp only
    refine v_seq ?_
    refine v_region ?_
    refine l_val rfl (o_assign rfl) ?_
    refine l_nil ?_
    refine kt_norm ?_
    refine v_region ?_
    refine l_val rfl (o_assign rfl) ?_
    refine l_nil ?_
    refine ⟨rfl, rfl, rfl, rfl, fun W2 Wb => ?_⟩
    refine v_block ?_
    refine v_seq ?_
    refine v_region ?_
    refine l_val rfl (o_load1 (key := 5) rfl rfl rfl) ?_
    refine l_val rfl (o_assign rfl) ?_
    refine l_nil ?_
    refine kt_norm ?_
    refine v_sel [0, 1, 4, 5, 6, 7, 8, 9] [4, 5, 6, 31] rfl rfl ?_
    refine v_seq ?_
    refine v_region ?_
    refine l_val rfl (o_load1 (key := 5) rfl rfl rfl) ?_
    refine l_val rfl (o_move rfl) ?_
    refine l_val rfl (o_addi rfl rfl ?_) ?_
    · omega
    refine l_store rfl (o_store1 (key := 5) (rs := [_]) rfl rfl rfl rfl rfl rfl rfl) ?_
    refine l_nil ?_
    refine kt_norm ?_
    refine v_block ?_
    refine v_seq ?_
    refine v_region ?_
    refine l_val rfl (o_move rfl) ?_
    refine l_split rfl (o_eql rfl rfl) (fun h71 => ?_) (fun h71 => ?_)
    · skip
      refine l_val rfl (o_assign rfl) ?_
      refine l_nil ?_
      refine kt_norm ?_
      refine v_sel [0, 1, 4, 5, 6, 7, 8, 19] [4, 5, 6, 31] rfl rfl ?_
      refine v_condT rfl ?_
      refine v_region ?_
      refine l_val rfl (o_move rfl) ?_
      refine l_store rfl (o_store1 (key := 6) (rs := [_]) rfl rfl rfl rfl rfl rfl rfl) ?_
      refine l_nil ?_
      refine kb_norm ?_
      refine kb_norm ?_
      exact ⟨rfl, (va, wn + sumAt (crs r (liveT r es)) ((keysOf (crs r (liveT r es))).getD k 0), ((keysOf (crs r (liveT r es))).getD k 0), out), ⟨by rw [rowTo_succ hk, ← hs, stepR0 h71], hva⟩, ⟨fun _ _ h => (by cases h), leL_ok _ (And.intro rfl (And.intro rfl (And.intro rfl (And.intro rfl True.intro)))), rfl, rfl, rfl⟩⟩
    · skip
      refine l_val rfl (o_assign rfl) ?_
      refine l_nil ?_
      refine kt_norm ?_
      refine v_sel [0, 1, 4, 5, 6, 7, 8, 19] [4, 5, 6, 31] rfl rfl ?_
      refine v_condF rfl ?_
      refine v_seq ?_
      refine v_region ?_
      refine l_val rfl (o_load1 (key := 5) rfl rfl rfl) ?_
      refine l_split rfl (o_eql rfl rfl) (fun h91 => ?_) (fun h91 => ?_)
      · skip
        refine l_val rfl (o_assign rfl) ?_
        refine l_nil ?_
        refine kt_norm ?_
        refine v_condT rfl ?_
        refine v_region ?_
        refine l_val rfl (o_load1 (key := 4) rfl rfl rfl) ?_
        refine l_val rfl (o_load1 (key := 6) rfl rfl rfl) ?_
        refine l_val rfl (o_move rfl) ?_
        refine l_val rfl (o_build (vs := [_, _]) (cs := [_, _]) rfl rfl) ?_
        refine l_buildSlice (vs := [_]) (cs := [_, _]) rfl rfl rfl rfl rfl rfl fun v30 hv30 => ?_
        refine l_append 31 [4, 5, 6, 30] rfl rfl rfl rfl rfl rfl rfl hv30 (row_own (key := 30) rfl) (by omega) fun v31 hv31 => ?_
        refine l_store rfl (o_store1 (key := 4) (rs := [_]) rfl rfl (rowV_cells hv31) rfl rfl (rowV_one hv31) rfl) ?_
        refine l_nil ?_
        refine kb_norm ?_
        refine kb_norm ?_
        exact ⟨rfl, (v31, wn + sumAt (crs r (liveT r es)) ((keysOf (crs r (liveT r es))).getD k 0), fr, out ++ [⟨fr, ((keysOf (crs r (liveT r es))).getD k 0)⟩]), ⟨by rw [rowTo_succ hk, ← hs, stepR1 h71 h91], by rw [List.length_append]; exact hv31⟩, ⟨fun _ _ h => (by cases h), leL_ok _ (And.intro rfl (And.intro rfl (And.intro rfl (And.intro (congrArg some (own_congr (by simp) (by simp [eS]))) True.intro)))), rfl, rfl, rfl⟩⟩
      · skip
        refine l_val rfl (o_assign rfl) ?_
        refine l_nil ?_
        refine kt_norm ?_
        refine v_condF rfl ?_
        refine v_skip ?_
        refine kb_norm ?_
        refine kb_norm ?_
        exact ⟨rfl, (va, wn + sumAt (crs r (liveT r es)) ((keysOf (crs r (liveT r es))).getD k 0), fr, out), ⟨by rw [rowTo_succ hk, ← hs, stepR2 h71 h91], hva⟩, ⟨fun _ _ h => (by cases h), leL_ok _ (And.intro rfl (And.intro rfl (And.intro rfl (And.intro rfl True.intro)))), rfl, rfl, rfl⟩⟩
  · rintro ⟨va, wn, fr, out⟩ D ⟨hs, hva⟩
    dsimp only at hs hva
    rw [prs_len] at hs
    obtain rfl : out = rowS (crs r (liveT r es)) := congrArg (fun t : RowS => t.2.2) hs
    refine kb_norm ?_
    refine kt_norm ?_
    refine v_sel [4] [4, 31] rfl rfl ?_
    refine v_seq ?_
    refine v_region ?_
    refine l_val rfl (o_load1 (key := 4) rfl rfl rfl) ?_
    refine l_store rfl (o_store1 (key := 4) (rs := [_]) rfl rfl (rowV_cells hva) rfl rfl (rowV_one hva) rfl) ?_
    refine l_nil ?_
    refine kt_norm ?_
    refine v_ret ?_
    refine ⟨[_], .cons (.cell1 (key := 4) rfl rfl) (ResAll.nil), ?_⟩
    exact ⟨31, rfl⟩
end Go.Proofs.YtllhohbenniaaaaGreat

/- Spans cut, summed, asked; all edges of some pieces. Conditions: none. -/
namespace Go.Proofs.YtllhohbenniaaaaGreat
open Go.Proofs Go.RowKit Go.Shelf

theorem clip_take {lo hi : Int} {l : List SpanT} {i : Nat} (h : i < l.length) : clipT lo hi (l.take (i + 1)) = clipT lo hi (l.take i) ++ (if (clipS lo hi (l.getD i dS)).fr < (clipS lo hi (l.getD i dS)).to then [clipS lo hi (l.getD i dS)] else []) := by
  rw [List.take_add_one, List.getElem?_eq_getElem h, List.getD_eq_getElem?_getD, List.getElem?_eq_getElem h]
  exact clipT_snoc lo hi _ _
theorem sumS_take {l : List SpanT} {i : Nat} (h : i < l.length) : sumS (l.take (i + 1)) = sumS (l.take i) + ((l.getD i dS).to - (l.getD i dS).fr) := by
  rw [List.take_add_one, List.getElem?_eq_getElem h, sumS_append, List.getD_eq_getElem?_getD, List.getElem?_eq_getElem h]
  simp [sumS, sumF]
/-- spans whose ends can be reckoned with -/
def SpOk (l : List SpanT) : Prop := ∀ s ∈ l, -2199023255552 ≤ s.fr ∧ s.fr ≤ s.to ∧ s.to ≤ 2199023255552
theorem spOk_getD {l : List SpanT} (h : SpOk l) {i : Nat} (hi : i < l.length) : -2199023255552 ≤ (l.getD i dS).fr ∧ (l.getD i dS).fr ≤ (l.getD i dS).to ∧ (l.getD i dS).to ≤ 2199023255552 := by
  rw [List.getD_eq_getElem?_getD, List.getElem?_eq_getElem hi]; exact h _ (List.getElem_mem hi)
theorem spOk_take {l : List SpanT} (h : SpOk l) (k : Nat) : SpOk (l.take k) := fun s hs => h s (List.mem_of_mem_take hs)
theorem sumS_ok {l : List SpanT} (h : SpOk l) : 0 ≤ sumS l ∧ sumS l ≤ 4398046511104 * l.length := sumS_bound l fun s hs => by have := h s hs; omega
theorem spOk_clip {l : List SpanT} (h : SpOk l) (lo hi : Int) : SpOk (clipT lo hi l) := fun s hs => by
  obtain ⟨h1, h2, h3, t, ht, h4, h5⟩ := clipT_bound hs
  have := h t ht; omega
def idxS (p : SpanT → Bool) (l : List SpanT) : Int := if l.findIdx p = l.length then -1 else ((l.findIdx p : Nat) : Int)
theorem idxS_yes {p : SpanT → Bool} {l : List SpanT} {i : Nat} (hi : i < l.length) (hb : ∀ j, j < i → p (l.getD j dS) = false) (h : p (l.getD i dS) = true) : idxS p l = i := by
  have e : l.findIdx p = i := (List.findIdx_eq hi).2 ⟨by simpa [List.getD_eq_getElem?_getD, hi] using h, fun j hj => by
    have := hb j hj
    simpa [List.getD_eq_getElem?_getD, show j < l.length by omega] using this⟩
  unfold idxS; rw [e, if_neg (by omega)]
theorem idxS_no {p : SpanT → Bool} {l : List SpanT} (hb : ∀ j, j < l.length → p (l.getD j dS) = false) : idxS p l = -1 := by
  have e : l.findIdx p = l.length := List.findIdx_eq_length.2 fun x hx => by
    obtain ⟨j, hj, rfl⟩ := List.getElem_of_mem hx
    simpa [List.getD_eq_getElem?_getD, hj] using hb j hj
  unfold idxS; rw [if_pos e]
theorem idxS_any (p : SpanT → Bool) (l : List SpanT) : decide (0 ≤ idxS p l) = l.any p := by
  unfold idxS
  by_cases h : l.findIdx p = l.length
  · rw [if_pos h]
    have := List.findIdx_eq_length.1 h
    rw [Bool.eq_iff_iff]
    simp only [decide_eq_true_eq, List.any_eq_true]
    exact ⟨fun h => by omega, fun ⟨x, hx, e⟩ => by have := this x hx; rw [e] at this; cases this⟩
  · rw [if_neg h]
    have hlt : l.findIdx p < l.length := by have := List.findIdx_le_length (p := p) (xs := l); omega
    have := (List.findIdx_eq hlt).1 rfl
    rw [Bool.eq_iff_iff]
    simp only [decide_eq_true_eq, List.any_eq_true]
    exact ⟨fun _ => ⟨_, List.getElem_mem hlt, this.1⟩, fun _ => by omega⟩
/-- bounds of these statements -/
def Bn20 (ps : List (List PtT)) : Prop := ps.length ≤ 12 ∧ ∀ i, i < ps.length → BndP (ps.getD i [])
instance (ps : List (List PtT)) : Decidable (Bn20 ps) := by unfold Bn20; infer_instance
theorem Bn20.bnd {ps : List (List PtT)} (h : Bn20 ps) : Bnd ps := ⟨by have := h.1; omega, h.2⟩
theorem all_cross {ps : List (List PtT)} (h : Bnd ps) (r : Int) : ∀ e ∈ liveT r (edgesAll ps), CrossOk r e := fun e he => by
  have h1 := mem_live he
  have h2 := edgesAll_ok h e h1.1
  exact crossOk_of h2.1 h2.2 h1.2.1 h1.2.2
/-- pieces, a few more of them -/
def BndX (ps : List (List PtT)) : Prop := ps.length ≤ 24 ∧ ∀ i, i < ps.length → BndP (ps.getD i [])
theorem Bnd.x {ps : List (List PtT)} (h : Bnd ps) : BndX ps := ⟨by have := h.1; omega, h.2⟩
theorem BndX.mem {ps : List (List PtT)} (h : BndX ps) {pc : List PtT} (hp : pc ∈ ps) : BndP pc := by
  obtain ⟨i, hi, rfl⟩ := List.getElem_of_mem hp
  have := h.2 i hi
  rwa [List.getD_eq_getElem?_getD, List.getElem?_eq_getElem hi] at this
theorem BndX.pcsV {v : Value} {pvs : List Value} {ps : List (List PtT)} (h : BndX ps) (hv : PcsW v pvs ps) : PcsV v pvs ps :=
  ⟨hv.V, hv.lenv, by have := h.1; omega, hv.pV, fun i hi => by have := (h.2 i hi).1; omega, fun i hi => (h.2 i hi).near⟩
theorem edgesAll_lenX {ps : List (List PtT)} (h : BndX ps) : (edgesAll ps).length ≤ 384 := by
  have h1 : ∀ (q : List (List PtT)), (∀ pc ∈ q, pc.length ≤ 16) → (edgesAll q).length ≤ 16 * q.length := fun q => by
    induction q with
    | nil => intro _; exact Nat.le_refl _
    | cons pc r ih =>
      intro hq
      have h2 := ih fun x hx => hq x (List.mem_cons_of_mem _ hx)
      have h3 := hq pc List.mem_cons_self
      have h4 := edgesTo_len pc pc.length
      have e : edgesAll (pc :: r) = edgesOf pc ++ edgesAll r := by simp [edgesAll]
      rw [e, List.length_append, List.length_cons, edgesOf]
      omega
  have h5 := h1 ps fun pc hpc => (h.mem hpc).1
  have := h.1
  omega
theorem all_crossX {ps : List (List PtT)} (h : BndX ps) (r : Int) : ∀ e ∈ liveT r (edgesAll ps), CrossOk r e := fun e he => by
  have h1 := mem_live he
  obtain ⟨pc, hp, hm⟩ := List.mem_flatMap.1 h1.1
  have h2 := edgesAll_ok (bnd_one.2 (h.mem hp)) e (by simpa [edgesAll] using hm)
  exact crossOk_of h2.1 h2.2 h1.2.1 h1.2.2
theorem all_spOk {ps : List (List PtT)} (h : Bnd ps) (r : Int) : SpOk (rowS (crs r (liveT r (edgesAll ps)))) := fun s hs => by
  have := rowS_bound (crs_bound (all_cross h r)) s hs; omega
theorem a_Clip (w : World) (v : Value) (l : List SpanT) (lo hi : Int) (hn : l.length ≤ 1000000) (hV : RowV v l.length) (hrow : RowAt w v 2 l.length (l.flatMap eS)) :
    Calls Tryz.prog 34 #[v, .int .i64 lo, .int .i64 hi] w fun e w' => ∃ y, e = .returned y ∧ Below w.heap.size w w' ∧ OwnAt w.heap.size w' y 77 2 (clipT lo hi l).length ((clipT lo hi l).flatMap eS) := by
  have hr : ∀ w', Chg (fun _ => False) w w' → RowAt w' v 2 l.length (l.flatMap eS) := fun w' h => hrow.chg h (fun h => h)
  refine calls_own (args := [v, .int .i64 lo, .int .i64 hi]) Tryz.func34 rfl Tryz.ntmps34 Tryz.results34 rfl ?_
  refine v_ghost 33 77 2 ?_
  refine v_seq ?_
  refine v_region ?_
  refine l_val rfl (o_assign rfl) ?_
  refine l_nil ?_
  refine kt_norm ?_
  refine v_seq ?_
  refine v_seq ?_
  refine v_region ?_
  refine l_val rfl (o_move rfl) ?_
  refine l_val rfl (o_len rfl hV) ?_
  refine l_val rfl (o_move rfl) ?_
  refine l_nil ?_
  refine kt_norm ?_
  refine v_block ?_
  refine v_loopS (α := Nat × Value) (fun ⟨i, v6⟩ => [(11, .int .i64 (i : Int)), (6, v6)]) (fun ⟨i, v6⟩ => [(33, Hp.own v6 77 2 (clipT lo hi (l.take i)).length ((clipT lo hi (l.take i)).flatMap eS))])  (fun ⟨i, v6⟩ => i ≤ l.length ∧ RowV v6 (clipT lo hi (l.take i)).length) (fun ⟨i, v6⟩ => l.length - i) (0, .slice none 0 0) [1, 2, 9, 10] [] ⟨Nat.zero_le _, .nil0⟩  (And.intro rfl (And.intro rfl (True.intro))) rfl (And.intro rfl (True.intro)) rfl ?_
  rintro ⟨i, v6⟩ ⟨hi_, hv6⟩
  refine v_seq ?_
  refine v_region ?_
  refine l_split rfl (o_lss rfl rfl) (fun q1 => ?_) (fun q1 => ?_)
  · have hil : i < l.length := by omega
    have hct := clip_take (lo := lo) (hi := hi) hil
    refine l_nil ?_
    refine kt_norm ?_
    refine v_seq ?_
    refine v_condT rfl ?_
    refine v_skip ?_
    refine kt_norm ?_
    refine v_seq ?_
    refine v_block ?_
    refine v_seq ?_
    refine v_region ?_
    refine l_val rfl (o_idx (i) rfl hV rfl (by first | rfl | omega) (by omega)) ?_
    refine l_val rfl (o_loadRE (c' := [_, _]) rfl (row_imm hr) (el_flat eS_len dS l (i) (by omega)) rfl) ?_
    refine l_new rfl o_alloc fun b8 => ?_
    refine l_store rfl (o_storeW (key := 8) (xs := [_, _]) rfl rfl rfl rfl rfl rfl rfl) ?_
    refine l_nil ?_
    refine kt_norm ?_
    refine v_seq ?_
    refine v_region ?_
    refine l_val rfl (o_fld rfl) ?_
    refine l_val rfl (o_load1 (key := 8) rfl rfl rfl) ?_
    refine l_val rfl (o_move rfl) ?_
    refine l_val rfl (o_max rfl rfl) ?_
    refine l_val rfl (o_fld rfl) ?_
    refine l_val rfl (o_load1 (key := 8) rfl rfl rfl) ?_
    refine l_val rfl (o_move rfl) ?_
    refine l_val rfl (o_min rfl rfl) ?_
    refine l_val rfl (o_fld rfl) ?_
    refine l_store rfl (o_store1 (key := 8) (rs := [_, _]) rfl rfl rfl rfl rfl rfl rfl) ?_
    refine l_val rfl (o_fld rfl) ?_
    refine l_store rfl (o_store1 (key := 8) (rs := [_, _]) rfl rfl rfl rfl rfl rfl rfl) ?_
    refine l_nil ?_
    refine kt_norm ?_
    refine v_sel [11, 6, 1, 2, 9, 10, 8] [8, 33] rfl rfl ?_
    refine v_seq ?_
    refine v_region ?_
    refine l_val rfl (o_fld rfl) ?_
    refine l_val rfl (o_load1 (key := 8) rfl rfl rfl) ?_
    refine l_val rfl (o_fld rfl) ?_
    refine l_val rfl (o_load1 (key := 8) rfl rfl rfl) ?_
    refine l_split rfl (o_lss rfl rfl) (fun hlt => ?_) (fun hlt => ?_)
    · have hc1 : (clipS lo hi (l.getD i dS)).fr < (clipS lo hi (l.getD i dS)).to := hlt
      refine l_nil ?_
      refine kt_norm ?_
      refine v_condT rfl ?_
      refine v_region ?_
      refine l_val rfl (o_move rfl) ?_
      refine l_val rfl (o_loadW (key := 8) rfl rfl rfl) ?_
      refine l_buildSlice (vs := [_]) (cs := [_, _]) rfl rfl rfl rfl rfl rfl fun v32 hv32 => ?_
      refine l_append 33 [8, 32] rfl rfl rfl rfl rfl rfl rfl hv32 (row_own (key := 32) rfl) (by have h1 := clipT_len lo hi (l.take i); have h2 := List.length_take (i := i) (l := l); omega) fun v33 hv33 => ?_
      refine l_val rfl (o_assign rfl) ?_
      refine l_nil ?_
      refine kb_norm ?_
      refine kt_norm ?_
      refine v_sel [11, 6, 1, 2, 9, 10] [33] rfl rfl ?_
      refine v_region ?_
      refine l_val rfl (o_addi rfl rfl ?_) ?_
      · omega
      refine l_val rfl (o_move rfl) ?_
      refine l_nil ?_
      refine kt_norm ?_
      refine ⟨(i + 1, v33), ⟨hil, by rw [hct, if_pos hc1, List.length_append]; exact hv33⟩, (by show l.length - (i + 1) < l.length - i; omega), le_app (And.intro rfl (And.intro rfl (True.intro))) [1, 2, 9, 10] rfl (And.intro (congrArg some (own_congr (by rw [hct, if_pos hc1, List.length_append]; rfl) (by rw [hct, if_pos hc1, List.flatMap_append]; simp [eS, clipS]))) (True.intro)) [] rfl⟩
    · have hc1 : ¬ (clipS lo hi (l.getD i dS)).fr < (clipS lo hi (l.getD i dS)).to := hlt
      refine l_nil ?_
      refine kt_norm ?_
      refine v_condF rfl ?_
      refine v_skip ?_
      refine kb_norm ?_
      refine kt_norm ?_
      refine v_sel [11, 6, 1, 2, 9, 10] [33] rfl rfl ?_
      refine v_region ?_
      refine l_val rfl (o_addi rfl rfl ?_) ?_
      · omega
      refine l_val rfl (o_move rfl) ?_
      refine l_nil ?_
      refine kt_norm ?_
      refine ⟨(i + 1, v6), ⟨hil, by rw [hct, if_neg hc1, List.append_nil]; exact hv6⟩, (by show l.length - (i + 1) < l.length - i; omega), le_app (And.intro rfl (And.intro rfl (True.intro))) [1, 2, 9, 10] rfl (And.intro (congrArg some (own_congr (by rw [hct, if_neg hc1, List.append_nil]) (by rw [hct, if_neg hc1, List.append_nil]))) (True.intro)) [] rfl⟩
  · skip
    refine l_nil ?_
    refine kt_norm ?_
    refine v_seq ?_
    refine v_condF rfl ?_
    refine v_exit ?_
    refine kt_exit ?_
    refine kt_exit ?_
    refine kb_eq ?_
    refine kt_norm ?_
    refine v_sel [6] [33] rfl rfl ?_
    refine v_seq ?_
    refine v_region ?_
    obtain rfl : i = l.length := by omega
    refine l_val rfl (o_move rfl) ?_
    refine l_val rfl (o_assign rfl) ?_
    refine l_nil ?_
    refine kt_norm ?_
    refine v_ret ?_
    refine ⟨[_], .cons (.tmp rfl) (ResAll.nil), ?_⟩
    exact ⟨33, congrArg some (own_congr (by rw [List.take_length]) (by rw [List.take_length]))⟩
theorem a_Sum (w : World) (v : Value) (l : List SpanT) (hn : l.length ≤ 1000000) (ho : SpOk l) (hV : RowV v l.length) (hrow : RowAt w v 2 l.length (l.flatMap eS)) :
    Calls Tryz.prog 33 #[v] w fun e w' => e = .returned (.int .i64 (sumS l)) ∧ Below w.heap.size w w' := by
  have hr : ∀ w', Chg (fun _ => False) w w' → RowAt w' v 2 l.length (l.flatMap eS) := fun w' h => hrow.chg h (fun h => h)
  refine calls_of (args := [v]) Tryz.func33 rfl Tryz.ntmps33 Tryz.results33 rfl ?_
  refine v_seq ?_
  refine v_region ?_
  refine l_val rfl (o_assign rfl) ?_
  refine l_nil ?_
  refine kt_norm ?_
  refine v_seq ?_
  refine v_seq ?_
  refine v_region ?_
  refine l_val rfl (o_move rfl) ?_
  refine l_val rfl (o_len rfl hV) ?_
  refine l_val rfl (o_move rfl) ?_
  refine l_nil ?_
  refine kt_norm ?_
  refine v_block ?_
  refine v_loopS (α := Nat) (fun i => [(7, .int .i64 (i : Int)), (2, .int .i64 (sumS (l.take i)))]) (fun i => [])  (fun i => i ≤ l.length) (fun i => l.length - i) 0 [5, 6] [] (Nat.zero_le _)  (And.intro rfl (And.intro rfl (True.intro))) rfl (True.intro) rfl ?_
  rintro i hi
  refine v_seq ?_
  refine v_region ?_
  refine l_split rfl (o_lss rfl rfl) (fun q1 => ?_) (fun q1 => ?_)
  · have hil : i < l.length := by omega
    have hb1 := spOk_getD ho hil
    have hb2 := sumS_ok (spOk_take ho i)
    have hb3 := List.length_take (i := i) (l := l)
    refine l_nil ?_
    refine kt_norm ?_
    refine v_seq ?_
    refine v_condT rfl ?_
    refine v_skip ?_
    refine kt_norm ?_
    refine v_seq ?_
    refine v_block ?_
    refine v_seq ?_
    refine v_region ?_
    refine l_val rfl (o_idx (i) rfl hV rfl (by first | rfl | omega) (by omega)) ?_
    refine l_val rfl (o_loadRE (c' := [_, _]) rfl (row_imm hr) (el_flat eS_len dS l (i) (by omega)) rfl) ?_
    refine l_new rfl o_alloc fun b4 => ?_
    refine l_store rfl (o_storeW (key := 4) (xs := [_, _]) rfl rfl rfl rfl rfl rfl rfl) ?_
    refine l_nil ?_
    refine kt_norm ?_
    refine v_region ?_
    refine l_val rfl (o_move rfl) ?_
    refine l_val rfl (o_fld rfl) ?_
    refine l_val rfl (o_load1 (key := 4) rfl rfl rfl) ?_
    refine l_val rfl (o_fld rfl) ?_
    refine l_val rfl (o_load1 (key := 4) rfl rfl rfl) ?_
    refine l_val rfl (o_subi rfl rfl ?_) ?_
    · omega
    refine l_val rfl (o_addi rfl rfl ?_) ?_
    · omega
    refine l_val rfl (o_assign rfl) ?_
    refine l_nil ?_
    refine kb_norm ?_
    refine kt_norm ?_
    refine v_sel [7, 2, 5, 6] [] rfl rfl ?_
    refine v_region ?_
    refine l_val rfl (o_addi rfl rfl ?_) ?_
    · omega
    refine l_val rfl (o_move rfl) ?_
    refine l_nil ?_
    refine kt_norm ?_
    refine ⟨i + 1, hil, by omega, le_app (And.intro rfl (And.intro (congrArg (fun q => some (Value.int .i64 q)) (sumS_take hil).symm) (True.intro))) [5, 6] rfl (True.intro) [] rfl⟩
  · skip
    refine l_nil ?_
    refine kt_norm ?_
    refine v_seq ?_
    refine v_condF rfl ?_
    refine v_exit ?_
    refine kt_exit ?_
    refine kt_exit ?_
    refine kb_eq ?_
    refine kt_norm ?_
    refine v_seq ?_
    refine v_region ?_
    obtain rfl : i = l.length := by omega
    refine l_val rfl (o_move rfl) ?_
    refine l_val rfl (o_assign rfl) ?_
    refine l_nil ?_
    refine kt_norm ?_
    refine v_ret ?_
    refine ⟨[_], .cons (.tmp rfl) (ResAll.nil), ?_⟩
    exact congrArg (Value.int .i64) (by rw [List.take_length])
theorem a_Has1 (x : Int) (b : Nat) : PredF Tryz.prog 59 #[.pointer (some ⟨b, 0, none⟩)] eS (fun s => decide (s.fr ≤ x) && decide (x < s.to)) (fun w => Blk w b #[.int .i64 x] 3) := by
  refine ⟨ent_of Tryz.func59 rfl rfl, fun w s hG => ?_⟩
  have hG' : ∀ w', Chg (fun _ => False) w w' → Blk w' b #[.int .i64 x] 3 := fun w' h => (h.block b (Blk.lt hG) (fun h => h)).trans hG
  refine calls_of (args := [.agg #[.int .i64 s.fr, .int .i64 s.to], .pointer (some ⟨b, 0, none⟩)]) Tryz.func59 rfl Tryz.ntmps59 Tryz.results59 rfl ?_
  refine v_seq ?_
  refine v_region ?_
  refine l_new rfl (o_box (cs := [_, _]) rfl rfl) fun b2 => ?_
  refine l_val rfl (o_assign rfl) ?_
  refine l_nil ?_
  refine kt_norm ?_
  refine v_seq ?_
  refine v_region ?_
  refine l_val rfl (o_fld rfl) ?_
  refine l_val rfl (o_load1 (key := 2) rfl rfl rfl) ?_
  refine l_val rfl (o_loadG1 rfl (fun w hg => (hG' w hg).cell 0 _ rfl)) ?_
  refine l_split rfl (o_leq rfl rfl) (fun q1 => ?_) (fun q1 => ?_)
  · skip
    refine l_val rfl (o_move rfl) ?_
    refine l_val rfl (o_loadG1 rfl (fun w hg => (hG' w hg).cell 0 _ rfl)) ?_
    refine l_val rfl (o_fld rfl) ?_
    refine l_val rfl (o_load1 (key := 2) rfl rfl rfl) ?_
    refine l_split rfl (o_lss rfl rfl) (fun q2 => ?_) (fun q2 => ?_)
    · skip
      refine l_val rfl (o_pickT rfl rfl) ?_
      refine l_val rfl (o_assign rfl) ?_
      refine l_nil ?_
      refine kt_norm ?_
      refine v_sel [3] [] rfl rfl ?_
      refine v_ret ?_
      refine ⟨[_], .cons (.tmp rfl) (ResAll.nil), ?_⟩
      exact congrArg Value.bool (by first | (rw [decide_eq_false (show ¬ s.fr ≤ x by omega)]; rfl) | (rw [decide_eq_true (show s.fr ≤ x by omega)]; first | (rw [decide_eq_true (show x < s.to by omega)]; rfl) | (rw [decide_eq_false (show ¬ x < s.to by omega)]; rfl)))
    · skip
      refine l_val rfl (o_pickT rfl rfl) ?_
      refine l_val rfl (o_assign rfl) ?_
      refine l_nil ?_
      refine kt_norm ?_
      refine v_sel [3] [] rfl rfl ?_
      refine v_ret ?_
      refine ⟨[_], .cons (.tmp rfl) (ResAll.nil), ?_⟩
      exact congrArg Value.bool (by first | (rw [decide_eq_false (show ¬ s.fr ≤ x by omega)]; rfl) | (rw [decide_eq_true (show s.fr ≤ x by omega)]; first | (rw [decide_eq_true (show x < s.to by omega)]; rfl) | (rw [decide_eq_false (show ¬ x < s.to by omega)]; rfl)))
  · skip
    refine l_val rfl (o_move rfl) ?_
    refine l_no rfl ?_
    refine l_no rfl ?_
    refine l_no rfl ?_
    refine l_no rfl ?_
    refine l_val rfl (o_pickF rfl rfl) ?_
    refine l_val rfl (o_assign rfl) ?_
    refine l_nil ?_
    refine kt_norm ?_
    refine v_sel [3] [] rfl rfl ?_
    refine v_ret ?_
    refine ⟨[_], .cons (.tmp rfl) (ResAll.nil), ?_⟩
    exact congrArg Value.bool (by first | (rw [decide_eq_false (show ¬ s.fr ≤ x by omega)]; rfl) | (rw [decide_eq_true (show s.fr ≤ x by omega)]; first | (rw [decide_eq_true (show x < s.to by omega)]; rfl) | (rw [decide_eq_false (show ¬ x < s.to by omega)]; rfl)))
theorem a_IndexS {f : Nat} {caps : Array Value} {p : SpanT → Bool} {G : World → Prop} (hp : PredF Tryz.prog f caps eS p G) (w : World) (v : Value) (l : List SpanT) (hn : l.length ≤ 1000000) (hV : RowV v l.length) (hrow : RowAt w v 2 l.length (l.flatMap eS)) (hG : ∀ w', Chg (fun _ => False) w w' → G w') :
    Calls Tryz.prog 76 #[v, .func (.func f) #[] caps] w fun e w' => e = .returned (.int .i64 (idxS p l)) ∧ Below w.heap.size w w' := by
  have hr : ∀ w', Chg (fun _ => False) w w' → RowAt w' v 2 l.length (l.flatMap eS) := fun w' h => hrow.chg h (fun h => h)
  refine calls_of (args := [v, .func (.func f) #[] caps]) Tryz.func76 rfl Tryz.ntmps76 Tryz.results76 rfl ?_
  refine v_seq ?_
  refine v_region ?_
  refine l_val rfl (o_assign rfl) ?_
  refine l_nil ?_
  refine kt_norm ?_
  refine v_seq ?_
  refine v_seq ?_
  refine v_region ?_
  refine l_val rfl (o_move rfl) ?_
  refine l_val rfl (o_len rfl hV) ?_
  refine l_val rfl (o_move rfl) ?_
  refine l_nil ?_
  refine kt_norm ?_
  refine v_block ?_
  refine v_loopS (α := Nat) (fun i => [(8, .int .i64 (i : Int))]) (fun i => [])  (fun i => i ≤ l.length ∧ ∀ j, j < i → p (l.getD j dS) = false) (fun i => l.length - i) 0 [0, 1, 7] [] ⟨by omega, fun j h => by omega⟩  (And.intro rfl (True.intro)) rfl (True.intro) rfl ?_
  rintro i ⟨hi, hb⟩
  refine v_seq ?_
  refine v_region ?_
  refine l_split rfl (o_lss rfl rfl) (fun q1 => ?_) (fun q1 => ?_)
  · first
    | (exfalso; assumption; done)
    | (
        refine l_nil ?_
        refine kt_norm ?_
        refine v_seq ?_
        refine v_condT rfl ?_
        refine v_skip ?_
        refine kt_norm ?_
        refine v_seq ?_
        refine v_block ?_
        refine v_seq ?_
        refine v_region ?_
        refine l_val rfl (o_move rfl) ?_
        refine l_val rfl (o_assign rfl) ?_
        refine l_nil ?_
        refine kt_norm ?_
        refine v_seq ?_
        refine v_region ?_
        refine l_val rfl (o_move rfl) ?_
        refine l_val rfl (o_move rfl) ?_
        refine l_val rfl (o_move rfl) ?_
        refine l_val rfl (o_idx (i) rfl hV rfl (by first | rfl | omega) (by omega)) ?_
        refine l_val rfl (o_loadRE (c' := [_, _]) rfl (row_imm hr) (el_flat eS_len dS l (i) (by omega)) rfl) ?_
        refine l_call (ks := []) rfl (o_callF (caps := caps) (vs := [_]) (r := .bool (p (l.getD i dS))) rfl hp.ent rfl (fun w' hg _ => hp.ans w' (l.getD i dS) (hG w' hg))) ?_
        refine lz_cases (fun q2 => ?_) (fun q2 => ?_)
        · first
          | (exfalso; assumption; done)
          | (
              refine l_nil ?_
              refine kt_norm ?_
              refine v_sel [8, 0, 1, 7, 5, 16] [] rfl rfl ?_
              refine v_condT rfl ?_
              refine v_seq ?_
              refine v_region ?_
              refine l_val rfl (o_move rfl) ?_
              refine l_val rfl (o_assign rfl) ?_
              refine l_nil ?_
              refine kt_norm ?_
              refine v_sel [4] [] rfl rfl ?_
              refine v_ret ?_
              refine kb_ret ?_
              refine kt_ret ?_
              refine kt_ret ?_
              refine kb_ret ?_
              refine kt_ret ?_
              refine ⟨[_], .cons (.tmp rfl) (ResAll.nil), ?_⟩
              first
                | exact congrArg (Value.int .i64) (idxS_yes (by omega) hb (by assumption)).symm
                | exact congrArg (Value.int .i64) (idxS_no (fun j hj => hb j (by omega))).symm)
        · first
          | (exfalso; assumption; done)
          | (
              refine l_nil ?_
              refine kt_norm ?_
              refine v_sel [8, 0, 1, 7, 5, 16] [] rfl rfl ?_
              refine v_condF rfl ?_
              refine v_skip ?_
              refine kb_norm ?_
              refine kt_norm ?_
              refine v_region ?_
              refine l_val rfl (o_addi rfl rfl ?_) ?_
              · omega
              refine l_val rfl (o_move rfl) ?_
              refine l_nil ?_
              refine kt_norm ?_
              refine ⟨i + 1, ⟨by omega, fun j hj => by rcases Nat.lt_or_eq_of_le (Nat.le_of_lt_succ hj) with h | h; exact hb j h; subst h; assumption⟩, by omega, le_app (And.intro rfl (True.intro)) [0, 1, 7] rfl (True.intro) [] rfl⟩))
  · first
    | (exfalso; assumption; done)
    | (
        refine l_nil ?_
        refine kt_norm ?_
        refine v_seq ?_
        refine v_condF rfl ?_
        refine v_exit ?_
        refine kt_exit ?_
        refine kt_exit ?_
        refine kb_eq ?_
        refine kt_norm ?_
        refine v_seq ?_
        refine v_region ?_
        refine l_val rfl (o_assign rfl) ?_
        refine l_nil ?_
        refine kt_norm ?_
        refine v_ret ?_
        refine ⟨[_], .cons (.tmp rfl) (ResAll.nil), ?_⟩
        first
          | exact congrArg (Value.int .i64) (idxS_yes (by omega) hb (by assumption)).symm
          | exact congrArg (Value.int .i64) (idxS_no (fun j hj => hb j (by omega))).symm)
theorem a_ContS {f : Nat} {caps : Array Value} {p : SpanT → Bool} {G : World → Prop} (hp : PredF Tryz.prog f caps eS p G) (w : World) (v : Value) (l : List SpanT) (hn : l.length ≤ 1000000) (hV : RowV v l.length) (hrow : RowAt w v 2 l.length (l.flatMap eS)) (hG : ∀ w', Chg (fun _ => False) w w' → G w') :
    Calls Tryz.prog 58 #[v, .func (.func f) #[] caps] w fun e w' => e = .returned (.bool (l.any p)) ∧ Below w.heap.size w w' := by
  have hr : ∀ w', Chg (fun _ => False) w w' → RowAt w' v 2 l.length (l.flatMap eS) := fun w' h => hrow.chg h (fun h => h)
  refine calls_of (args := [v, .func (.func f) #[] caps]) Tryz.func58 rfl Tryz.ntmps58 Tryz.results58 rfl ?_
  refine v_seq ?_
  refine v_region ?_
  refine l_val rfl (o_assign rfl) ?_
  refine l_nil ?_
  refine kt_norm ?_
  refine v_seq ?_
  refine v_region ?_
  refine l_val rfl (o_move rfl) ?_
  refine l_val rfl (o_move rfl) ?_
  refine l_call (ks := []) rfl (o_callC (vs := [_, _]) (r := .int .i64 (idxS p l)) (ent_of Tryz.func76 rfl rfl) rfl (fun w' hg hh => a_IndexS hp w' v l hn hV (hr w' hg) (fun w2 hc => hG w2 (hg.trans (hc.mono fun k _ h => h.elim))))) ?_
  refine l_val rfl (o_geq rfl rfl) ?_
  refine l_val rfl (o_assign rfl) ?_
  refine l_nil ?_
  refine kt_norm ?_
  refine v_sel [4] [] rfl rfl ?_
  refine v_ret ?_
  refine ⟨[_], .cons (.tmp rfl) (ResAll.nil), ?_⟩
  exact congrArg Value.bool (idxS_any p l)
theorem a_Has (w : World) (v : Value) (l : List SpanT) (x : Int) (hn : l.length ≤ 1000000) (hV : RowV v l.length) (hrow : RowAt w v 2 l.length (l.flatMap eS)) :
    Calls Tryz.prog 35 #[v, .int .i64 x] w fun e w' => e = .returned (.bool (hasS l x)) ∧ Below w.heap.size w w' := by
  have hr : ∀ w', Chg (fun _ => False) w w' → RowAt w' v 2 l.length (l.flatMap eS) := fun w' h => hrow.chg h (fun h => h)
  refine calls_of (args := [v, .int .i64 x]) Tryz.func35 rfl Tryz.ntmps35 Tryz.results35 rfl ?_
  refine v_seq ?_
  refine v_region ?_
  refine l_new rfl (o_box (cs := [_]) rfl rfl) fun b3 => ?_
  refine l_val rfl (o_assign rfl) ?_
  refine l_nil ?_
  refine kt_norm ?_
  refine v_seq ?_
  refine v_region ?_
  refine l_val rfl (o_move rfl) ?_
  refine l_val rfl (o_makeFunc (vs := [_]) rfl) ?_
  refine l_call (ks := [3]) rfl (o_callC (vs := [_, _]) (r := .bool (hasS l x)) (ent_of Tryz.func58 rfl rfl) rfl (fun w' hg hh => a_ContS (a_Has1 x b3) w' v l hn hV (hr w' hg) (fun w2 hc => (hc.block b3 (Blk.lt (hh 3 (by simp) _ rfl)) (fun h => h)).trans (hh 3 (by simp) _ rfl)))) ?_
  refine l_val rfl (o_assign rfl) ?_
  refine l_nil ?_
  refine kt_norm ?_
  refine v_sel [4] [] rfl rfl ?_
  refine v_ret ?_
  refine ⟨[_], .cons (.tmp rfl) (ResAll.nil), ?_⟩
  rfl
theorem a_row20 (n : Int) : Ans Tryz.prog 13 [.int .i64 n] (.bool (decide (-134217728 ≤ n ∧ n ≤ 134217728))) := by
  refine ans_of Tryz.func13 rfl Tryz.ntmps13 Tryz.results13 rfl rfl fun w => ?_
  refine v_seq ?_
  refine v_region ?_
  refine l_val rfl (o_assign rfl) ?_
  refine l_nil ?_
  refine kt_norm ?_
  refine v_seq ?_
  refine v_region ?_
  refine l_val rfl (o_move rfl) ?_
  refine l_split rfl (o_geq rfl rfl) (fun q1 => ?_) (fun q1 => ?_)
  · first
    | (exfalso; omega; done)
    | (
        refine l_val rfl (o_move rfl) ?_
        refine l_val rfl (o_move rfl) ?_
        refine l_split rfl (o_leq rfl rfl) (fun q2 => ?_) (fun q2 => ?_)
        · first
          | (exfalso; omega; done)
          | (
              refine l_val rfl (o_pickT rfl rfl) ?_
              refine l_val rfl (o_assign rfl) ?_
              refine l_nil ?_
              refine kt_norm ?_
              refine v_sel [2] [] rfl rfl ?_
              refine v_ret ?_
              refine ⟨[_], .cons (.tmp rfl) (ResAll.nil), ?_⟩
              exact congrArg Value.bool (by first | exact (decide_eq_true (by omega)).symm | exact (decide_eq_false (by omega)).symm))
        · first
          | (exfalso; omega; done)
          | (
              refine l_val rfl (o_pickT rfl rfl) ?_
              refine l_val rfl (o_assign rfl) ?_
              refine l_nil ?_
              refine kt_norm ?_
              refine v_sel [2] [] rfl rfl ?_
              refine v_ret ?_
              refine ⟨[_], .cons (.tmp rfl) (ResAll.nil), ?_⟩
              exact congrArg Value.bool (by first | exact (decide_eq_true (by omega)).symm | exact (decide_eq_false (by omega)).symm)))
  · first
    | (exfalso; omega; done)
    | (
        refine l_val rfl (o_move rfl) ?_
        refine l_no rfl ?_
        refine l_no rfl ?_
        refine l_val rfl (o_pickF rfl rfl) ?_
        refine l_val rfl (o_assign rfl) ?_
        refine l_nil ?_
        refine kt_norm ?_
        refine v_sel [2] [] rfl rfl ?_
        refine v_ret ?_
        refine ⟨[_], .cons (.tmp rfl) (ResAll.nil), ?_⟩
        exact congrArg Value.bool (by first | exact (decide_eq_true (by omega)).symm | exact (decide_eq_false (by omega)).symm))

theorem a_bounded20 (w : World) (v : Value) (pvs : List Value) (ps : List (List PtT)) (hv : PcsW v pvs ps) (hat : PcsAt w v pvs ps) : Calls Tryz.prog 12 #[v] w fun e w' => e = .returned (.bool (decide (Bn20 ps))) ∧ Below w.heap.size w w' := by
  have hVp := hv.V
  have hlen := hv.len
  have hrowP : ∀ w', Chg (fun _ => False) w w' → RowAt w' v 1 ps.length pvs := fun w' h => (hat.keep h).row
  refine calls_of (args := [v]) Tryz.func12 rfl Tryz.ntmps12 Tryz.results12 rfl ?_
  refine v_seq ?_
  refine v_region ?_
  refine l_val rfl (o_assign rfl) ?_
  refine l_nil ?_
  refine kt_norm ?_
  refine v_seq ?_
  refine v_seq ?_
  refine v_region ?_
  refine l_val rfl (o_assign rfl) ?_
  refine l_nil ?_
  refine kt_norm ?_
  refine v_block ?_
  refine v_loopS (α := Nat) (fun i => [(3, .int .i64 (i : Int))]) (fun i => [])  (fun i => i ≤ ps.length ∧ ∀ k, k < i → BndP (ps.getD k [])) (fun i => ps.length - i) 0 [0] [] ⟨by omega, fun k h => by omega⟩  (And.intro rfl (True.intro)) rfl (True.intro) rfl ?_
  rintro i ⟨hi, hB⟩
  refine v_seq ?_
  refine v_seq ?_
  refine v_region ?_
  refine l_val rfl (o_move rfl) ?_
  refine l_val rfl (o_move rfl) ?_
  refine l_val rfl (o_len rfl hVp) ?_
  refine l_split rfl (o_lss rfl rfl) (fun q1 => ?_) (fun q1 => ?_)
  · have hil : i < ps.length := by omega
    obtain ⟨pc, hpc⟩ : ∃ pc, ps.getD i [] = pc := ⟨_, rfl⟩
    have hVq := hv.pV i hil
    have hrowQ : ∀ w', Chg (fun _ => False) w w' → RowAt w' (pvs.getD i undef) 2 (ps.getD i []).length ((ps.getD i []).flatMap eP) := fun w' h => (hat.keep h).pc i hil
    rw [hpc] at hVq hrowQ
    refine l_nil ?_
    refine kt_norm ?_
    refine v_condT rfl ?_
    refine v_skip ?_
    refine kt_norm ?_
    refine v_seq ?_
    refine v_block ?_
    refine v_seq ?_
    refine v_seq ?_
    refine v_region ?_
    refine l_val rfl (o_move rfl) ?_
    refine l_val rfl (o_move rfl) ?_
    refine l_val rfl (o_idx (i) rfl hVp rfl (by first | rfl | omega) (by omega)) ?_
    refine l_val rfl (o_loadR1 rfl (row_imm hrowP) (el_one (by rw [hv.lenv]; exact hil))) ?_
    refine l_val rfl (o_len rfl hVq) ?_
    refine l_split rfl (o_gtr rfl rfl) (fun h16 => ?_) (fun h16 => ?_)
    · skip
      refine l_nil ?_
      refine kt_norm ?_
      refine v_sel [3, 0, 16] [] rfl rfl ?_
      refine v_condT rfl ?_
      refine v_seq ?_
      refine v_region ?_
      refine l_val rfl (o_assign rfl) ?_
      refine l_nil ?_
      refine kt_norm ?_
      refine v_ret ?_
      refine kt_ret ?_
      refine kb_ret ?_
      refine kt_ret ?_
      refine kt_ret ?_
      refine kb_ret ?_
      refine kt_ret ?_
      refine ⟨[_], .cons (.tmp rfl) (ResAll.nil), ?_⟩
      first
        | exact congrArg Value.bool (decide_eq_false fun h => by have := (h.2 i hil).1; rw [hpc] at this; omega).symm
        | exact congrArg Value.bool (decide_eq_false fun h => by have := (h.2 i hil).2 j (by rw [hpc]; exact hjl); rw [hpc] at this; exact absurd this hnr).symm
        | exact congrArg Value.bool (decide_congr ⟨fun h => ⟨by omega, fun k hk => hB k (by omega)⟩, fun h => by have := h.1; omega⟩)
    · skip
      refine l_nil ?_
      refine kt_norm ?_
      refine v_sel [3, 0, 16] [] rfl rfl ?_
      refine v_condF rfl ?_
      refine v_skip ?_
      refine kt_norm ?_
      refine v_seq ?_
      refine v_region ?_
      refine l_val rfl (o_assign rfl) ?_
      refine l_nil ?_
      refine kt_norm ?_
      refine v_block ?_
      refine v_loopS (α := Nat) (fun j => [(4, .int .i64 (j : Int))]) (fun j => [])  (fun j => j ≤ pc.length ∧ ∀ k, k < j → NearT (pc.getD k dP)) (fun j => pc.length - j) 0 [3, 0] [] ⟨by omega, fun k h => by omega⟩  (And.intro rfl (True.intro)) rfl (True.intro) rfl ?_
      rintro j ⟨hj, hN⟩
      refine v_seq ?_
      refine v_seq ?_
      refine v_region ?_
      refine l_val rfl (o_move rfl) ?_
      refine l_val rfl (o_move rfl) ?_
      refine l_val rfl (o_move rfl) ?_
      refine l_val rfl (o_idx (i) rfl hVp rfl (by first | rfl | omega) (by omega)) ?_
      refine l_val rfl (o_loadR1 rfl (row_imm hrowP) (el_one (by rw [hv.lenv]; exact hil))) ?_
      refine l_val rfl (o_len rfl hVq) ?_
      refine l_split rfl (o_lss rfl rfl) (fun q2 => ?_) (fun q2 => ?_)
      · have hjl : j < pc.length := by omega
        refine l_nil ?_
        refine kt_norm ?_
        refine v_sel [4, 3, 0, 23] [] rfl rfl ?_
        refine v_condT rfl ?_
        refine v_skip ?_
        refine kt_norm ?_
        refine v_seq ?_
        refine v_block ?_
        refine v_seq ?_
        refine v_region ?_
        refine l_val rfl (o_move rfl) ?_
        refine l_val rfl (o_move rfl) ?_
        refine l_val rfl (o_idx (i) rfl hVp rfl (by first | rfl | omega) (by omega)) ?_
        refine l_val rfl (o_loadR1 rfl (row_imm hrowP) (el_one (by rw [hv.lenv]; exact hil))) ?_
        refine l_val rfl (o_move rfl) ?_
        refine l_val rfl (o_idx (j) rfl hVq rfl (by first | rfl | omega) (by omega)) ?_
        refine l_val rfl (o_loadRE (c' := [_, _]) rfl (row_imm hrowQ) (el_flat eP_len dP pc (j) (by omega)) rfl) ?_
        refine l_ans (vs := [_]) rfl rfl (a_Near (pc.getD j dP)) ?_
        refine lz_bool (fun hnr => ?_) (fun hnr => ?_)
        · skip
          refine l_val rfl (o_not rfl rfl) ?_
          refine l_nil ?_
          refine kt_norm ?_
          refine v_sel [4, 3, 0, 34] [] rfl rfl ?_
          refine v_condF rfl ?_
          refine v_skip ?_
          refine kb_norm ?_
          refine kt_norm ?_
          refine v_region ?_
          refine l_val rfl (o_move rfl) ?_
          refine l_val rfl (o_addi rfl rfl ?_) ?_
          · omega
          refine l_val rfl (o_assign rfl) ?_
          refine l_nil ?_
          refine kt_norm ?_
          refine ⟨j + 1, ⟨hjl, fun k hk => by rcases Nat.lt_or_eq_of_le (Nat.le_of_lt_succ hk) with h | h; exact hN k h; subst h; assumption⟩, by omega, le_app (And.intro rfl (True.intro)) [3, 0] rfl (True.intro) [] rfl⟩
        · skip
          refine l_val rfl (o_not rfl rfl) ?_
          refine l_nil ?_
          refine kt_norm ?_
          refine v_sel [4, 3, 0, 34] [] rfl rfl ?_
          refine v_condT rfl ?_
          refine v_seq ?_
          refine v_region ?_
          refine l_val rfl (o_assign rfl) ?_
          refine l_nil ?_
          refine kt_norm ?_
          refine v_ret ?_
          refine kb_ret ?_
          refine kt_ret ?_
          refine kt_ret ?_
          refine kb_ret ?_
          refine kb_ret ?_
          refine kt_ret ?_
          refine kt_ret ?_
          refine kb_ret ?_
          refine kt_ret ?_
          refine ⟨[_], .cons (.tmp rfl) (ResAll.nil), ?_⟩
          first
            | exact congrArg Value.bool (decide_eq_false fun h => by have := (h.2 i hil).1; rw [hpc] at this; omega).symm
            | exact congrArg Value.bool (decide_eq_false fun h => by have := (h.2 i hil).2 j (by rw [hpc]; exact hjl); rw [hpc] at this; exact absurd this hnr).symm
            | exact congrArg Value.bool (decide_congr ⟨fun h => ⟨by omega, fun k hk => hB k (by omega)⟩, fun h => by have := h.1; omega⟩)
      · skip
        refine l_nil ?_
        refine kt_norm ?_
        refine v_sel [4, 3, 0, 23] [] rfl rfl ?_
        refine v_condF rfl ?_
        refine v_exit ?_
        refine kt_exit ?_
        refine kt_exit ?_
        refine kb_eq ?_
        refine kb_norm ?_
        refine kt_norm ?_
        refine v_region ?_
        refine l_val rfl (o_move rfl) ?_
        refine l_val rfl (o_addi rfl rfl ?_) ?_
        · omega
        refine l_val rfl (o_assign rfl) ?_
        refine l_nil ?_
        refine kt_norm ?_
        refine ⟨i + 1, ⟨hil, fun k hk => by rcases Nat.lt_or_eq_of_le (Nat.le_of_lt_succ hk) with h | h; exact hB k h; subst h; rw [hpc]; exact ⟨by omega, fun m hm => hN m (by omega)⟩⟩, by omega, le_app (And.intro rfl (True.intro)) [0] rfl (True.intro) [] rfl⟩
  · skip
    refine l_nil ?_
    refine kt_norm ?_
    refine v_condF rfl ?_
    refine v_exit ?_
    refine kt_exit ?_
    refine kt_exit ?_
    refine kb_eq ?_
    refine kt_norm ?_
    refine v_seq ?_
    refine v_region ?_
    refine l_val rfl (o_move rfl) ?_
    refine l_val rfl (o_len rfl hVp) ?_
    refine l_val rfl (o_leq rfl rfl) ?_
    refine l_val rfl (o_assign rfl) ?_
    refine l_nil ?_
    refine kt_norm ?_
    refine v_sel [2] [] rfl rfl ?_
    refine v_ret ?_
    refine ⟨[_], .cons (.tmp rfl) (ResAll.nil), ?_⟩
    first
      | exact congrArg Value.bool (decide_eq_false fun h => by have := (h.2 i hil).1; rw [hpc] at this; omega).symm
      | exact congrArg Value.bool (decide_eq_false fun h => by have := (h.2 i hil).2 j (by rw [hpc]; exact hjl); rw [hpc] at this; exact absurd this hnr).symm
      | exact congrArg Value.bool (decide_congr ⟨fun h => ⟨by omega, fun k hk => hB k (by omega)⟩, fun h => by have := h.1; omega⟩)
theorem a_allX (w : World) (v : Value) (pvs : List Value) (ps : List (List PtT)) (hb : BndX ps) (hv : PcsV v pvs ps) (hat : PcsAt w v pvs ps) :
    Calls Tryz.prog 19 #[v] w fun e w' => ∃ y, e = .returned y ∧ Below w.heap.size w w' ∧ OwnAt w.heap.size w' y 66 7 (edgesAll ps).length ((edgesAll ps).flatMap eE) := by
  have hVp := hv.V
  have hlen := hv.len
  have hrowP : ∀ w', Chg (fun _ => False) w w' → RowAt w' v 1 ps.length pvs := fun w' h => (hat.keep h).row
  refine calls_own (args := [v]) Tryz.func19 rfl Tryz.ntmps19 Tryz.results19 rfl ?_
  refine v_seq ?_
  refine v_region ?_
  refine l_val rfl (o_assign rfl) ?_
  refine l_nil ?_
  refine kt_norm ?_
  refine v_seq ?_
  refine v_region ?_
  refine l_buildSlice (vs := []) (cs := []) rfl rfl rfl rfl rfl rfl fun v5 hv5 => ?_
  refine l_val rfl (o_assign rfl) ?_
  refine l_nil ?_
  refine kt_norm ?_
  refine v_seq ?_
  refine v_seq ?_
  refine v_region ?_
  refine l_val rfl (o_assign rfl) ?_
  refine l_nil ?_
  refine kt_norm ?_
  refine v_block ?_
  refine v_ren 5 18 [] rfl rfl rfl ?_
  refine v_loopS (α := Nat × Value) (fun ⟨i, v3⟩ => [(4, .int .i64 (i : Int)), (3, v3)]) (fun ⟨i, v3⟩ => [(18, Hp.own v3 66 7 (edgesAll (ps.take i)).length ((edgesAll (ps.take i)).flatMap eE))])  (fun ⟨i, v3⟩ => i ≤ ps.length ∧ RowV v3 (edgesAll (ps.take i)).length) (fun ⟨i, v3⟩ => ps.length - i) (0, v5) [0] [] ⟨Nat.zero_le _, hv5⟩  (And.intro rfl (And.intro rfl (True.intro))) rfl (And.intro rfl (True.intro)) rfl ?_
  rintro ⟨i, v3⟩ ⟨hi, hv3⟩
  refine v_seq ?_
  refine v_seq ?_
  refine v_region ?_
  refine l_val rfl (o_move rfl) ?_
  refine l_val rfl (o_move rfl) ?_
  refine l_val rfl (o_len rfl hVp) ?_
  refine l_split rfl (o_lss rfl rfl) (fun q1 => ?_) (fun q1 => ?_)
  · have hil : i < ps.length := by omega
    obtain ⟨pc, hpc⟩ : ∃ pc, ps.getD i [] = pc := ⟨_, rfl⟩
    have hVq := hv.pV i hil
    have hnear := hv.near i hil
    have hbi := (hb.2 i hil).1
    have hrowQ : ∀ w', Chg (fun _ => False) w w' → RowAt w' (pvs.getD i undef) 2 (ps.getD i []).length ((ps.getD i []).flatMap eP) := fun w' h => (hat.keep h).pc i hil
    rw [hpc] at hVq hnear hrowQ hbi
    have hofl := edgesTo_len pc pc.length
    have hofe : (edgesTo pc pc.length).length = (edgesOf pc).length := rfl
    have hall := all_split hil 0
    rw [List.take_zero, List.append_nil] at hall
    have h320 := edgesAll_lenX hb
    have hsu := all_take_succ hil
    rw [hpc] at hsu
    refine l_nil ?_
    refine kt_norm ?_
    refine v_condT rfl ?_
    refine v_skip ?_
    refine kt_norm ?_
    refine v_seq ?_
    refine v_block ?_
    refine v_region ?_
    refine l_val rfl (o_move rfl) ?_
    refine l_val rfl (o_move rfl) ?_
    refine l_val rfl (o_move rfl) ?_
    refine l_val rfl (o_idx (i) rfl hVp rfl (by first | rfl | omega) (by omega)) ?_
    refine l_val rfl (o_loadR1 rfl (row_imm hrowP) (el_one (by rw [hv.lenv]; exact hil))) ?_
    refine l_gown (ks := []) (caps := #[]) (vs := [_]) rfl rfl (ent_of Tryz.func42 rfl rfl) rfl (fun w' hg hh => a_OfE w' (pvs.getD i undef) pc (by omega) hVq (hrowQ w' hg) hnear) fun v17 hv17 => ?_
    refine l_append 18 [17] rfl rfl rfl rfl rfl rfl rfl hv17 (row_own (key := 17) rfl) (by omega) fun v18 hv18 => ?_
    refine l_val rfl (o_assign rfl) ?_
    refine l_nil ?_
    refine kb_norm ?_
    refine kt_norm ?_
    refine v_sel [4, 3, 0] [18] rfl rfl ?_
    refine v_region ?_
    refine l_val rfl (o_move rfl) ?_
    refine l_val rfl (o_addi rfl rfl ?_) ?_
    · omega
    refine l_val rfl (o_assign rfl) ?_
    refine l_nil ?_
    refine kt_norm ?_
    refine ⟨(i + 1, v18), ⟨hil, by rw [hsu, List.length_append]; exact hv18⟩, (by show ps.length - (i + 1) < ps.length - i; omega), le_app (And.intro rfl (And.intro rfl (True.intro))) [0] rfl (And.intro (congrArg some (own_congr (by rw [hsu, List.length_append]) (by rw [hsu, List.flatMap_append]))) (True.intro)) [] rfl⟩
  · skip
    refine l_nil ?_
    refine kt_norm ?_
    refine v_condF rfl ?_
    refine v_exit ?_
    refine kt_exit ?_
    refine kt_exit ?_
    refine kb_eq ?_
    refine kt_norm ?_
    refine v_sel [3] [18] rfl rfl ?_
    refine v_seq ?_
    refine v_region ?_
    obtain rfl : i = ps.length := by omega
    refine l_val rfl (o_move rfl) ?_
    refine l_val rfl (o_assign rfl) ?_
    refine l_nil ?_
    refine kt_norm ?_
    refine v_ret ?_
    refine ⟨[_], .cons (.tmp rfl) (ResAll.nil), ?_⟩
    exact ⟨18, congrArg some (own_congr (by rw [List.take_length]) (by rw [List.take_length]))⟩
theorem a_all (w : World) (v : Value) (pvs : List Value) (ps : List (List PtT)) (hb : Bnd ps) (hv : PcsV v pvs ps) (hat : PcsAt w v pvs ps) :
    Calls Tryz.prog 19 #[v] w fun e w' => ∃ y, e = .returned y ∧ Below w.heap.size w w' ∧ OwnAt w.heap.size w' y 66 7 (edgesAll ps).length ((edgesAll ps).flatMap eE) := a_allX w v pvs ps hb.x hv hat
end Go.Proofs.YtllhohbenniaaaaGreat

/- Two squares, looked at; spans rise; what is clipped has just what lies between. Conditions: none. -/
namespace Go.Proofs.YtllhohbenniaaaaGreat
open Go.Proofs Go.RowKit Go.Shelf

theorem pcsV_two {v p q : Value} {pc qc : List PtT} (h : RowV v 2) (hp : RowV p pc.length) (hq : RowV q qc.length) (hs : pc.length ≤ 1000000) (hs' : qc.length ≤ 1000000) (hn : ∀ p ∈ pc, NearT p) (hn' : ∀ p ∈ qc, NearT p) : PcsV v [p, q] [pc, qc] :=
  ⟨h, rfl, (show 2 ≤ 1099511627776 by omega), fun i hi => by match i, hi with | 0, _ => exact hp | 1, _ => exact hq | n + 2, h => exact absurd h (by show ¬ n + 2 < 2; omega), fun i hi => by match i, hi with | 0, _ => show pc.length ≤ _; omega | 1, _ => show qc.length ≤ _; omega | n + 2, h => exact absurd h (by show ¬ n + 2 < 2; omega), fun i hi => by match i, hi with | 0, _ => exact hn | 1, _ => exact hn' | n + 2, h => exact absurd h (by show ¬ n + 2 < 2; omega)⟩
theorem pcsAt_two {w : World} {v p q : Value} {pc qc : List PtT} (h : RowAt w v 1 2 [p, q]) (h1 : RowAt w p 2 pc.length (pc.flatMap eP)) (h2 : RowAt w q 2 qc.length (qc.flatMap eP)) : PcsAt w v [p, q] [pc, qc] :=
  ⟨h, fun i hi => by match i, hi with | 0, _ => exact h1 | 1, _ => exact h2 | n + 2, h => exact absurd h (by show ¬ n + 2 < 2; omega)⟩
def sqA : List PtT := [⟨0, 0⟩, ⟨32, 0⟩, ⟨32, 32⟩, ⟨0, 32⟩]
def sqB : List PtT := [⟨32, 0⟩, ⟨64, 0⟩, ⟨64, 32⟩, ⟨32, 32⟩]
def tb20 : List EdgeT := [⟨32, 0, 0, 32, 1, 0, 2⟩, ⟨0, 0, 0, 32, -1, 0, 2⟩, ⟨64, 0, 0, 32, 1, 0, 2⟩, ⟨32, 0, 0, 32, -1, 0, 2⟩]
theorem tab20 : tabT 0 0 1 1 [sqA, sqB] = tb20 := by unfold tabT; rw [if_pos (by decide)]; rfl
theorem nearA : ∀ p ∈ sqA, NearT p := by decide
theorem nearB : ∀ p ∈ sqB, NearT p := by decide
theorem bndAB : Bnd [sqA, sqB] := by decide
theorem sp20 : rowS (crs 1 (liveT 1 tb20)) = [⟨0, 64⟩] := by rfl
theorem cr20 : ∀ e ∈ liveT 1 tb20, CrossOk 1 e := fun e he => by
  have h : liveT 1 tb20 = tb20 := by rfl
  rw [h] at he
  simp only [tb20, List.mem_cons, List.not_mem_nil, or_false] at he
  rcases he with rfl | rfl | rfl | rfl <;> exact ⟨by decide, by decide, by decide, by decide, by decide, by decide, by decide, by first | exact .inl rfl | exact .inr rfl⟩
theorem a_Tab20 (w : World) (v p q : Value) (hV : RowV v 2) (hp : RowV p 4) (hq : RowV q 4) (h : RowAt w v 1 2 [p, q]) (h1 : RowAt w p 2 4 (sqA.flatMap eP)) (h2 : RowAt w q 2 4 (sqB.flatMap eP)) :
    Calls Tryz.prog 24 #[v, .agg #[.int .i64 0, .int .i64 0, .int .i64 1, .int .i64 1]] w fun e w' => ∃ y, e = .returned y ∧ Below w.heap.size w w' ∧ OwnAt w.heap.size w' y 66 7 4 (tb20.flatMap eE) := by
  have := a_TableT w v [p, q] [sqA, sqB] 0 0 1 1 bndAB (pcsV_two hV hp hq (by decide) (by decide) nearA nearB) (pcsAt_two h h1 h2)
  rw [tab20] at this
  exact this
theorem a_Row20 (w : World) (v : Value) (hV : RowV v 4) (hrow : RowAt w v 7 4 (tb20.flatMap eE)) : Calls Tryz.prog 18 #[v, .int .i64 1] w fun e w' => ∃ y, e = .returned y ∧ Below w.heap.size w w' ∧ OwnAt w.heap.size w' y 77 2 1 [.int .i64 0, .int .i64 64] := by
  have := a_Spans w v tb20 1 (by decide) hV hrow cr20
  rw [sp20] at this
  exact this
theorem a_Clip20 (w : World) (v : Value) (hV : RowV v 1) (hrow : RowAt w v 2 1 [.int .i64 0, .int .i64 64]) : Calls Tryz.prog 34 #[v, .int .i64 5, .int .i64 20] w fun e w' => ∃ y, e = .returned y ∧ Below w.heap.size w w' ∧ OwnAt w.heap.size w' y 77 2 1 [.int .i64 5, .int .i64 20] :=
  a_Clip w v [⟨0, 64⟩] 5 20 (by decide) hV hrow
theorem a_Sum20 (w : World) (v : Value) (hV : RowV v 1) (hrow : RowAt w v 2 1 [.int .i64 5, .int .i64 20]) : Calls Tryz.prog 33 #[v] w fun e w' => e = .returned (.int .i64 15) ∧ Below w.heap.size w w' :=
  a_Sum w v [⟨5, 20⟩] (by decide) (fun s hs => by rw [List.mem_singleton.1 hs]; decide) hV hrow
theorem a_HasY (w : World) (v : Value) (hV : RowV v 1) (hrow : RowAt w v 2 1 [.int .i64 0, .int .i64 64]) : Calls Tryz.prog 35 #[v, .int .i64 63] w fun e w' => e = .returned (.bool true) ∧ Below w.heap.size w w' :=
  a_Has w v [⟨0, 64⟩] 63 (by decide) hV hrow
theorem a_HasN (w : World) (v : Value) (hV : RowV v 1) (hrow : RowAt w v 2 1 [.int .i64 0, .int .i64 64]) : Calls Tryz.prog 35 #[v, .int .i64 64] w fun e w' => e = .returned (.bool false) ∧ Below w.heap.size w w' :=
  a_Has w v [⟨0, 64⟩] 64 (by decide) hV hrow
theorem rise_getD {cs : List (Int × Int)} {i j : Nat} (hij : i < j) (hj : j < (rowS cs).length) : ((rowS cs).getD i dS).to < ((rowS cs).getD j dS).fr := by
  have := List.pairwise_iff_getElem.1 (rowQ cs _ (Nat.le_refl _)).rise i j (show i < (rowS cs).length by omega) hj hij
  rw [List.getD_eq_getElem?_getD, List.getD_eq_getElem?_getD, List.getElem?_eq_getElem hj, List.getElem?_eq_getElem (show i < (rowS cs).length by omega)]
  exact this
theorem hasS_hi {l : List SpanT} {B x : Int} (h : ∀ s ∈ l, s.to ≤ B) (hx : B ≤ x) : hasS l x = false := by
  unfold hasS
  rw [List.any_eq_false]
  intro s hs
  have := h s hs
  simp only [Bool.and_eq_true, decide_eq_true_eq]
  omega
theorem sp_mem {l : List SpanT} {i : Nat} (h : i < l.length) : l.getD i dS ∈ l := by
  rw [List.getD_eq_getElem?_getD, List.getElem?_eq_getElem h]; exact List.getElem_mem h
theorem a_shown20  : Ans Tryz.prog 14 [] (.bool true) := by
  refine ans_of Tryz.func14 rfl Tryz.ntmps14 Tryz.results14 rfl rfl fun w => ?_
  refine v_seq ?_
  refine v_region ?_
  refine l_val rfl (o_assign rfl) ?_
  refine l_nil ?_
  refine kt_norm ?_
  refine v_seq ?_
  refine v_region ?_
  refine l_val rfl (o_build (vs := []) (cs := [_, _]) rfl rfl) ?_
  refine l_val rfl (o_build (vs := [_]) (cs := [_, _]) rfl rfl) ?_
  refine l_val rfl (o_build (vs := [_, _]) (cs := [_, _]) rfl rfl) ?_
  refine l_val rfl (o_build (vs := [_]) (cs := [_, _]) rfl rfl) ?_
  refine l_buildSlice (vs := [_, _, _, _]) (cs := [_, _, _, _, _, _, _, _]) rfl rfl rfl rfl rfl rfl fun v7 hv7 => ?_
  refine l_val rfl (o_build (vs := [_]) (cs := [_, _]) rfl rfl) ?_
  refine l_val rfl (o_build (vs := [_]) (cs := [_, _]) rfl rfl) ?_
  refine l_val rfl (o_build (vs := [_, _]) (cs := [_, _]) rfl rfl) ?_
  refine l_val rfl (o_build (vs := [_, _]) (cs := [_, _]) rfl rfl) ?_
  refine l_buildSlice (vs := [_, _, _, _]) (cs := [_, _, _, _, _, _, _, _]) rfl rfl rfl rfl rfl rfl fun v12 hv12 => ?_
  obtain ⟨a7, c7, rfl⟩ := hv7.sl
  obtain ⟨a12, c12, rfl⟩ := hv12.sl
  refine l_buildSlice (vs := [_, _]) (cs := [_, _]) rfl rfl rfl rfl rfl rfl fun v13 hv13 => ?_
  refine l_val rfl (o_assign rfl) ?_
  refine l_nil ?_
  refine kt_norm ?_
  refine v_sel [1] [7, 12, 13] rfl rfl ?_
  refine v_seq ?_
  refine v_region ?_
  refine l_val rfl (o_move rfl) ?_
  refine l_val rfl (o_build (vs := [_, _]) (cs := [_, _, _, _]) rfl rfl) ?_
  refine l_gown (ks := [7, 12, 13]) (caps := #[]) (vs := [_, _]) rfl rfl (ent_of Tryz.func24 rfl rfl) rfl (fun w' hg hh => a_Tab20 w' v13 _ _ hv13 hv7 hv12 (rowAt_own (hh 13 (by simp) _ rfl)) (rowAt_own (hh 7 (by simp) _ rfl)) (rowAt_own (hh 12 (by simp) _ rfl))) fun tt htt => ?_
  refine l_gown (ks := [16]) (caps := #[]) (vs := [_, _]) rfl rfl (ent_of Tryz.func18 rfl rfl) rfl (fun w' hg hh => a_Row20 w' tt htt (rowAt_own (hh 16 (by simp) _ rfl))) fun ys hys => ?_
  refine l_val rfl (o_assign rfl) ?_
  refine l_nil ?_
  refine kt_norm ?_
  refine v_seq ?_
  refine v_region ?_
  refine l_val rfl (o_move rfl) ?_
  refine l_val rfl (o_len rfl hys) ?_
  refine l_val rfl (o_eql rfl rfl) ?_
  refine l_val rfl (o_move rfl) ?_
  refine l_val rfl (o_move rfl) ?_
  refine l_val rfl (o_idx (0) rfl hys rfl (by first | rfl | omega) (by decide)) ?_
  refine l_val rfl (o_loadRE (c' := [_, _]) rfl (row_own (key := 17) rfl) (el_lit (esz := 2) (i := 0) (c := [_, _]) rfl rfl) rfl) ?_
  refine l_val rfl (o_build (vs := [_, _]) (cs := [_, _]) rfl rfl) ?_
  refine l_split rfl (o_eqs (xl := [_, _]) (yl := [_, _]) (az := [_, _]) (bz := [_, _]) rfl rfl rfl rfl rfl rfl) (fun _ => ?_) (fun q2 => absurd rfl q2)
  refine l_val rfl (o_pickT rfl rfl) ?_
  refine l_val rfl (o_move rfl) ?_
  refine l_val rfl (o_move rfl) ?_
  refine l_gown (ks := [17]) (caps := #[]) (vs := [_, _, _]) rfl rfl (ent_of Tryz.func34 rfl rfl) rfl (fun w' hg hh => a_Clip20 w' ys hys (rowAt_own (hh 17 (by simp) _ rfl))) fun yc hyc => ?_
  refine l_call (ks := [30]) rfl (o_callC (vs := [_]) (r := .int .i64 15) (ent_of Tryz.func33 rfl rfl) rfl (fun w' hg hh => a_Sum20 w' yc hyc (rowAt_own (hh 30 (by simp) _ rfl)))) ?_
  refine l_val rfl (o_eql rfl rfl) ?_
  refine l_val rfl (o_pickT rfl rfl) ?_
  refine l_val rfl (o_move rfl) ?_
  refine l_val rfl (o_move rfl) ?_
  refine l_call (ks := [17]) rfl (o_callC (vs := [_, _]) (r := .bool true) (ent_of Tryz.func35 rfl rfl) rfl (fun w' hg hh => a_HasY w' ys hys (rowAt_own (hh 17 (by simp) _ rfl)))) ?_
  refine l_val rfl (o_pickT rfl rfl) ?_
  refine l_val rfl (o_move rfl) ?_
  refine l_val rfl (o_move rfl) ?_
  refine l_call (ks := [17]) rfl (o_callC (vs := [_, _]) (r := .bool false) (ent_of Tryz.func35 rfl rfl) rfl (fun w' hg hh => a_HasN w' ys hys (rowAt_own (hh 17 (by simp) _ rfl)))) ?_
  refine l_val rfl (o_not rfl rfl) ?_
  refine l_val rfl (o_pickT rfl rfl) ?_
  refine l_val rfl (o_assign rfl) ?_
  refine l_nil ?_
  refine kt_norm ?_
  refine v_sel [0] [7, 12, 13] rfl rfl ?_
  refine v_ret ?_
  refine ⟨[_], .cons (.tmp rfl) (ResAll.nil), ?_⟩
  rfl


end Go.Proofs.YtllhohbenniaaaaGreat

/- Pieces that are shifted by whole pixels have shifted spans. Conditions: none. -/
namespace Go.Proofs.YtllhohbenniaaaaGreat
open Go.Proofs Go.RowKit Go.Shelf

def shPs (bx by_ : Int) (ps : List (List PtT)) : List (List PtT) := ps.map fun pc => pc.map (shP bx by_)
theorem shPs_getD {bx by_ : Int} {ps : List (List PtT)} {i : Nat} (h : i < ps.length) : (shPs bx by_ ps).getD i [] = (ps.getD i []).map (shP bx by_) := by
  unfold shPs
  rw [List.getD_eq_getElem?_getD, List.getD_eq_getElem?_getD, List.getElem?_map, List.getElem?_eq_getElem h]; rfl
theorem edgesAll_shift (bx d : Int) : ∀ ps : List (List PtT), edgesAll (shPs bx (256 * d) ps) = (edgesAll ps).map (shE bx d)
  | [] => rfl
  | pc :: r => by
    have ih := edgesAll_shift bx d r
    simp only [shPs, edgesAll, List.map_cons, List.flatMap_cons, List.map_append] at ih ⊢
    rw [edgesOf_shift, ih]
theorem live_shift (bx d r : Int) : ∀ es : List EdgeT, liveT (r + 16 * d) (es.map (shE bx d)) = (liveT r es).map (shE bx d)
  | [] => rfl
  | e :: es => by
    have ih := live_shift bx d r es
    unfold liveT at ih ⊢
    rw [List.map_cons]
    by_cases h : r < e.fr ∨ r ≥ e.to
    · rw [List.filter_cons_of_neg (by simp [shE]; omega), List.filter_cons_of_neg (by simp; omega), ih]
    · rw [List.filter_cons_of_pos (by simp [shE]; omega), List.filter_cons_of_pos (by simp; omega), List.map_cons, ih]
theorem crs_shift (bx d r : Int) (es : List EdgeT) : crs (r + 16 * d) (es.map (shE bx d)) = (crs r es).map (shC bx) := by
  unfold crs
  rw [List.map_map, List.map_map]
  refine List.map_congr_left fun e _ => ?_
  simp only [Function.comp, at_shift, shC]
  rfl
theorem row_shift (bx d r : Int) (ps : List (List PtT)) : rowS (crs (r + 16 * d) (liveT (r + 16 * d) (edgesAll (shPs bx (256 * d) ps)))) = (rowS (crs r (liveT r (edgesAll ps)))).map (shS bx) := by
  rw [edgesAll_shift, live_shift, crs_shift, rowS_sh]
theorem sp_map {bx : Int} {l : List SpanT} {i : Nat} (h : i < l.length) : (l.map (shS bx)).getD i dS = shS bx (l.getD i dS) := by
  rw [List.getD_eq_getElem?_getD, List.getD_eq_getElem?_getD, List.getElem?_map, List.getElem?_eq_getElem h]; rfl
theorem shp_snoc {bx by_ : Int} {pc : List PtT} {i : Nat} (hi : i < pc.length) : ((pc.take i).map (shP bx by_)).flatMap eP ++ [.int .i64 ((pc.getD i dP).x + bx), .int .i64 ((pc.getD i dP).y + by_)] = ((pc.take (i + 1)).map (shP bx by_)).flatMap eP := by
  rw [List.take_add_one, List.map_append, List.flatMap_append, List.getElem?_eq_getElem hi, List.getD_eq_getElem?_getD, List.getElem?_eq_getElem hi]
  rfl
/-- the i-th shifted row, as it lies -/
def shHp (T : TypeId) (bx by_ : Int) (v : Value) (pc : List PtT) : Hp := .own v T 2 pc.length ((pc.map (shP bx by_)).flatMap eP)
/-- rows made one by one: what they are, that they lie still -/
structure MadeQ (T : TypeId) (bx by_ : Int) (ps : List (List PtT)) (i : Nat) (qvs : List Value) (fs : List Hp) : Prop where
  len : qvs.length = i
  le : i ≤ ps.length
  V : ∀ j, j < i → RowV (qvs.getD j undef) (ps.getD j []).length
  mem : ∀ j, j < i → shHp T bx by_ (qvs.getD j undef) (ps.getD j []) ∈ fs
theorem MadeQ.start {T : TypeId} {bx by_ : Int} {ps : List (List PtT)} : MadeQ T bx by_ ps 0 [] [] := ⟨rfl, Nat.zero_le _, fun j h => by omega, fun j h => by omega⟩
theorem getD_snoc {l : List Value} {v : Value} {j : Nat} : (l ++ [v]).getD j undef = if j = l.length then v else l.getD j undef := by
  rw [List.getD_eq_getElem?_getD, List.getD_eq_getElem?_getD, List.getElem?_append]
  split
  · rw [if_neg (by omega)]
  · split
    · rename_i h1 h2; subst h2; simp
    · rw [List.getElem?_eq_none (by simp; omega), List.getElem?_eq_none (by omega)]
theorem MadeQ.step {T : TypeId} {bx by_ : Int} {ps : List (List PtT)} {i : Nat} {qvs : List Value} {fs : List Hp} (h : MadeQ T bx by_ ps i qvs fs) (hi : i < ps.length) {v : Value} (hv : RowV v (ps.getD i []).length) : MadeQ T bx by_ ps (i + 1) (qvs ++ [v]) (shHp T bx by_ v (ps.getD i []) :: fs) := by
  refine ⟨by rw [List.length_append, h.len]; rfl, hi, fun j hj => ?_, fun j hj => ?_⟩
  · rw [getD_snoc, h.len]
    split
    · rename_i e; subst e; exact hv
    · exact h.V j (by omega)
  · rw [getD_snoc, h.len]
    split
    · rename_i e; subst e; exact List.mem_cons_self
    · exact List.mem_cons_of_mem _ (h.mem j (by omega))
theorem MadeQ.pcsW {T : TypeId} {bx by_ : Int} {ps : List (List PtT)} {qvs : List Value} {fs : List Hp} (h : MadeQ T bx by_ ps ps.length qvs fs) {v : Value} (hv : RowV v ps.length) (hl : ps.length ≤ 9223372036854775807) : PcsW v qvs (shPs bx by_ ps) := by
  have e : (shPs bx by_ ps).length = ps.length := by simp [shPs]
  refine ⟨by rw [e]; exact hv, by rw [e]; exact h.len, by rw [e]; exact hl, fun i hi => ?_⟩
  rw [e] at hi
  rw [shPs_getD hi, List.length_map]
  exact h.V i hi
theorem MadeQ.pcsAt {T : TypeId} {bx by_ : Int} {ps : List (List PtT)} {qvs : List Value} {fs : List Hp} (h : MadeQ T bx by_ ps ps.length qvs fs) {v : Value} {g0 : World → Prop} {w : World} (hg : gF g0 fs w) (hr : RowAt w v 1 ps.length qvs) : PcsAt w v qvs (shPs bx by_ ps) := by
  have e : (shPs bx by_ ps).length = ps.length := by simp [shPs]
  refine ⟨by rw [e]; exact hr, fun i hi => ?_⟩
  rw [e] at hi
  rw [shPs_getD hi, List.length_map]
  exact rowAt_own (gF_mem fs (h.mem i hi) hg)

end Go.Proofs.YtllhohbenniaaaaGreat

/- The spans as the document has them. Conditions: none. -/
namespace Go.Proofs.YtllhohbenniaaaaGreat
open Go.Proofs Go.RowKit Go.Shelf

def eC (c : Int × Int) : List Value := [.int .i64 c.1, .int .i64 c.2]
def dC : Int × Int := (0, 0)
theorem eC_len (c : Int × Int) : (eC c).length = 2 := rfl
theorem takeSnoc {α : Type} {l : List α} {i : Nat} (d : α) (h : i < l.length) : l.take (i + 1) = l.take i ++ [l.getD i d] := by
  rw [List.take_add_one, List.getElem?_eq_getElem h, List.getD_eq_getElem?_getD, List.getElem?_eq_getElem h]; rfl
theorem sumTo_snoc (cs : List (Int × Int)) (c : Int × Int) (x : Int) : sumTo (cs ++ [c]) x = sumTo cs x + if c.1 ≤ x then c.2 else 0 := by
  unfold sumTo; rw [sumF_append]; simp [sumF]
theorem sumTo_bound {cs : List (Int × Int)} (h : WiOk cs) (x : Int) : -(cs.length : Int) ≤ sumTo cs x ∧ sumTo cs x ≤ cs.length :=
  sumF_bound cs fun c hc => by have := h c hc; split <;> omega
theorem wiOk_getD {cs : List (Int × Int)} (h : WiOk cs) {i : Nat} (hi : i < cs.length) : (cs.getD i dC).2 = 1 ∨ (cs.getD i dC).2 = -1 := by
  rw [List.getD_eq_getElem?_getD, List.getElem?_eq_getElem hi]; exact h _ (List.getElem_mem hi)
theorem crs_get {r : Int} {es : List EdgeT} {i : Nat} (h : i < es.length) : (crs r es).getD i dC = (atE (es.getD i dE) r, (es.getD i dE).wi) := by
  rw [List.getD_eq_getElem?_getD, crs_getD h]; rfl
/-- a place is put in its order -/
theorem keys_put {cs : List (Int × Int)} {c : Int × Int} {j : Nat} (h1 : j ≤ (keysOf cs).length) (h2 : ∀ k, k < j → (keysOf cs).getD k 0 < c.1) (h3 : j < (keysOf cs).length → ¬ (keysOf cs).getD j 0 < c.1) (h4 : j < (keysOf cs).length → (keysOf cs).getD j 0 ≠ c.1) : keysOf (cs ++ [c]) = (keysOf cs).take j ++ c.1 :: (keysOf cs).drop j := by
  rw [keysOf_snoc, insU_at _ j h1 h2 h3, if_neg fun h => h4 h.1 h.2]
theorem keys_has {cs : List (Int × Int)} {c : Int × Int} {j : Nat} (h1 : j < (keysOf cs).length) (h2 : ∀ k, k < j → (keysOf cs).getD k 0 < c.1) (h4 : (keysOf cs).getD j 0 = c.1) : keysOf (cs ++ [c]) = keysOf cs := by
  rw [keysOf_snoc, insU_at _ j (Nat.le_of_lt h1) h2 (fun _ => by omega), if_pos ⟨h1, h4⟩]
theorem keys_flat {l l' : List Int} {x : Int} {j : Nat} (h : l' = l.take j ++ x :: l.drop j) : [] ++ (l.map (Value.int .i64)).take (j * 1) ++ [.int .i64 x] ++ (l.map (Value.int .i64)).drop (j * 1) = l'.map (Value.int .i64) := by
  subst h; simp [List.map_take, List.map_drop]
theorem keys_len {l l' : List Int} {x : Int} {j : Nat} (h : l' = l.take j ++ x :: l.drop j) (hj : j ≤ l.length) : 0 + j + 1 + (l.length - j) = l'.length := by
  subst h; simp [List.length_take, List.length_drop]; omega
theorem doc0 {cs : List (Int × Int)} {k : Nat} (h : sumTo cs ((keysOf cs).getD k 0) = 0) : docTo cs (k + 1) = docTo cs k := by
  rw [docTo_succ, docStep, if_pos h]
theorem last_getD {o : List SpanT} (h : 0 < o.length) : o.getLast? = some (o.getD (o.length - 1) dS) := by
  rw [List.getLast?_eq_getElem?, List.getD_eq_getElem?_getD, List.getElem?_eq_getElem (show o.length - 1 < o.length by omega)]; rfl
theorem doc1 {cs : List (Int × Int)} {k : Nat} (h : ¬ sumTo cs ((keysOf cs).getD k 0) = 0) (h0 : 0 < (docTo cs k).length) (h1 : ((docTo cs k).getD ((docTo cs k).length - 1) dS).to = (keysOf cs).getD k 0) :
    docTo cs (k + 1) = (docTo cs k).dropLast ++ [⟨((docTo cs k).getD ((docTo cs k).length - 1) dS).fr, (keysOf cs).getD (k + 1) 0⟩] := by
  rw [docTo_succ, docStep, if_neg h, last_getD h0]; simp only; rw [if_pos h1]
theorem doc2 {cs : List (Int × Int)} {k : Nat} (h : ¬ sumTo cs ((keysOf cs).getD k 0) = 0) (h1 : 0 < (docTo cs k).length → ¬ ((docTo cs k).getD ((docTo cs k).length - 1) dS).to = (keysOf cs).getD k 0) :
    docTo cs (k + 1) = docTo cs k ++ [⟨(keysOf cs).getD k 0, (keysOf cs).getD (k + 1) 0⟩] := by
  rw [docTo_succ, docStep, if_neg h]
  rcases Nat.eq_zero_or_pos (docTo cs k).length with h0 | h0
  · rw [List.eq_nil_of_length_eq_zero h0]; rfl
  · rw [last_getD h0]; simp only; rw [if_neg (h1 h0)]
theorem docTo_len (cs : List (Int × Int)) : ∀ k, (docTo cs k).length ≤ k
  | 0 => Nat.le_refl _
  | k + 1 => by
    have ih := docTo_len cs k
    by_cases h : sumTo cs ((keysOf cs).getD k 0) = 0
    · rw [doc0 h]; omega
    · by_cases h1 : 0 < (docTo cs k).length ∧ ((docTo cs k).getD ((docTo cs k).length - 1) dS).to = (keysOf cs).getD k 0
      · rw [doc1 h h1.1 h1.2, List.length_append, List.length_dropLast]; simp; omega
      · rw [doc2 h fun h0 h2 => h1 ⟨h0, h2⟩, List.length_append]; simp; omega
theorem flat_last : ∀ {o : List SpanT} {y : Int}, 0 < o.length → (o.flatMap eS).take ((o.length - 1) * 2 + 1) ++ [.int .i64 y] ++ (o.flatMap eS).drop ((o.length - 1) * 2 + 1 + 1) = (o.dropLast ++ [(⟨(o.getD (o.length - 1) dS).fr, y⟩ : SpanT)]).flatMap eS
  | [], _, h => by simp at h
  | [s], y, _ => rfl
  | s :: t :: r, y, _ => by
    have ih := flat_last (o := t :: r) (y := y) (by simp)
    have e : ((s :: t :: r).length - 1) * 2 = ((t :: r).length - 1) * 2 + 2 := by simp [List.length_cons]; omega
    have e2 : (s :: t :: r).getD ((s :: t :: r).length - 1) dS = (t :: r).getD ((t :: r).length - 1) dS := by simp [List.length_cons]
    rw [e, e2, List.dropLast_cons_cons, List.cons_append]
    conv => rhs; rw [List.flatMap_cons, ← ih]
    have e3 : ((t :: r).length - 1) * 2 + 2 + 1 = (((t :: r).length - 1) * 2 + 1) + 1 + 1 := by omega
    rw [e3]
    rfl
theorem dropLast_len {o : List SpanT} {s : SpanT} (h : 0 < o.length) : o.length = (o.dropLast ++ [s]).length := by rw [List.length_append, List.length_dropLast]; simp; omega
theorem crs_flat_snoc {cs : List (Int × Int)} {c : Int × Int} : cs.flatMap eC ++ eC c = (cs ++ [c]).flatMap eC := by simp
theorem zeroSum_crs (r : Int) (es : List EdgeT) : sumF (fun c => c.2) (crs r es) = windSum es := by
  unfold crs
  rw [sumF_map]
  induction es with
  | nil => rfl
  | cons e es ih => simp only [sumF, windSum, List.map_cons, List.sum_cons] at *; rw [ih]
theorem wind_all (r : Int) : ∀ ps : List (List PtT), windSum (liveT r (edgesAll ps)) = 0
  | [] => rfl
  | pc :: ps => by
    have ih := wind_all r ps
    unfold edgesAll at ih ⊢
    rw [List.flatMap_cons, live_append, windSum_append, wind_zero, ih]; rfl
theorem docRow_all (r : Int) (ps : List (List PtT)) : docRow (crs r (liveT r (edgesAll ps))) = rowS (crs r (liveT r (edgesAll ps))) := docRow_eq (by rw [zeroSum_crs, wind_all])
theorem r_winding (w : World) (v : Value) (cs : List (Int × Int)) (x : Int) (hn : cs.length ≤ 1000000) (hw : WiOk cs) (hV : RowV v cs.length) (hrow : RowAt w v 2 cs.length (cs.flatMap eC)) :
    Calls Tryz.prog 55 #[v, .int .i64 x] w fun e w' => e = .returned (.int .i64 (sumTo cs x)) ∧ Below w.heap.size w w' := by
  have hr : ∀ w', Chg (fun _ => False) w w' → RowAt w' v 2 cs.length (cs.flatMap eC) := fun w' h => hrow.chg h (fun h => h)
  refine calls_of (args := [v, .int .i64 x]) Tryz.func55 rfl Tryz.ntmps55 Tryz.results55 rfl ?_
  refine v_seq ?_
  refine v_region ?_
  refine l_val rfl (o_assign rfl) ?_
  refine l_nil ?_
  refine kt_norm ?_
  refine v_seq ?_
  refine v_region ?_
  refine l_val rfl (o_assign rfl) ?_
  refine l_nil ?_
  refine kt_norm ?_
  refine v_seq ?_
  refine v_seq ?_
  refine v_region ?_
  refine l_val rfl (o_assign rfl) ?_
  refine l_nil ?_
  refine kt_norm ?_
  refine v_block ?_
  refine v_loopS (α := Nat) (fun i => [(6, .int .i64 (i : Int)), (5, .int .i64 (sumTo (cs.take i) x))]) (fun i => [])  (fun i => i ≤ cs.length) (fun i => cs.length - i) 0 [0, 1] [] (Nat.zero_le _)  (And.intro rfl (And.intro rfl (True.intro))) rfl (True.intro) rfl ?_
  rintro i hi
  refine v_seq ?_
  refine v_seq ?_
  refine v_region ?_
  refine l_val rfl (o_move rfl) ?_
  refine l_val rfl (o_move rfl) ?_
  refine l_val rfl (o_len rfl hV) ?_
  refine l_split rfl (o_lss rfl rfl) (fun q1 => ?_) (fun q1 => ?_)
  · have hil : i < cs.length := by omega
    have hb1 := sumTo_bound (wiOk_take hw i) x
    have hb2 := wiOk_getD hw hil
    have hb3 := List.length_take (i := i) (l := cs)
    have hst : sumTo (cs.take (i + 1)) x = sumTo (cs.take i) x + if (cs.getD i dC).1 ≤ x then (cs.getD i dC).2 else 0 := by rw [takeSnoc dC hil, sumTo_snoc]
    refine l_nil ?_
    refine kt_norm ?_
    refine v_condT rfl ?_
    refine v_skip ?_
    refine kt_norm ?_
    refine v_seq ?_
    refine v_block ?_
    refine v_seq ?_
    refine v_region ?_
    refine l_val rfl (o_move rfl) ?_
    refine l_val rfl (o_move rfl) ?_
    refine l_val rfl (o_idx (i) rfl hV rfl (by first | rfl | omega) (by omega)) ?_
    refine l_val rfl (o_fld rfl) ?_
    refine l_val rfl (o_loadRF (f := 0) rfl (row_imm hr) (el_flat eC_len dC cs (i) (by omega)) rfl) ?_
    refine l_val rfl (o_move rfl) ?_
    refine l_split rfl (o_leq rfl rfl) (fun h56 => ?_) (fun h56 => ?_)
    · skip
      refine l_nil ?_
      refine kt_norm ?_
      refine v_sel [6, 5, 0, 1, 19] [] rfl rfl ?_
      refine v_condT rfl ?_
      refine v_region ?_
      refine l_val rfl (o_move rfl) ?_
      refine l_val rfl (o_move rfl) ?_
      refine l_val rfl (o_move rfl) ?_
      refine l_val rfl (o_idx (i) rfl hV rfl (by first | rfl | omega) (by omega)) ?_
      refine l_val rfl (o_fld rfl) ?_
      refine l_val rfl (o_loadRF (f := 1) rfl (row_imm hr) (el_flat eC_len dC cs (i) (by omega)) rfl) ?_
      refine l_val rfl (o_addi rfl rfl ?_) ?_
      · omega
      refine l_val rfl (o_assign rfl) ?_
      refine l_nil ?_
      refine kb_norm ?_
      refine kt_norm ?_
      refine v_sel [6, 5, 0, 1] [] rfl rfl ?_
      refine v_region ?_
      refine l_val rfl (o_move rfl) ?_
      refine l_val rfl (o_addi rfl rfl ?_) ?_
      · omega
      refine l_val rfl (o_assign rfl) ?_
      refine l_nil ?_
      refine kt_norm ?_
      refine ⟨i + 1, hil, by omega, le_app (And.intro rfl (And.intro (congrArg (fun q => some (Value.int .i64 q)) (by rw [hst, if_pos h56])) (True.intro))) [0, 1] rfl (True.intro) [] rfl⟩
    · skip
      refine l_nil ?_
      refine kt_norm ?_
      refine v_sel [6, 5, 0, 1, 19] [] rfl rfl ?_
      refine v_condF rfl ?_
      refine v_skip ?_
      refine kb_norm ?_
      refine kt_norm ?_
      refine v_region ?_
      refine l_val rfl (o_move rfl) ?_
      refine l_val rfl (o_addi rfl rfl ?_) ?_
      · omega
      refine l_val rfl (o_assign rfl) ?_
      refine l_nil ?_
      refine kt_norm ?_
      refine ⟨i + 1, hil, by omega, le_app (And.intro rfl (And.intro (congrArg (fun q => some (Value.int .i64 q)) (by rw [hst, if_neg h56]; omega)) (True.intro))) [0, 1] rfl (True.intro) [] rfl⟩
  · skip
    refine l_nil ?_
    refine kt_norm ?_
    refine v_condF rfl ?_
    refine v_exit ?_
    refine kt_exit ?_
    refine kt_exit ?_
    refine kb_eq ?_
    refine kt_norm ?_
    refine v_sel [5] [] rfl rfl ?_
    refine v_seq ?_
    refine v_region ?_
    obtain rfl : i = cs.length := by omega
    refine l_val rfl (o_move rfl) ?_
    refine l_val rfl (o_assign rfl) ?_
    refine l_nil ?_
    refine kt_norm ?_
    refine v_ret ?_
    refine ⟨[_], .cons (.tmp rfl) (ResAll.nil), ?_⟩
    exact congrArg (Value.int .i64) (by rw [List.take_length])
set_option maxHeartbeats 2000000 in
theorem r_SpansR (w : World) (v : Value) (es : List EdgeT) (r : Int) (hn : es.length ≤ 100000) (hV : RowV v es.length) (hrow : RowAt w v 7 es.length (es.flatMap eE)) (hc : ∀ e ∈ liveT r es, CrossOk r e) :
    Calls Tryz.prog 30 #[v, .int .i64 r] w fun e w' => ∃ y, e = .returned y ∧ Below w.heap.size w w' ∧ OwnAt w.heap.size w' y 86 2 (docRow (crs r (liveT r es))).length ((docRow (crs r (liveT r es))).flatMap eS) := by
  have hr : ∀ w', Chg (fun _ => False) w w' → RowAt w' v 7 es.length (es.flatMap eE) := fun w' h => hrow.chg h (fun h => h)
  have hll : (liveT r es).length ≤ es.length := List.length_filter_le _ _
  have hcl := crs_len r (liveT r es)
  have hkc := keysOf_len (crs r (liveT r es))
  refine calls_own (args := [v, .int .i64 r]) Tryz.func30 rfl Tryz.ntmps30 Tryz.results30 rfl ?_
  refine v_seq ?_
  refine v_region ?_
  refine l_val rfl (o_assign rfl) ?_
  refine l_nil ?_
  refine kt_norm ?_
  refine v_seq ?_
  refine v_region ?_
  refine l_val rfl (o_move rfl) ?_
  refine l_val rfl (o_move rfl) ?_
  refine l_gown (ks := []) (caps := #[]) (vs := [_, _]) rfl rfl (ent_of Tryz.func53 rfl rfl) rfl (fun w' hg hh => r_Live w' v es r (by omega) hV (hr w' hg)) fun y hy => ?_
  refine l_val rfl (o_assign rfl) ?_
  refine l_nil ?_
  refine kt_norm ?_
  refine v_seq ?_
  refine v_region ?_
  refine l_buildSlice (vs := []) (cs := []) rfl rfl rfl rfl rfl rfl fun v16 hv16 => ?_
  refine l_val rfl (o_assign rfl) ?_
  refine l_nil ?_
  refine kt_norm ?_
  refine v_sel [1, 5, 6] [15, 16] rfl rfl ?_
  refine v_seq ?_
  refine v_region ?_
  refine l_buildSlice (vs := []) (cs := []) rfl rfl rfl rfl rfl rfl fun v17 hv17 => ?_
  refine l_val rfl (o_assign rfl) ?_
  refine l_nil ?_
  refine kt_norm ?_
  refine v_seq ?_
  refine v_seq ?_
  refine v_region ?_
  refine l_val rfl (o_assign rfl) ?_
  refine l_nil ?_
  refine kt_norm ?_
  refine v_block ?_
  refine v_ren 16 39 [15, 17] rfl rfl rfl ?_
  refine v_ren 17 2007 [15, 39] rfl rfl rfl ?_
  refine v_loopS (α := Nat × Value × Value) (fun ⟨i, v6, v7⟩ => [(8, .int .i64 (i : Int)), (6, v6), (7, v7)]) (fun ⟨i, v6, v7⟩ => [(39, Hp.own v6 106 2 i (((crs r (liveT r es)).take i).flatMap eC)), (2007, Hp.own v7 3 1 (keysOf ((crs r (liveT r es)).take i)).length ((keysOf ((crs r (liveT r es)).take i)).map (Value.int .i64)))])  (fun ⟨i, v6, v7⟩ => i ≤ (liveT r es).length ∧ RowV v6 i ∧ RowV v7 (keysOf ((crs r (liveT r es)).take i)).length) (fun ⟨i, v6, v7⟩ => (liveT r es).length - i) (0, v16, v17) [1, 5] [15] ⟨Nat.zero_le _, hv16, hv17⟩  (And.intro rfl (And.intro rfl (And.intro rfl (True.intro)))) rfl (And.intro rfl (And.intro rfl (True.intro))) rfl ?_
  rintro ⟨i, v6, v7⟩ ⟨hi, hv6, hv7⟩
  refine v_seq ?_
  refine v_seq ?_
  refine v_region ?_
  refine l_val rfl (o_move rfl) ?_
  refine l_val rfl (o_move rfl) ?_
  refine l_val rfl (o_len rfl hy) ?_
  refine l_split rfl (o_lss rfl rfl) (fun q1 => ?_) (fun q1 => ?_)
  · have hil : i < (liveT r es).length := by omega
    have hk := live_getD hc hil
    have hka := hk.at_
    have hct := crs_take (r := r) hil
    have htl := List.length_take (i := i) (l := (crs r (liveT r es)))
    have hkl := keysOf_len ((crs r (liveT r es)).take i)
    refine l_nil ?_
    refine kt_norm ?_
    refine v_condT rfl ?_
    refine v_skip ?_
    refine kt_norm ?_
    refine v_seq ?_
    refine v_block ?_
    refine v_seq ?_
    refine v_region ?_
    refine l_val rfl (o_move rfl) ?_
    refine l_val rfl (o_move rfl) ?_
    refine l_val rfl (o_idx (i) rfl hy rfl (by first | rfl | omega) (by omega)) ?_
    refine l_val rfl (o_loadRE (c' := [_, _, _, _, _, _, _]) rfl (row_own (key := 15) rfl) (el_flat eE_len dE (liveT r es) (i) (by omega)) rfl) ?_
    refine l_val rfl (o_move rfl) ?_
    refine l_ans (vs := [_, _]) rfl rfl (r_At ((liveT r es).getD i dE) r hk.rr hk.x hk.y hk.d hk.dy hk.p) ?_
    refine l_val rfl (o_assign rfl) ?_
    refine l_nil ?_
    refine kt_norm ?_
    refine v_sel [8, 6, 7, 1, 5, 9] [15, 39, 2007] rfl rfl ?_
    refine v_seq ?_
    refine v_region ?_
    refine l_val rfl (o_move rfl) ?_
    refine l_val rfl (o_move rfl) ?_
    refine l_val rfl (o_move rfl) ?_
    refine l_val rfl (o_move rfl) ?_
    refine l_val rfl (o_idx (i) rfl hy rfl (by first | rfl | omega) (by omega)) ?_
    refine l_val rfl (o_fld rfl) ?_
    refine l_val rfl (o_loadRF (f := 4) rfl (row_own (key := 15) rfl) (el_flat eE_len dE (liveT r es) (i) (by omega)) rfl) ?_
    refine l_val rfl (o_build (vs := [_, _]) (cs := [_, _]) rfl rfl) ?_
    refine l_buildSlice (vs := [_]) (cs := [_, _]) rfl rfl rfl rfl rfl rfl fun v38 hv38 => ?_
    refine l_append 39 [15, 38, 2007] rfl rfl rfl rfl rfl rfl rfl hv38 (row_own (key := 38) rfl) (by omega) fun v39 hv39 => ?_
    refine l_val rfl (o_assign rfl) ?_
    refine l_nil ?_
    refine kt_norm ?_
    refine v_sel [8, 6, 7, 1, 5, 9] [15, 39, 2007] rfl rfl ?_
    refine v_seq ?_
    refine v_region ?_
    refine l_val rfl (o_assign rfl) ?_
    refine l_nil ?_
    refine kt_norm ?_
    refine v_seq ?_
    refine v_block ?_
    refine v_loopS (α := Nat) (fun j => [(10, .int .i64 (j : Int))]) (fun j => [])  (fun j => j ≤ (keysOf ((crs r (liveT r es)).take i)).length ∧ ∀ k, k < j → (keysOf ((crs r (liveT r es)).take i)).getD k 0 < (atE ((liveT r es).getD i dE) r)) (fun j => (keysOf ((crs r (liveT r es)).take i)).length - j) 0 [8, 6, 7, 1, 5, 9] [15, 39, 2007] ⟨Nat.zero_le _, fun k h => by omega⟩  (And.intro rfl (True.intro)) rfl (True.intro) rfl ?_
    rintro j ⟨hj, hB⟩
    refine v_seq ?_
    refine v_seq ?_
    refine v_region ?_
    refine l_val rfl (o_move rfl) ?_
    refine l_val rfl (o_move rfl) ?_
    refine l_val rfl (o_len rfl hv7) ?_
    refine l_split rfl (o_lss rfl rfl) (fun q2 => ?_) (fun q2 => ?_)
    · skip
      refine l_val rfl (o_move rfl) ?_
      refine l_val rfl (o_move rfl) ?_
      refine l_val rfl (o_move rfl) ?_
      refine l_val rfl (o_idx (j) rfl hv7 rfl (by first | rfl | omega) (by omega)) ?_
      refine l_val rfl (o_loadR1 rfl (row_own (key := 2007) rfl) (el_int (l := (keysOf ((crs r (liveT r es)).take i))) (i := j) (by omega))) ?_
      refine l_val rfl (o_move rfl) ?_
      refine l_split rfl (o_lss rfl rfl) (fun h1010 => ?_) (fun h1010 => ?_)
      · skip
        refine l_val rfl (o_pickT rfl rfl) ?_
        refine l_nil ?_
        refine kt_norm ?_
        refine v_condT rfl ?_
        refine v_skip ?_
        refine kt_norm ?_
        refine v_sel [10, 8, 6, 7, 1, 5, 9, 45, 46, 47, 48, 49, 50] [15, 39, 2007] rfl rfl ?_
        refine v_block ?_
        refine v_region ?_
        refine l_val rfl (o_move rfl) ?_
        refine l_val rfl (o_addi rfl rfl ?_) ?_
        · omega
        refine l_val rfl (o_assign rfl) ?_
        refine l_nil ?_
        refine kb_norm ?_
        refine kt_norm ?_
        refine ⟨j + 1, ⟨by omega, fun k hk2 => by rcases Nat.lt_or_eq_of_le (Nat.le_of_lt_succ hk2) with h | h; exact hB k h; subst h; exact h1010⟩, by omega, le_app (And.intro rfl (True.intro)) [8, 6, 7, 1, 5, 9] rfl (True.intro) [15, 39, 2007] rfl⟩
      · skip
        refine l_val rfl (o_pickT rfl rfl) ?_
        refine l_nil ?_
        refine kt_norm ?_
        refine v_condF rfl ?_
        refine v_exit ?_
        refine kt_exit ?_
        refine kt_exit ?_
        refine kb_eq ?_
        refine kt_norm ?_
        refine v_sel [10, 8, 6, 7, 1, 5, 9, 45, 46, 47, 48, 49, 50] [15, 39, 2007] rfl rfl ?_
        refine v_seq ?_
        refine v_region ?_
        refine l_val rfl (o_move rfl) ?_
        refine l_val rfl (o_move rfl) ?_
        refine l_val rfl (o_len rfl hv7) ?_
        refine l_split rfl (o_eql rfl rfl) (fun q3 => ?_) (fun q3 => ?_)
        · skip
          refine l_val rfl (o_move rfl) ?_
          refine l_no rfl ?_
          refine l_no rfl ?_
          refine l_no rfl ?_
          refine l_no rfl ?_
          refine l_no rfl ?_
          refine l_no rfl ?_
          refine l_val rfl (o_pickT rfl rfl) ?_
          refine l_nil ?_
          refine kt_norm ?_
          refine v_condT rfl ?_
          refine v_drawW [(70, 0 + j), (73, 0 + j + 1), (77, 0 + j + 1 + ((keysOf ((crs r (liveT r es)).take i)).length - j))] [[], [], [], [2007], [66, 2007], [], [], [66, 72], [], [], [], [66, 2007], []] mixed ?_ (by kernel_rfl) (by kernel_rfl)
          have hput : keysOf ((crs r (liveT r es)).take (i + 1)) = (keysOf ((crs r (liveT r es)).take i)).take j ++ (atE ((liveT r es).getD i dE) r) :: (keysOf ((crs r (liveT r es)).take i)).drop j := by rw [hct]; exact keys_put hj hB (fun h => by first | (exfalso; omega) | exact h1010) (fun h => by first | (exfalso; omega) | exact h1210)
          refine d_bsO (n := 0) (vs := fun _ => []) (cs := fun _ => []) (fun _ => rfl) (fun _ => rfl) (fun _ => rfl) rfl rfl (fun _ => rfl) (fun _ => rfl) ?_
          refine d_val (fun _ => rfl) rfl rfl (fun σ13 => o_move rfl) ?_
          refine d_val (fun _ => rfl) rfl rfl (fun σ13 => o_move rfl) ?_
          refine d_val (fun _ => rfl) rfl rfl (fun _ => o_sliceTo (key := 2007) j rfl rfl rfl rfl (by omega)) ?_
          refine d_app 66 (n := 0) (mm := j) (κ := [2007]) (fun _ => rfl) (fun _ => rfl) (fun _ => rfl) (fun _ => rfl) rfl (fun σ13 => rowV_to hv7 (by omega)) (fun σ13 => row_to (key := 2007) rfl (by omega)) (by omega) (fun _ h => h) ?_
          refine d_val (fun _ => rfl) rfl rfl (fun σ13 => o_move rfl) ?_
          refine d_bsO (n := 1) (vs := fun _ => [_]) (cs := fun _ => [_]) (fun _ => rfl) (fun _ => rfl) (fun _ => rfl) rfl rfl (fun _ => rfl) (fun _ => rfl) ?_
          refine d_app 66 (n := 0 + j) (mm := 1) (κ := [72]) (fun _ => rfl) (fun _ => rfl) (fun _ => rfl) (fun _ => rfl) rfl (fun σ13 => .inl ⟨_, _, _, rfl⟩) (fun σ13 => row_own (key := 72) rfl) (by omega) (fun _ h => h) ?_
          refine d_val (fun _ => rfl) rfl rfl (fun σ13 => o_move rfl) ?_
          refine d_val (fun _ => rfl) rfl rfl (fun σ13 => o_move rfl) ?_
          refine d_val (fun _ => rfl) rfl rfl (fun _ => o_sliceFrom (lo := j) rfl hv7 rfl rfl (by omega)) ?_
          refine d_app 66 (n := 0 + j + 1) (mm := (keysOf ((crs r (liveT r es)).take i)).length - j) (κ := [2007]) (fun _ => rfl) (fun _ => rfl) (fun _ => rfl) (fun _ => rfl) rfl (fun σ13 => rowV_from hv7 (by omega)) (fun σ13 => row_from (key := 2007) rfl (by omega)) (by omega) (fun _ h => h) ?_
          refine d_val (fun _ => rfl) rfl rfl (fun σ13 => o_assign rfl) ?_
          refine d_nil (fun σ13 => ?_)
          refine l_nil ?_
          refine kb_norm ?_
          refine kt_norm ?_
          refine v_sel [8, 6, 7, 1, 5, 45, 46, 47, 48, 49, 50, 59, 60, 61, 62, 63, 64] [15, 39, 66, 2007] rfl rfl ?_
          refine v_region ?_
          refine l_ren 66 2007 [15, 39] rfl rfl rfl ?_
          refine l_val rfl (o_move rfl) ?_
          refine l_val rfl (o_addi rfl rfl ?_) ?_
          · omega
          refine l_val rfl (o_assign rfl) ?_
          refine l_nil ?_
          refine kt_norm ?_
          refine ⟨(i + 1, v39, σ13.v 77), ⟨hil, hv39, RowV.to (show RowV (σ13.v 77) (0 + j + 1 + ((keysOf ((crs r (liveT r es)).take i)).length - j)) from σ13.ok 77) (keys_len hput hj)⟩, (by show (liveT r es).length - (i + 1) < (liveT r es).length - i; omega), le_app (And.intro rfl (And.intro rfl (And.intro rfl (True.intro)))) [1, 5] rfl (And.intro (congrArg some (own_congr rfl (by rw [hct]; exact crs_flat_snoc (cs := ((crs r (liveT r es)).take i)) (c := ((atE ((liveT r es).getD i dE) r), ((liveT r es).getD i dE).wi))))) (And.intro (congrArg some (own_congr (keys_len hput hj) (keys_flat hput))) (True.intro))) [15] rfl⟩
        · skip
          refine l_val rfl (o_move rfl) ?_
          refine l_val rfl (o_move rfl) ?_
          refine l_val rfl (o_move rfl) ?_
          refine l_val rfl (o_idx (j) rfl hv7 rfl (by first | rfl | omega) (by omega)) ?_
          refine l_val rfl (o_loadR1 rfl (row_own (key := 2007) rfl) (el_int (l := (keysOf ((crs r (liveT r es)).take i))) (i := j) (by omega))) ?_
          refine l_val rfl (o_move rfl) ?_
          refine l_split rfl (o_neq rfl rfl) (fun h1210 => ?_) (fun h1210 => ?_)
          · skip
            refine l_val rfl (o_pickF rfl rfl) ?_
            refine l_nil ?_
            refine kt_norm ?_
            refine v_condT rfl ?_
            refine v_drawW [(70, 0 + j), (73, 0 + j + 1), (77, 0 + j + 1 + ((keysOf ((crs r (liveT r es)).take i)).length - j))] [[], [], [], [2007], [66, 2007], [], [], [66, 72], [], [], [], [66, 2007], []] mixed ?_ (by kernel_rfl) (by kernel_rfl)
            have hput : keysOf ((crs r (liveT r es)).take (i + 1)) = (keysOf ((crs r (liveT r es)).take i)).take j ++ (atE ((liveT r es).getD i dE) r) :: (keysOf ((crs r (liveT r es)).take i)).drop j := by rw [hct]; exact keys_put hj hB (fun h => by first | (exfalso; omega) | exact h1010) (fun h => by first | (exfalso; omega) | exact h1210)
            refine d_bsO (n := 0) (vs := fun _ => []) (cs := fun _ => []) (fun _ => rfl) (fun _ => rfl) (fun _ => rfl) rfl rfl (fun _ => rfl) (fun _ => rfl) ?_
            refine d_val (fun _ => rfl) rfl rfl (fun σ13 => o_move rfl) ?_
            refine d_val (fun _ => rfl) rfl rfl (fun σ13 => o_move rfl) ?_
            refine d_val (fun _ => rfl) rfl rfl (fun _ => o_sliceTo (key := 2007) j rfl rfl rfl rfl (by omega)) ?_
            refine d_app 66 (n := 0) (mm := j) (κ := [2007]) (fun _ => rfl) (fun _ => rfl) (fun _ => rfl) (fun _ => rfl) rfl (fun σ13 => rowV_to hv7 (by omega)) (fun σ13 => row_to (key := 2007) rfl (by omega)) (by omega) (fun _ h => h) ?_
            refine d_val (fun _ => rfl) rfl rfl (fun σ13 => o_move rfl) ?_
            refine d_bsO (n := 1) (vs := fun _ => [_]) (cs := fun _ => [_]) (fun _ => rfl) (fun _ => rfl) (fun _ => rfl) rfl rfl (fun _ => rfl) (fun _ => rfl) ?_
            refine d_app 66 (n := 0 + j) (mm := 1) (κ := [72]) (fun _ => rfl) (fun _ => rfl) (fun _ => rfl) (fun _ => rfl) rfl (fun σ13 => .inl ⟨_, _, _, rfl⟩) (fun σ13 => row_own (key := 72) rfl) (by omega) (fun _ h => h) ?_
            refine d_val (fun _ => rfl) rfl rfl (fun σ13 => o_move rfl) ?_
            refine d_val (fun _ => rfl) rfl rfl (fun σ13 => o_move rfl) ?_
            refine d_val (fun _ => rfl) rfl rfl (fun _ => o_sliceFrom (lo := j) rfl hv7 rfl rfl (by omega)) ?_
            refine d_app 66 (n := 0 + j + 1) (mm := (keysOf ((crs r (liveT r es)).take i)).length - j) (κ := [2007]) (fun _ => rfl) (fun _ => rfl) (fun _ => rfl) (fun _ => rfl) rfl (fun σ13 => rowV_from hv7 (by omega)) (fun σ13 => row_from (key := 2007) rfl (by omega)) (by omega) (fun _ h => h) ?_
            refine d_val (fun _ => rfl) rfl rfl (fun σ13 => o_assign rfl) ?_
            refine d_nil (fun σ13 => ?_)
            refine l_nil ?_
            refine kb_norm ?_
            refine kt_norm ?_
            refine v_sel [8, 6, 7, 1, 5, 45, 46, 47, 48, 49, 50, 59, 60, 61, 62, 63, 64] [15, 39, 66, 2007] rfl rfl ?_
            refine v_region ?_
            refine l_ren 66 2007 [15, 39] rfl rfl rfl ?_
            refine l_val rfl (o_move rfl) ?_
            refine l_val rfl (o_addi rfl rfl ?_) ?_
            · omega
            refine l_val rfl (o_assign rfl) ?_
            refine l_nil ?_
            refine kt_norm ?_
            refine ⟨(i + 1, v39, σ13.v 77), ⟨hil, hv39, RowV.to (show RowV (σ13.v 77) (0 + j + 1 + ((keysOf ((crs r (liveT r es)).take i)).length - j)) from σ13.ok 77) (keys_len hput hj)⟩, (by show (liveT r es).length - (i + 1) < (liveT r es).length - i; omega), le_app (And.intro rfl (And.intro rfl (And.intro rfl (True.intro)))) [1, 5] rfl (And.intro (congrArg some (own_congr rfl (by rw [hct]; exact crs_flat_snoc (cs := ((crs r (liveT r es)).take i)) (c := ((atE ((liveT r es).getD i dE) r), ((liveT r es).getD i dE).wi))))) (And.intro (congrArg some (own_congr (keys_len hput hj) (keys_flat hput))) (True.intro))) [15] rfl⟩
          · skip
            refine l_val rfl (o_pickF rfl rfl) ?_
            refine l_nil ?_
            refine kt_norm ?_
            refine v_condF rfl ?_
            refine v_skip ?_
            refine kb_norm ?_
            refine kt_norm ?_
            refine v_sel [8, 6, 7, 1, 5, 45, 46, 47, 48, 49, 50, 59, 60, 61, 62, 63, 64] [15, 39, 2007] rfl rfl ?_
            refine v_region ?_
            have hhas : keysOf ((crs r (liveT r es)).take (i + 1)) = (keysOf ((crs r (liveT r es)).take i)) := by rw [hct]; exact keys_has (by omega) hB (Decidable.not_not.1 h1210)
            refine l_val rfl (o_move rfl) ?_
            refine l_val rfl (o_addi rfl rfl ?_) ?_
            · omega
            refine l_val rfl (o_assign rfl) ?_
            refine l_nil ?_
            refine kt_norm ?_
            refine ⟨(i + 1, v39, v7), ⟨hil, hv39, by rw [hhas]; exact hv7⟩, (by show (liveT r es).length - (i + 1) < (liveT r es).length - i; omega), le_app (And.intro rfl (And.intro rfl (And.intro rfl (True.intro)))) [1, 5] rfl (And.intro (congrArg some (own_congr rfl (by rw [hct]; exact crs_flat_snoc (cs := ((crs r (liveT r es)).take i)) (c := ((atE ((liveT r es).getD i dE) r), ((liveT r es).getD i dE).wi))))) (And.intro (congrArg some (own_congr (by rw [hhas]) (by rw [hhas]))) (True.intro))) [15] rfl⟩
    · skip
      refine l_val rfl (o_move rfl) ?_
      refine l_no rfl ?_
      refine l_no rfl ?_
      refine l_no rfl ?_
      refine l_no rfl ?_
      refine l_no rfl ?_
      refine l_no rfl ?_
      refine l_val rfl (o_pickF rfl rfl) ?_
      refine l_nil ?_
      refine kt_norm ?_
      refine v_condF rfl ?_
      refine v_exit ?_
      refine kt_exit ?_
      refine kt_exit ?_
      refine kb_eq ?_
      refine kt_norm ?_
      refine v_sel [10, 8, 6, 7, 1, 5, 9, 45, 46, 47, 48, 49, 50] [15, 39, 2007] rfl rfl ?_
      refine v_seq ?_
      refine v_region ?_
      refine l_val rfl (o_move rfl) ?_
      refine l_val rfl (o_move rfl) ?_
      refine l_val rfl (o_len rfl hv7) ?_
      refine l_split rfl (o_eql rfl rfl) (fun q4 => ?_) (fun q4 => ?_)
      · skip
        refine l_val rfl (o_move rfl) ?_
        refine l_no rfl ?_
        refine l_no rfl ?_
        refine l_no rfl ?_
        refine l_no rfl ?_
        refine l_no rfl ?_
        refine l_no rfl ?_
        refine l_val rfl (o_pickT rfl rfl) ?_
        refine l_nil ?_
        refine kt_norm ?_
        refine v_condT rfl ?_
        refine v_drawW [(70, 0 + j), (73, 0 + j + 1), (77, 0 + j + 1 + ((keysOf ((crs r (liveT r es)).take i)).length - j))] [[], [], [], [2007], [66, 2007], [], [], [66, 72], [], [], [], [66, 2007], []] mixed ?_ (by kernel_rfl) (by kernel_rfl)
        have hput : keysOf ((crs r (liveT r es)).take (i + 1)) = (keysOf ((crs r (liveT r es)).take i)).take j ++ (atE ((liveT r es).getD i dE) r) :: (keysOf ((crs r (liveT r es)).take i)).drop j := by rw [hct]; exact keys_put hj hB (fun h => by first | (exfalso; omega) | exact h1010) (fun h => by first | (exfalso; omega) | exact h1210)
        refine d_bsO (n := 0) (vs := fun _ => []) (cs := fun _ => []) (fun _ => rfl) (fun _ => rfl) (fun _ => rfl) rfl rfl (fun _ => rfl) (fun _ => rfl) ?_
        refine d_val (fun _ => rfl) rfl rfl (fun σ13 => o_move rfl) ?_
        refine d_val (fun _ => rfl) rfl rfl (fun σ13 => o_move rfl) ?_
        refine d_val (fun _ => rfl) rfl rfl (fun _ => o_sliceTo (key := 2007) j rfl rfl rfl rfl (by omega)) ?_
        refine d_app 66 (n := 0) (mm := j) (κ := [2007]) (fun _ => rfl) (fun _ => rfl) (fun _ => rfl) (fun _ => rfl) rfl (fun σ13 => rowV_to hv7 (by omega)) (fun σ13 => row_to (key := 2007) rfl (by omega)) (by omega) (fun _ h => h) ?_
        refine d_val (fun _ => rfl) rfl rfl (fun σ13 => o_move rfl) ?_
        refine d_bsO (n := 1) (vs := fun _ => [_]) (cs := fun _ => [_]) (fun _ => rfl) (fun _ => rfl) (fun _ => rfl) rfl rfl (fun _ => rfl) (fun _ => rfl) ?_
        refine d_app 66 (n := 0 + j) (mm := 1) (κ := [72]) (fun _ => rfl) (fun _ => rfl) (fun _ => rfl) (fun _ => rfl) rfl (fun σ13 => .inl ⟨_, _, _, rfl⟩) (fun σ13 => row_own (key := 72) rfl) (by omega) (fun _ h => h) ?_
        refine d_val (fun _ => rfl) rfl rfl (fun σ13 => o_move rfl) ?_
        refine d_val (fun _ => rfl) rfl rfl (fun σ13 => o_move rfl) ?_
        refine d_val (fun _ => rfl) rfl rfl (fun _ => o_sliceFrom (lo := j) rfl hv7 rfl rfl (by omega)) ?_
        refine d_app 66 (n := 0 + j + 1) (mm := (keysOf ((crs r (liveT r es)).take i)).length - j) (κ := [2007]) (fun _ => rfl) (fun _ => rfl) (fun _ => rfl) (fun _ => rfl) rfl (fun σ13 => rowV_from hv7 (by omega)) (fun σ13 => row_from (key := 2007) rfl (by omega)) (by omega) (fun _ h => h) ?_
        refine d_val (fun _ => rfl) rfl rfl (fun σ13 => o_assign rfl) ?_
        refine d_nil (fun σ13 => ?_)
        refine l_nil ?_
        refine kb_norm ?_
        refine kt_norm ?_
        refine v_sel [8, 6, 7, 1, 5, 45, 46, 47, 48, 49, 50, 59, 60, 61, 62, 63, 64] [15, 39, 66, 2007] rfl rfl ?_
        refine v_region ?_
        refine l_ren 66 2007 [15, 39] rfl rfl rfl ?_
        refine l_val rfl (o_move rfl) ?_
        refine l_val rfl (o_addi rfl rfl ?_) ?_
        · omega
        refine l_val rfl (o_assign rfl) ?_
        refine l_nil ?_
        refine kt_norm ?_
        refine ⟨(i + 1, v39, σ13.v 77), ⟨hil, hv39, RowV.to (show RowV (σ13.v 77) (0 + j + 1 + ((keysOf ((crs r (liveT r es)).take i)).length - j)) from σ13.ok 77) (keys_len hput hj)⟩, (by show (liveT r es).length - (i + 1) < (liveT r es).length - i; omega), le_app (And.intro rfl (And.intro rfl (And.intro rfl (True.intro)))) [1, 5] rfl (And.intro (congrArg some (own_congr rfl (by rw [hct]; exact crs_flat_snoc (cs := ((crs r (liveT r es)).take i)) (c := ((atE ((liveT r es).getD i dE) r), ((liveT r es).getD i dE).wi))))) (And.intro (congrArg some (own_congr (keys_len hput hj) (keys_flat hput))) (True.intro))) [15] rfl⟩
      · skip
        refine l_val rfl (o_move rfl) ?_
        refine l_val rfl (o_move rfl) ?_
        refine l_val rfl (o_move rfl) ?_
        refine l_val rfl (o_idx (j) rfl hv7 rfl (by first | rfl | omega) (by omega)) ?_
        refine l_val rfl (o_loadR1 rfl (row_own (key := 2007) rfl) (el_int (l := (keysOf ((crs r (liveT r es)).take i))) (i := j) (by omega))) ?_
        refine l_val rfl (o_move rfl) ?_
        refine l_split rfl (o_neq rfl rfl) (fun h1210 => ?_) (fun h1210 => ?_)
        · skip
          refine l_val rfl (o_pickF rfl rfl) ?_
          refine l_nil ?_
          refine kt_norm ?_
          refine v_condT rfl ?_
          refine v_drawW [(70, 0 + j), (73, 0 + j + 1), (77, 0 + j + 1 + ((keysOf ((crs r (liveT r es)).take i)).length - j))] [[], [], [], [2007], [66, 2007], [], [], [66, 72], [], [], [], [66, 2007], []] mixed ?_ (by kernel_rfl) (by kernel_rfl)
          have hput : keysOf ((crs r (liveT r es)).take (i + 1)) = (keysOf ((crs r (liveT r es)).take i)).take j ++ (atE ((liveT r es).getD i dE) r) :: (keysOf ((crs r (liveT r es)).take i)).drop j := by rw [hct]; exact keys_put hj hB (fun h => by first | (exfalso; omega) | exact h1010) (fun h => by first | (exfalso; omega) | exact h1210)
          refine d_bsO (n := 0) (vs := fun _ => []) (cs := fun _ => []) (fun _ => rfl) (fun _ => rfl) (fun _ => rfl) rfl rfl (fun _ => rfl) (fun _ => rfl) ?_
          refine d_val (fun _ => rfl) rfl rfl (fun σ13 => o_move rfl) ?_
          refine d_val (fun _ => rfl) rfl rfl (fun σ13 => o_move rfl) ?_
          refine d_val (fun _ => rfl) rfl rfl (fun _ => o_sliceTo (key := 2007) j rfl rfl rfl rfl (by omega)) ?_
          refine d_app 66 (n := 0) (mm := j) (κ := [2007]) (fun _ => rfl) (fun _ => rfl) (fun _ => rfl) (fun _ => rfl) rfl (fun σ13 => rowV_to hv7 (by omega)) (fun σ13 => row_to (key := 2007) rfl (by omega)) (by omega) (fun _ h => h) ?_
          refine d_val (fun _ => rfl) rfl rfl (fun σ13 => o_move rfl) ?_
          refine d_bsO (n := 1) (vs := fun _ => [_]) (cs := fun _ => [_]) (fun _ => rfl) (fun _ => rfl) (fun _ => rfl) rfl rfl (fun _ => rfl) (fun _ => rfl) ?_
          refine d_app 66 (n := 0 + j) (mm := 1) (κ := [72]) (fun _ => rfl) (fun _ => rfl) (fun _ => rfl) (fun _ => rfl) rfl (fun σ13 => .inl ⟨_, _, _, rfl⟩) (fun σ13 => row_own (key := 72) rfl) (by omega) (fun _ h => h) ?_
          refine d_val (fun _ => rfl) rfl rfl (fun σ13 => o_move rfl) ?_
          refine d_val (fun _ => rfl) rfl rfl (fun σ13 => o_move rfl) ?_
          refine d_val (fun _ => rfl) rfl rfl (fun _ => o_sliceFrom (lo := j) rfl hv7 rfl rfl (by omega)) ?_
          refine d_app 66 (n := 0 + j + 1) (mm := (keysOf ((crs r (liveT r es)).take i)).length - j) (κ := [2007]) (fun _ => rfl) (fun _ => rfl) (fun _ => rfl) (fun _ => rfl) rfl (fun σ13 => rowV_from hv7 (by omega)) (fun σ13 => row_from (key := 2007) rfl (by omega)) (by omega) (fun _ h => h) ?_
          refine d_val (fun _ => rfl) rfl rfl (fun σ13 => o_assign rfl) ?_
          refine d_nil (fun σ13 => ?_)
          refine l_nil ?_
          refine kb_norm ?_
          refine kt_norm ?_
          refine v_sel [8, 6, 7, 1, 5, 45, 46, 47, 48, 49, 50, 59, 60, 61, 62, 63, 64] [15, 39, 66, 2007] rfl rfl ?_
          refine v_region ?_
          refine l_ren 66 2007 [15, 39] rfl rfl rfl ?_
          refine l_val rfl (o_move rfl) ?_
          refine l_val rfl (o_addi rfl rfl ?_) ?_
          · omega
          refine l_val rfl (o_assign rfl) ?_
          refine l_nil ?_
          refine kt_norm ?_
          refine ⟨(i + 1, v39, σ13.v 77), ⟨hil, hv39, RowV.to (show RowV (σ13.v 77) (0 + j + 1 + ((keysOf ((crs r (liveT r es)).take i)).length - j)) from σ13.ok 77) (keys_len hput hj)⟩, (by show (liveT r es).length - (i + 1) < (liveT r es).length - i; omega), le_app (And.intro rfl (And.intro rfl (And.intro rfl (True.intro)))) [1, 5] rfl (And.intro (congrArg some (own_congr rfl (by rw [hct]; exact crs_flat_snoc (cs := ((crs r (liveT r es)).take i)) (c := ((atE ((liveT r es).getD i dE) r), ((liveT r es).getD i dE).wi))))) (And.intro (congrArg some (own_congr (keys_len hput hj) (keys_flat hput))) (True.intro))) [15] rfl⟩
        · skip
          refine l_val rfl (o_pickF rfl rfl) ?_
          refine l_nil ?_
          refine kt_norm ?_
          refine v_condF rfl ?_
          refine v_skip ?_
          refine kb_norm ?_
          refine kt_norm ?_
          refine v_sel [8, 6, 7, 1, 5, 45, 46, 47, 48, 49, 50, 59, 60, 61, 62, 63, 64] [15, 39, 2007] rfl rfl ?_
          refine v_region ?_
          have hhas : keysOf ((crs r (liveT r es)).take (i + 1)) = (keysOf ((crs r (liveT r es)).take i)) := by rw [hct]; exact keys_has (by omega) hB (Decidable.not_not.1 h1210)
          refine l_val rfl (o_move rfl) ?_
          refine l_val rfl (o_addi rfl rfl ?_) ?_
          · omega
          refine l_val rfl (o_assign rfl) ?_
          refine l_nil ?_
          refine kt_norm ?_
          refine ⟨(i + 1, v39, v7), ⟨hil, hv39, by rw [hhas]; exact hv7⟩, (by show (liveT r es).length - (i + 1) < (liveT r es).length - i; omega), le_app (And.intro rfl (And.intro rfl (And.intro rfl (True.intro)))) [1, 5] rfl (And.intro (congrArg some (own_congr rfl (by rw [hct]; exact crs_flat_snoc (cs := ((crs r (liveT r es)).take i)) (c := ((atE ((liveT r es).getD i dE) r), ((liveT r es).getD i dE).wi))))) (And.intro (congrArg some (own_congr (by rw [hhas]) (by rw [hhas]))) (True.intro))) [15] rfl⟩
  · skip
    refine l_nil ?_
    refine kt_norm ?_
    refine v_condF rfl ?_
    refine v_exit ?_
    refine kt_exit ?_
    refine kt_exit ?_
    refine kb_eq ?_
    refine kt_norm ?_
    refine v_sel [6, 7] [15, 39, 2007] rfl rfl ?_
    refine v_seq ?_
    refine v_region ?_
    obtain rfl : i = (liveT r es).length := by omega
    have htk : (crs r (liveT r es)).take (liveT r es).length = (crs r (liveT r es)) := List.take_of_length_le (by omega)
    rw [htk] at hv7
    have hw6 : RowV v6 (crs r (liveT r es)).length := by rw [hcl]; exact hv6
    refine l_buildSlice (vs := []) (cs := []) rfl rfl rfl rfl rfl rfl fun v78 hv78 => ?_
    refine l_val rfl (o_assign rfl) ?_
    refine l_nil ?_
    refine kt_norm ?_
    refine v_seq ?_
    refine v_seq ?_
    refine v_region ?_
    refine l_val rfl (o_assign rfl) ?_
    refine l_nil ?_
    refine kt_norm ?_
    refine v_block ?_
    refine v_ren 78 133 [15, 39, 2007] rfl rfl rfl ?_
    refine v_ren 39 2006 [15, 133, 2007] rfl rfl rfl ?_
    refine v_loopS (α := Nat × Value) (fun ⟨k, v11⟩ => [(12, .int .i64 (k : Int)), (11, v11)]) (fun ⟨k, v11⟩ => [(133, Hp.own v11 86 2 (docTo (crs r (liveT r es)) k).length ((docTo (crs r (liveT r es)) k).flatMap eS)), (2006, Hp.own v6 106 2 (crs r (liveT r es)).length ((crs r (liveT r es)).flatMap eC)), (2007, Hp.own v7 3 1 (keysOf (crs r (liveT r es))).length ((keysOf (crs r (liveT r es))).map (Value.int .i64)))])  (fun ⟨k, v11⟩ => k ≤ (keysOf (crs r (liveT r es))).length - 1 ∧ RowV v11 (docTo (crs r (liveT r es)) k).length) (fun ⟨k, v11⟩ => (keysOf (crs r (liveT r es))).length - k) (0, v78) [6, 7] [15] ⟨Nat.zero_le _, hv78⟩  (And.intro rfl (And.intro rfl (True.intro))) rfl (And.intro rfl (And.intro (congrArg some (own_congr hcl.symm (by rw [htk]))) (And.intro (congrArg some (own_congr (by rw [htk]) (by rw [htk]))) (True.intro)))) rfl ?_
    rintro ⟨k, v11⟩ ⟨hk, hv11⟩
    refine v_seq ?_
    refine v_seq ?_
    refine v_region ?_
    refine l_val rfl (o_move rfl) ?_
    refine l_val rfl (o_addi rfl rfl ?_) ?_
    · omega
    refine l_val rfl (o_move rfl) ?_
    refine l_val rfl (o_len rfl hv7) ?_
    refine l_split rfl (o_lss rfl rfl) (fun q5 => ?_) (fun q5 => ?_)
    · have hkl2 : k + 1 < (keysOf (crs r (liveT r es))).length := by omega
      have hdl := docTo_len (crs r (liveT r es)) k
      refine l_nil ?_
      refine kt_norm ?_
      refine v_condT rfl ?_
      refine v_skip ?_
      refine kt_norm ?_
      refine v_seq ?_
      refine v_block ?_
      refine v_seq ?_
      refine v_seq ?_
      refine v_region ?_
      refine l_val rfl (o_move rfl) ?_
      refine l_val rfl (o_move rfl) ?_
      refine l_val rfl (o_move rfl) ?_
      refine l_val rfl (o_idx (k) rfl hv7 rfl (by first | rfl | omega) (by omega)) ?_
      refine l_val rfl (o_loadR1 rfl (row_own (key := 2007) rfl) (el_int (l := (keysOf (crs r (liveT r es)))) (i := k) (by omega))) ?_
      refine l_call (ks := [2006]) rfl (o_callC (vs := [_, _]) (r := .int .i64 (sumTo (crs r (liveT r es)) ((keysOf (crs r (liveT r es))).getD k 0))) (ent_of Tryz.func55 rfl rfl) rfl (fun w' hg hh => r_winding w' v6 (crs r (liveT r es)) _ (by omega) (crs_wi hc) hw6 (rowAt_own (hh 2006 (by simp) _ rfl)))) ?_
      refine l_split rfl (o_eql rfl rfl) (fun h186 => ?_) (fun h186 => ?_)
      · skip
        refine l_nil ?_
        refine kt_norm ?_
        refine v_sel [12, 11, 6, 7, 92] [15, 133, 2006, 2007] rfl rfl ?_
        refine v_condT rfl ?_
        refine v_exit ?_
        refine kt_exit ?_
        refine kb_eq ?_
        refine kt_norm ?_
        refine v_region ?_
        refine l_val rfl (o_move rfl) ?_
        refine l_val rfl (o_addi rfl rfl ?_) ?_
        · omega
        refine l_val rfl (o_assign rfl) ?_
        refine l_nil ?_
        refine kt_norm ?_
        have hd := doc0 h186
        refine ⟨(k + 1, v11), ⟨by omega, by rw [hd]; exact hv11⟩, (by show (keysOf (crs r (liveT r es))).length - (k + 1) < (keysOf (crs r (liveT r es))).length - k; omega), le_app (And.intro rfl (And.intro rfl (True.intro))) [6, 7] rfl (And.intro (congrArg some (own_congr (by rw [hd]) (by rw [hd]))) (And.intro rfl (And.intro rfl (True.intro)))) [15] rfl⟩
      · skip
        refine l_nil ?_
        refine kt_norm ?_
        refine v_sel [12, 11, 6, 7, 92] [15, 133, 2006, 2007] rfl rfl ?_
        refine v_condF rfl ?_
        refine v_skip ?_
        refine kt_norm ?_
        refine v_seq ?_
        refine v_drawZ [[], [], [], [], [], [], [], [], [], [], [133], [], [], [], [2007], [], []] mixed ?_ (by kernel_rfl) (by kernel_rfl)
        refine d_val (fun _ => rfl) rfl rfl (fun _ => o_move rfl) ?_
        refine d_val (fun _ => rfl) rfl rfl (fun _ => o_len rfl hv11) ?_
        refine d_gtr (fun _ => rfl) (fun _ => rfl) (fun _ => rfl) (fun h192 => ?_) (fun h192 => ?_)
        · skip
          refine d_val (fun _ => rfl) rfl rfl (fun _ => o_move rfl) ?_
          refine d_val (fun _ => rfl) rfl rfl (fun _ => o_move rfl) ?_
          refine d_val (fun _ => rfl) rfl rfl (fun _ => o_move rfl) ?_
          refine d_val (fun _ => rfl) rfl rfl (fun _ => o_len rfl hv11) ?_
          refine d_val (fun _ => rfl) rfl rfl (fun _ => o_subi rfl rfl ?_) ?_
          · omega
          refine d_val (fun _ => rfl) rfl rfl (fun _ => o_idx ((docTo (crs r (liveT r es)) k).length - 1) rfl hv11 rfl (by first | rfl | omega) (by omega)) ?_
          refine d_val (fun _ => rfl) rfl rfl (fun _ => o_fld rfl) ?_
          refine d_val (fun _ => rfl) rfl rfl (fun _ => o_loadRF (f := 1) rfl (row_own (key := 133) rfl) (el_flat eS_len dS (docTo (crs r (liveT r es)) k) ((docTo (crs r (liveT r es)) k).length - 1) (by omega)) rfl) ?_
          refine d_val (fun _ => rfl) rfl rfl (fun _ => o_move rfl) ?_
          refine d_val (fun _ => rfl) rfl rfl (fun _ => o_move rfl) ?_
          refine d_val (fun _ => rfl) rfl rfl (fun _ => o_idx (k) rfl hv7 rfl (by first | rfl | omega) (by omega)) ?_
          refine d_val (fun _ => rfl) rfl rfl (fun _ => o_loadR1 rfl (row_own (key := 2007) rfl) (el_int (l := (keysOf (crs r (liveT r es)))) (i := k) (by omega))) ?_
          refine d_eql (fun _ => rfl) (fun _ => rfl) (fun _ => rfl) (fun h1915 => ?_) (fun h1915 => ?_)
          · skip
            refine d_val (fun _ => rfl) rfl rfl (fun _ => o_pickT rfl rfl) ?_
            refine d_nil (fun σ => ?_)
            refine l_nil ?_
            refine kt_norm ?_
            refine v_condT rfl ?_
            refine v_region ?_
            refine l_val rfl (o_move rfl) ?_
            refine l_val rfl (o_move rfl) ?_
            refine l_val rfl (o_len rfl hv11) ?_
            refine l_val rfl (o_subi rfl rfl ?_) ?_
            · omega
            refine l_val rfl (o_move rfl) ?_
            refine l_val rfl (o_move rfl) ?_
            refine l_val rfl (o_addi rfl rfl ?_) ?_
            · omega
            refine l_val rfl (o_idx (k + 1) rfl hv7 rfl (by first | rfl | omega) (by omega)) ?_
            refine l_val rfl (o_loadR1 rfl (row_own (key := 2007) rfl) (el_int (l := (keysOf (crs r (liveT r es)))) (i := k + 1) (by omega))) ?_
            refine l_val rfl (o_idx ((docTo (crs r (liveT r es)) k).length - 1) rfl hv11 rfl (by first | rfl | omega) (by omega)) ?_
            refine l_val rfl (o_fld rfl) ?_
            refine l_store rfl (o_storeRF (key := 133) rfl rfl rfl rfl rfl (by omega) (by decide)) ?_
            refine l_nil ?_
            refine kb_norm ?_
            refine kt_norm ?_
            refine v_sel [12, 11, 6, 7, 97, 98, 99, 100, 101, 102, 103, 104, 105, 106, 107, 108] [15, 133, 2006, 2007] rfl rfl ?_
            refine v_region ?_
            refine l_val rfl (o_move rfl) ?_
            refine l_val rfl (o_addi rfl rfl ?_) ?_
            · omega
            refine l_val rfl (o_assign rfl) ?_
            refine l_nil ?_
            refine kt_norm ?_
            have hd := doc1 h186 (by omega) h1915
            refine ⟨(k + 1, v11), ⟨by omega, by rw [hd]; exact hv11.to (dropLast_len (by omega))⟩, (by show (keysOf (crs r (liveT r es))).length - (k + 1) < (keysOf (crs r (liveT r es))).length - k; omega), le_app (And.intro rfl (And.intro rfl (True.intro))) [6, 7] rfl (And.intro (congrArg some (own_congr (by rw [hd]; exact dropLast_len (by omega)) (by rw [hd]; exact flat_last (by omega)))) (And.intro rfl (And.intro rfl (True.intro)))) [15] rfl⟩
          · skip
            refine d_val (fun _ => rfl) rfl rfl (fun _ => o_pickT rfl rfl) ?_
            refine d_nil (fun σ => ?_)
            refine l_nil ?_
            refine kt_norm ?_
            refine v_condF rfl ?_
            refine v_drawZ [[], [], [], [], [2007], [], [], [], [], [2007], [], []] mixed ?_ (by kernel_rfl) (by kernel_rfl)
            refine d_val (fun _ => rfl) rfl rfl (fun _ => o_move rfl) ?_
            refine d_val (fun _ => rfl) rfl rfl (fun _ => o_move rfl) ?_
            refine d_val (fun _ => rfl) rfl rfl (fun _ => o_move rfl) ?_
            refine d_val (fun _ => rfl) rfl rfl (fun _ => o_idx (k) rfl hv7 rfl (by first | rfl | omega) (by omega)) ?_
            refine d_val (fun _ => rfl) rfl rfl (fun _ => o_loadR1 rfl (row_own (key := 2007) rfl) (el_int (l := (keysOf (crs r (liveT r es)))) (i := k) (by omega))) ?_
            refine d_val (fun _ => rfl) rfl rfl (fun _ => o_move rfl) ?_
            refine d_val (fun _ => rfl) rfl rfl (fun _ => o_move rfl) ?_
            refine d_val (fun _ => rfl) rfl rfl (fun _ => o_addi rfl rfl ?_) ?_
            · omega
            refine d_val (fun _ => rfl) rfl rfl (fun _ => o_idx (k + 1) rfl hv7 rfl (by first | rfl | omega) (by omega)) ?_
            refine d_val (fun _ => rfl) rfl rfl (fun _ => o_loadR1 rfl (row_own (key := 2007) rfl) (el_int (l := (keysOf (crs r (liveT r es)))) (i := k + 1) (by omega))) ?_
            refine d_val (fun _ => rfl) rfl rfl (fun _ => o_build (vs := [_, _]) (cs := [_, _]) rfl rfl) ?_
            refine d_newS (fun _ => rfl) rfl rfl (fun _ => o_bs (vs := [_]) (cs := [_, _]) rfl rfl rfl rfl) ?_
            refine d_nil (fun σ => ?_)
            refine l_toOwn 132 [15, 133, 2006, 2007] (n := 1) 2 rfl rfl rfl rfl rfl rfl ?_
            refine l_append 133 [15, 132, 2006, 2007] rfl rfl rfl rfl rfl rfl rfl (.inl ⟨_, _, _, rfl⟩) (row_own (key := 132) rfl) (by omega) fun v133 hv133 => ?_
            refine l_val rfl (o_assign rfl) ?_
            refine l_nil ?_
            refine kb_norm ?_
            refine kt_norm ?_
            refine v_sel [12, 11, 6, 7, 97, 98, 99, 100, 101, 102, 103, 104, 105, 106, 107, 108] [15, 133, 2006, 2007] rfl rfl ?_
            refine v_region ?_
            refine l_val rfl (o_move rfl) ?_
            refine l_val rfl (o_addi rfl rfl ?_) ?_
            · omega
            refine l_val rfl (o_assign rfl) ?_
            refine l_nil ?_
            refine kt_norm ?_
            have hd := doc2 h186 (fun hp => by first | (exfalso; omega) | exact h1915)
            refine ⟨(k + 1, v133), ⟨by omega, by rw [hd, List.length_append]; exact hv133⟩, (by show (keysOf (crs r (liveT r es))).length - (k + 1) < (keysOf (crs r (liveT r es))).length - k; omega), le_app (And.intro rfl (And.intro rfl (True.intro))) [6, 7] rfl (And.intro (congrArg some (own_congr (by rw [hd, List.length_append]; rfl) (by rw [hd, List.flatMap_append]; simp [eS]))) (And.intro rfl (And.intro rfl (True.intro)))) [15] rfl⟩
        · skip
          refine d_val (fun _ => rfl) rfl rfl (fun _ => o_move rfl) ?_
          refine d_no (fun _ => rfl) ?_
          refine d_no (fun _ => rfl) ?_
          refine d_no (fun _ => rfl) ?_
          refine d_no (fun _ => rfl) ?_
          refine d_no (fun _ => rfl) ?_
          refine d_no (fun _ => rfl) ?_
          refine d_no (fun _ => rfl) ?_
          refine d_no (fun _ => rfl) ?_
          refine d_no (fun _ => rfl) ?_
          refine d_no (fun _ => rfl) ?_
          refine d_no (fun _ => rfl) ?_
          refine d_no (fun _ => rfl) ?_
          refine d_val (fun _ => rfl) rfl rfl (fun _ => o_pickF rfl rfl) ?_
          refine d_nil (fun σ => ?_)
          refine l_nil ?_
          refine kt_norm ?_
          refine v_condF rfl ?_
          refine v_drawZ [[], [], [], [], [2007], [], [], [], [], [2007], [], []] mixed ?_ (by kernel_rfl) (by kernel_rfl)
          refine d_val (fun _ => rfl) rfl rfl (fun _ => o_move rfl) ?_
          refine d_val (fun _ => rfl) rfl rfl (fun _ => o_move rfl) ?_
          refine d_val (fun _ => rfl) rfl rfl (fun _ => o_move rfl) ?_
          refine d_val (fun _ => rfl) rfl rfl (fun _ => o_idx (k) rfl hv7 rfl (by first | rfl | omega) (by omega)) ?_
          refine d_val (fun _ => rfl) rfl rfl (fun _ => o_loadR1 rfl (row_own (key := 2007) rfl) (el_int (l := (keysOf (crs r (liveT r es)))) (i := k) (by omega))) ?_
          refine d_val (fun _ => rfl) rfl rfl (fun _ => o_move rfl) ?_
          refine d_val (fun _ => rfl) rfl rfl (fun _ => o_move rfl) ?_
          refine d_val (fun _ => rfl) rfl rfl (fun _ => o_addi rfl rfl ?_) ?_
          · omega
          refine d_val (fun _ => rfl) rfl rfl (fun _ => o_idx (k + 1) rfl hv7 rfl (by first | rfl | omega) (by omega)) ?_
          refine d_val (fun _ => rfl) rfl rfl (fun _ => o_loadR1 rfl (row_own (key := 2007) rfl) (el_int (l := (keysOf (crs r (liveT r es)))) (i := k + 1) (by omega))) ?_
          refine d_val (fun _ => rfl) rfl rfl (fun _ => o_build (vs := [_, _]) (cs := [_, _]) rfl rfl) ?_
          refine d_newS (fun _ => rfl) rfl rfl (fun _ => o_bs (vs := [_]) (cs := [_, _]) rfl rfl rfl rfl) ?_
          refine d_nil (fun σ => ?_)
          refine l_toOwn 132 [15, 133, 2006, 2007] (n := 1) 2 rfl rfl rfl rfl rfl rfl ?_
          refine l_append 133 [15, 132, 2006, 2007] rfl rfl rfl rfl rfl rfl rfl (.inl ⟨_, _, _, rfl⟩) (row_own (key := 132) rfl) (by omega) fun v133 hv133 => ?_
          refine l_val rfl (o_assign rfl) ?_
          refine l_nil ?_
          refine kb_norm ?_
          refine kt_norm ?_
          refine v_sel [12, 11, 6, 7, 97, 98, 99, 100, 101, 102, 103, 104, 105, 106, 107, 108] [15, 133, 2006, 2007] rfl rfl ?_
          refine v_region ?_
          refine l_val rfl (o_move rfl) ?_
          refine l_val rfl (o_addi rfl rfl ?_) ?_
          · omega
          refine l_val rfl (o_assign rfl) ?_
          refine l_nil ?_
          refine kt_norm ?_
          have hd := doc2 h186 (fun hp => by first | (exfalso; omega) | exact h1915)
          refine ⟨(k + 1, v133), ⟨by omega, by rw [hd, List.length_append]; exact hv133⟩, (by show (keysOf (crs r (liveT r es))).length - (k + 1) < (keysOf (crs r (liveT r es))).length - k; omega), le_app (And.intro rfl (And.intro rfl (True.intro))) [6, 7] rfl (And.intro (congrArg some (own_congr (by rw [hd, List.length_append]; rfl) (by rw [hd, List.flatMap_append]; simp [eS]))) (And.intro rfl (And.intro rfl (True.intro)))) [15] rfl⟩
    · skip
      refine l_nil ?_
      refine kt_norm ?_
      refine v_condF rfl ?_
      refine v_exit ?_
      refine kt_exit ?_
      refine kt_exit ?_
      refine kb_eq ?_
      refine kt_norm ?_
      refine v_sel [11] [15, 133, 2006, 2007] rfl rfl ?_
      refine v_seq ?_
      refine v_region ?_
      obtain rfl : k = (keysOf (crs r (liveT r es))).length - 1 := by omega
      refine l_val rfl (o_move rfl) ?_
      refine l_val rfl (o_assign rfl) ?_
      refine l_nil ?_
      refine kt_norm ?_
      refine v_ret ?_
      refine ⟨[_], .cons (.tmp rfl) (ResAll.nil), ?_⟩
      exact ⟨133, rfl⟩
end Go.Proofs.YtllhohbenniaaaaGreat

/- The spans of a row, clipped and asked, are as the document has them. Conditions: none. -/
namespace Go.Proofs.YtllhohbenniaaaaGreat
open Go.Proofs Go.RowKit Go.Shelf


theorem r_own20 (w : World) (v : Value) (l : List SpanT) (hn : l.length ≤ 1000000) (hV : RowV v l.length) (hrow : RowAt w v 2 l.length (l.flatMap eS)) :
    Calls Tryz.prog 17 #[v] w fun e w' => ∃ y, e = .returned y ∧ Below w.heap.size w w' ∧ OwnAt w.heap.size w' y 86 2 l.length (l.flatMap eS) := by
  have hr : ∀ w', Chg (fun _ => False) w w' → RowAt w' v 2 l.length (l.flatMap eS) := fun w' h => hrow.chg h (fun h => h)
  refine calls_own (args := [v]) Tryz.func17 rfl Tryz.ntmps17 Tryz.results17 rfl ?_
  refine v_seq ?_
  refine v_region ?_
  refine l_val rfl (o_assign rfl) ?_
  refine l_nil ?_
  refine kt_norm ?_
  refine v_seq ?_
  refine v_region ?_
  refine l_buildSlice (vs := []) (cs := []) rfl rfl rfl rfl rfl rfl fun v5 hv5 => ?_
  refine l_val rfl (o_assign rfl) ?_
  refine l_nil ?_
  refine kt_norm ?_
  refine v_seq ?_
  refine v_seq ?_
  refine v_region ?_
  refine l_val rfl (o_assign rfl) ?_
  refine l_nil ?_
  refine kt_norm ?_
  refine v_block ?_
  refine v_ren 5 18 [] rfl rfl rfl ?_
  refine v_loopS (α := Nat × Value) (fun ⟨i, v3⟩ => [(4, .int .i64 (i : Int)), (3, v3)]) (fun ⟨i, v3⟩ => [(18, Hp.own v3 86 2 i ((l.take i).flatMap eS))])  (fun ⟨i, v3⟩ => i ≤ l.length ∧ RowV v3 i) (fun ⟨i, v3⟩ => l.length - i) (0, v5) [0] [] ⟨Nat.zero_le _, hv5⟩  (And.intro rfl (And.intro rfl (True.intro))) rfl (And.intro rfl (True.intro)) rfl ?_
  rintro ⟨i, v3⟩ ⟨hi, hv3⟩
  refine v_seq ?_
  refine v_seq ?_
  refine v_region ?_
  refine l_val rfl (o_move rfl) ?_
  refine l_val rfl (o_move rfl) ?_
  refine l_val rfl (o_len rfl hV) ?_
  refine l_split rfl (o_lss rfl rfl) (fun q1 => ?_) (fun q1 => ?_)
  · skip
    refine l_nil ?_
    refine kt_norm ?_
    refine v_condT rfl ?_
    refine v_skip ?_
    refine kt_norm ?_
    refine v_seq ?_
    refine v_block ?_
    refine v_region ?_
    refine l_val rfl (o_move rfl) ?_
    refine l_val rfl (o_move rfl) ?_
    refine l_val rfl (o_move rfl) ?_
    refine l_val rfl (o_idx (i) rfl hV rfl (by first | rfl | omega) (by omega)) ?_
    refine l_val rfl (o_loadRE (c' := [_, _]) rfl (row_imm hr) (el_flat eS_len dS l (i) (by omega)) rfl) ?_
    refine l_buildSlice (vs := [_]) (cs := [_, _]) rfl rfl rfl rfl rfl rfl fun v17 hv17 => ?_
    refine l_append 18 [17] rfl rfl rfl rfl rfl rfl rfl hv17 (row_own (key := 17) rfl) (by omega) fun v18 hv18 => ?_
    refine l_val rfl (o_assign rfl) ?_
    refine l_nil ?_
    refine kb_norm ?_
    refine kt_norm ?_
    refine v_sel [4, 3, 0] [18] rfl rfl ?_
    refine v_region ?_
    refine l_val rfl (o_move rfl) ?_
    refine l_val rfl (o_addi rfl rfl ?_) ?_
    · omega
    refine l_val rfl (o_assign rfl) ?_
    refine l_nil ?_
    refine kt_norm ?_
    refine ⟨(i + 1, v18), ⟨by omega, hv18⟩, (by show l.length - (i + 1) < l.length - i; omega), le_app (And.intro rfl (And.intro rfl (True.intro))) [0] rfl (And.intro (congrArg some (own_congr rfl (by rw [takeSnoc dS (show i < l.length by omega)]; simp [eS]))) (True.intro)) [] rfl⟩
  · skip
    refine l_nil ?_
    refine kt_norm ?_
    refine v_condF rfl ?_
    refine v_exit ?_
    refine kt_exit ?_
    refine kt_exit ?_
    refine kb_eq ?_
    refine kt_norm ?_
    refine v_sel [3] [18] rfl rfl ?_
    refine v_seq ?_
    refine v_region ?_
    obtain rfl : i = l.length := by omega
    refine l_val rfl (o_move rfl) ?_
    refine l_val rfl (o_assign rfl) ?_
    refine l_nil ?_
    refine kt_norm ?_
    refine v_ret ?_
    refine ⟨[_], .cons (.tmp rfl) (ResAll.nil), ?_⟩
    exact ⟨18, congrArg some (own_congr rfl (by rw [List.take_length]))⟩
theorem r_Same20 (w : World) (v u : Value) (l : List SpanT) (hn : l.length ≤ 1000000) (hV : RowV v l.length) (hrow : RowAt w v 2 l.length (l.flatMap eS)) (hU : RowV u l.length) (hrow2 : RowAt w u 2 l.length (l.flatMap eS)) :
    Calls Tryz.prog 16 #[v, u] w fun e w' => e = .returned (.bool true) ∧ Below w.heap.size w w' := by
  have hr : ∀ w', Chg (fun _ => False) w w' → RowAt w' v 2 l.length (l.flatMap eS) := fun w' h => hrow.chg h (fun h => h)
  have hr2 : ∀ w', Chg (fun _ => False) w w' → RowAt w' u 2 l.length (l.flatMap eS) := fun w' h => hrow2.chg h (fun h => h)
  refine calls_of (args := [v, u]) Tryz.func16 rfl Tryz.ntmps16 Tryz.results16 rfl ?_
  refine v_seq ?_
  refine v_region ?_
  refine l_val rfl (o_assign rfl) ?_
  refine l_nil ?_
  refine kt_norm ?_
  refine v_seq ?_
  refine v_seq ?_
  refine v_region ?_
  refine l_val rfl (o_move rfl) ?_
  refine l_val rfl (o_len rfl hV) ?_
  refine l_val rfl (o_move rfl) ?_
  refine l_val rfl (o_len rfl hU) ?_
  refine l_split rfl (o_neq rfl rfl) (fun q1 => absurd q1 (by omega)) (fun q1 => ?_)
  refine l_nil ?_
  refine kt_norm ?_
  refine v_condF rfl ?_
  refine v_skip ?_
  refine kt_norm ?_
  refine v_sel [0, 1] [] rfl rfl ?_
  refine v_seq ?_
  refine v_seq ?_
  refine v_region ?_
  refine l_val rfl (o_assign rfl) ?_
  refine l_nil ?_
  refine kt_norm ?_
  refine v_block ?_
  refine v_loopS (α := Nat) (fun i => [(5, .int .i64 (i : Int))]) (fun i => [])  (fun i => i ≤ l.length) (fun i => l.length - i) 0 [0, 1] [] (Nat.zero_le _)  (And.intro rfl (True.intro)) rfl (True.intro) rfl ?_
  rintro i hi
  refine v_seq ?_
  refine v_seq ?_
  refine v_region ?_
  refine l_val rfl (o_move rfl) ?_
  refine l_val rfl (o_move rfl) ?_
  refine l_val rfl (o_len rfl hV) ?_
  refine l_split rfl (o_lss rfl rfl) (fun q2 => ?_) (fun q2 => ?_)
  · skip
    refine l_nil ?_
    refine kt_norm ?_
    refine v_condT rfl ?_
    refine v_skip ?_
    refine kt_norm ?_
    refine v_seq ?_
    refine v_block ?_
    refine v_seq ?_
    refine v_drawZ [[], [], [], [], [], [], [], [], []] mixed ?_ (by kernel_rfl) (by kernel_rfl)
    refine d_val (fun _ => rfl) rfl rfl (fun _ => o_move rfl) ?_
    refine d_val (fun _ => rfl) rfl rfl (fun _ => o_move rfl) ?_
    refine d_val (fun _ => rfl) rfl rfl (fun _ => o_idx (i) rfl hV rfl (by first | rfl | omega) (by omega)) ?_
    refine d_val (fun _ => rfl) rfl rfl (fun _ => o_loadRE (c' := [_, _]) rfl (row_imm hr) (el_flat eS_len dS l (i) (by omega)) rfl) ?_
    refine d_val (fun _ => rfl) rfl rfl (fun _ => o_move rfl) ?_
    refine d_val (fun _ => rfl) rfl rfl (fun _ => o_move rfl) ?_
    refine d_val (fun _ => rfl) rfl rfl (fun _ => o_idx (i) rfl hU rfl (by first | rfl | omega) (by omega)) ?_
    refine d_val (fun _ => rfl) rfl rfl (fun _ => o_loadRE (c' := [_, _]) rfl (row_imm hr2) (el_flat eS_len dS l (i) (by omega)) rfl) ?_
    refine d_neqs (xl := [_, _]) (yl := [_, _]) (az := [_, _]) (bz := [_, _]) (fun _ => rfl) (fun _ => rfl) (fun _ => rfl) rfl rfl rfl rfl (fun q3 => absurd rfl q3) (fun _ => ?_)
    refine d_nil (fun σ => ?_)
    refine l_nil ?_
    refine kt_norm ?_
    refine v_sel [5, 0, 1, 25] [] rfl rfl ?_
    refine v_condF rfl ?_
    refine v_skip ?_
    refine kb_norm ?_
    refine kt_norm ?_
    refine v_region ?_
    refine l_val rfl (o_move rfl) ?_
    refine l_val rfl (o_addi rfl rfl ?_) ?_
    · omega
    refine l_val rfl (o_assign rfl) ?_
    refine l_nil ?_
    refine kt_norm ?_
    refine ⟨i + 1, by omega, by omega, le_app (And.intro rfl (True.intro)) [0, 1] rfl (True.intro) [] rfl⟩
  · skip
    refine l_nil ?_
    refine kt_norm ?_
    refine v_condF rfl ?_
    refine v_exit ?_
    refine kt_exit ?_
    refine kt_exit ?_
    refine kb_eq ?_
    refine kt_norm ?_
    refine v_sel [] [] rfl rfl ?_
    refine v_seq ?_
    refine v_region ?_
    refine l_val rfl (o_assign rfl) ?_
    refine l_nil ?_
    refine kt_norm ?_
    refine v_ret ?_
    refine ⟨[_], .cons (.tmp rfl) (ResAll.nil), ?_⟩
    rfl
theorem r_Clip (w : World) (v : Value) (l : List SpanT) (lo hi : Int) (hn : l.length ≤ 1000000) (hV : RowV v l.length) (hrow : RowAt w v 2 l.length (l.flatMap eS)) :
    Calls Tryz.prog 57 #[v, .int .i64 lo, .int .i64 hi] w fun e w' => ∃ y, e = .returned y ∧ Below w.heap.size w w' ∧ OwnAt w.heap.size w' y 86 2 (clipT lo hi l).length ((clipT lo hi l).flatMap eS) := by
  have hr : ∀ w', Chg (fun _ => False) w w' → RowAt w' v 2 l.length (l.flatMap eS) := fun w' h => hrow.chg h (fun h => h)
  refine calls_own (args := [v, .int .i64 lo, .int .i64 hi]) Tryz.func57 rfl Tryz.ntmps57 Tryz.results57 rfl ?_
  refine v_seq ?_
  refine v_region ?_
  refine l_val rfl (o_assign rfl) ?_
  refine l_nil ?_
  refine kt_norm ?_
  refine v_seq ?_
  refine v_region ?_
  refine l_buildSlice (vs := []) (cs := []) rfl rfl rfl rfl rfl rfl fun v10 hv10 => ?_
  refine l_val rfl (o_assign rfl) ?_
  refine l_nil ?_
  refine kt_norm ?_
  refine v_seq ?_
  refine v_seq ?_
  refine v_region ?_
  refine l_val rfl (o_assign rfl) ?_
  refine l_nil ?_
  refine kt_norm ?_
  refine v_block ?_
  refine v_ren 10 40 [] rfl rfl rfl ?_
  refine v_loopS (α := Nat × Value) (fun ⟨i, v7⟩ => [(8, .int .i64 (i : Int)), (7, v7)]) (fun ⟨i, v7⟩ => [(40, Hp.own v7 86 2 (clipT lo hi (l.take i)).length ((clipT lo hi (l.take i)).flatMap eS))])  (fun ⟨i, v7⟩ => i ≤ l.length ∧ RowV v7 (clipT lo hi (l.take i)).length) (fun ⟨i, v7⟩ => l.length - i) (0, v10) [0, 1, 2] [] ⟨Nat.zero_le _, hv10⟩  (And.intro rfl (And.intro rfl (True.intro))) rfl (And.intro rfl (True.intro)) rfl ?_
  rintro ⟨i, v7⟩ ⟨hi_, hv7⟩
  refine v_seq ?_
  refine v_seq ?_
  refine v_region ?_
  refine l_val rfl (o_move rfl) ?_
  refine l_val rfl (o_move rfl) ?_
  refine l_val rfl (o_len rfl hV) ?_
  refine l_split rfl (o_lss rfl rfl) (fun q1 => ?_) (fun q1 => ?_)
  · have hil : i < l.length := by omega
    have hct := clip_take (lo := lo) (hi := hi) hil
    refine l_nil ?_
    refine kt_norm ?_
    refine v_condT rfl ?_
    refine v_skip ?_
    refine kt_norm ?_
    refine v_seq ?_
    refine v_block ?_
    refine v_seq ?_
    refine v_drawZ [[], [], [], [], [], [], [], [], [], [], [], [], [], [], [], [], [9]] mixed ?_ (by kernel_rfl) (by kernel_rfl)
    refine d_val (fun _ => rfl) rfl rfl (fun _ => o_move rfl) ?_
    refine d_val (fun _ => rfl) rfl rfl (fun _ => o_move rfl) ?_
    refine d_val (fun _ => rfl) rfl rfl (fun _ => o_idx (i) rfl hV rfl (by first | rfl | omega) (by omega)) ?_
    refine d_val (fun _ => rfl) rfl rfl (fun _ => o_fld rfl) ?_
    refine d_val (fun _ => rfl) rfl rfl (fun _ => o_loadRF (f := 0) rfl (row_imm hr) (el_flat eS_len dS l (i) (by omega)) rfl) ?_
    refine d_val (fun _ => rfl) rfl rfl (fun _ => o_move rfl) ?_
    refine d_val (fun _ => rfl) rfl rfl (fun _ => o_max rfl rfl) ?_
    refine d_val (fun _ => rfl) rfl rfl (fun _ => o_move rfl) ?_
    refine d_val (fun _ => rfl) rfl rfl (fun _ => o_move rfl) ?_
    refine d_val (fun _ => rfl) rfl rfl (fun _ => o_idx (i) rfl hV rfl (by first | rfl | omega) (by omega)) ?_
    refine d_val (fun _ => rfl) rfl rfl (fun _ => o_fld rfl) ?_
    refine d_val (fun _ => rfl) rfl rfl (fun _ => o_loadRF (f := 1) rfl (row_imm hr) (el_flat eS_len dS l (i) (by omega)) rfl) ?_
    refine d_val (fun _ => rfl) rfl rfl (fun _ => o_move rfl) ?_
    refine d_val (fun _ => rfl) rfl rfl (fun _ => o_min rfl rfl) ?_
    refine d_val (fun _ => rfl) rfl rfl (fun _ => o_build (vs := [_, _]) (cs := [_, _]) rfl rfl) ?_
    refine d_new (fun _ => rfl) rfl rfl (fun _ => o_alloc) ?_
    refine d_store (fun _ => rfl) rfl rfl (fun _ => o_storeW (key := 9) (xs := [_, _]) rfl rfl rfl rfl rfl rfl rfl) ?_
    refine d_nil (fun σ => ?_)
    refine l_nil ?_
    refine kt_norm ?_
    refine v_sel [8, 7, 0, 1, 2, 9] [9, 40] rfl rfl ?_
    refine v_seq ?_
    refine v_region ?_
    refine l_val rfl (o_fld rfl) ?_
    refine l_val rfl (o_load1 (key := 9) rfl rfl rfl) ?_
    refine l_val rfl (o_fld rfl) ?_
    refine l_val rfl (o_load1 (key := 9) rfl rfl rfl) ?_
    refine l_split rfl (o_lss rfl rfl) (fun hlt => ?_) (fun hlt => ?_)
    · have hc1 : (clipS lo hi (l.getD i dS)).fr < (clipS lo hi (l.getD i dS)).to := hlt
      refine l_nil ?_
      refine kt_norm ?_
      refine v_condT rfl ?_
      refine v_region ?_
      refine l_val rfl (o_move rfl) ?_
      refine l_val rfl (o_loadW (key := 9) rfl rfl rfl) ?_
      refine l_buildSlice (vs := [_]) (cs := [_, _]) rfl rfl rfl rfl rfl rfl fun v39 hv39 => ?_
      refine l_append 40 [9, 39] rfl rfl rfl rfl rfl rfl rfl hv39 (row_own (key := 39) rfl) (by have h1 := clipT_len lo hi (l.take i); have h2 := List.length_take (i := i) (l := l); omega) fun v40 hv40 => ?_
      refine l_val rfl (o_assign rfl) ?_
      refine l_nil ?_
      refine kb_norm ?_
      refine kt_norm ?_
      refine v_sel [8, 7, 0, 1, 2] [40] rfl rfl ?_
      refine v_region ?_
      refine l_val rfl (o_move rfl) ?_
      refine l_val rfl (o_addi rfl rfl ?_) ?_
      · omega
      refine l_val rfl (o_assign rfl) ?_
      refine l_nil ?_
      refine kt_norm ?_
      refine ⟨(i + 1, v40), ⟨hil, by rw [hct, if_pos hc1, List.length_append]; exact hv40⟩, (by show l.length - (i + 1) < l.length - i; omega), le_app (And.intro rfl (And.intro rfl (True.intro))) [0, 1, 2] rfl (And.intro (congrArg some (own_congr (by rw [hct, if_pos hc1, List.length_append]; rfl) (by rw [hct, if_pos hc1, List.flatMap_append]; simp [eS, clipS]))) (True.intro)) [] rfl⟩
    · have hc1 : ¬ (clipS lo hi (l.getD i dS)).fr < (clipS lo hi (l.getD i dS)).to := hlt
      refine l_nil ?_
      refine kt_norm ?_
      refine v_condF rfl ?_
      refine v_skip ?_
      refine kb_norm ?_
      refine kt_norm ?_
      refine v_sel [8, 7, 0, 1, 2] [40] rfl rfl ?_
      refine v_region ?_
      refine l_val rfl (o_move rfl) ?_
      refine l_val rfl (o_addi rfl rfl ?_) ?_
      · omega
      refine l_val rfl (o_assign rfl) ?_
      refine l_nil ?_
      refine kt_norm ?_
      refine ⟨(i + 1, v7), ⟨hil, by rw [hct, if_neg hc1, List.append_nil]; exact hv7⟩, (by show l.length - (i + 1) < l.length - i; omega), le_app (And.intro rfl (And.intro rfl (True.intro))) [0, 1, 2] rfl (And.intro (congrArg some (own_congr (by rw [hct, if_neg hc1, List.append_nil]) (by rw [hct, if_neg hc1, List.append_nil]))) (True.intro)) [] rfl⟩
  · skip
    refine l_nil ?_
    refine kt_norm ?_
    refine v_condF rfl ?_
    refine v_exit ?_
    refine kt_exit ?_
    refine kt_exit ?_
    refine kb_eq ?_
    refine kt_norm ?_
    refine v_sel [7] [40] rfl rfl ?_
    refine v_seq ?_
    refine v_region ?_
    obtain rfl : i = l.length := by omega
    refine l_val rfl (o_move rfl) ?_
    refine l_val rfl (o_assign rfl) ?_
    refine l_nil ?_
    refine kt_norm ?_
    refine v_ret ?_
    refine ⟨[_], .cons (.tmp rfl) (ResAll.nil), ?_⟩
    exact ⟨40, congrArg some (own_congr (by rw [List.take_length]) (by rw [List.take_length]))⟩
theorem r_Sum (w : World) (v : Value) (l : List SpanT) (hn : l.length ≤ 1000000) (ho : SpOk l) (hV : RowV v l.length) (hrow : RowAt w v 2 l.length (l.flatMap eS)) :
    Calls Tryz.prog 56 #[v] w fun e w' => e = .returned (.int .i64 (sumS l)) ∧ Below w.heap.size w w' := by
  have hr : ∀ w', Chg (fun _ => False) w w' → RowAt w' v 2 l.length (l.flatMap eS) := fun w' h => hrow.chg h (fun h => h)
  refine calls_of (args := [v]) Tryz.func56 rfl Tryz.ntmps56 Tryz.results56 rfl ?_
  refine v_seq ?_
  refine v_region ?_
  refine l_val rfl (o_assign rfl) ?_
  refine l_nil ?_
  refine kt_norm ?_
  refine v_seq ?_
  refine v_region ?_
  refine l_val rfl (o_assign rfl) ?_
  refine l_nil ?_
  refine kt_norm ?_
  refine v_seq ?_
  refine v_seq ?_
  refine v_region ?_
  refine l_val rfl (o_assign rfl) ?_
  refine l_nil ?_
  refine kt_norm ?_
  refine v_block ?_
  refine v_loopS (α := Nat) (fun i => [(4, .int .i64 (i : Int)), (3, .int .i64 (sumS (l.take i)))]) (fun i => [])  (fun i => i ≤ l.length) (fun i => l.length - i) 0 [0] [] (Nat.zero_le _)  (And.intro rfl (And.intro rfl (True.intro))) rfl (True.intro) rfl ?_
  rintro i hi
  refine v_seq ?_
  refine v_seq ?_
  refine v_region ?_
  refine l_val rfl (o_move rfl) ?_
  refine l_val rfl (o_move rfl) ?_
  refine l_val rfl (o_len rfl hV) ?_
  refine l_split rfl (o_lss rfl rfl) (fun q1 => ?_) (fun q1 => ?_)
  · have hil : i < l.length := by omega
    have hb1 := spOk_getD ho hil
    have hb2 := sumS_ok (spOk_take ho i)
    have hb3 := List.length_take (i := i) (l := l)
    refine l_nil ?_
    refine kt_norm ?_
    refine v_condT rfl ?_
    refine v_skip ?_
    refine kt_norm ?_
    refine v_seq ?_
    refine v_block ?_
    refine v_drawZ [[], [], [], [], [], [], [], [], [], [], [], [], [], []] mixed ?_ (by kernel_rfl) (by kernel_rfl)
    refine d_val (fun _ => rfl) rfl rfl (fun _ => o_move rfl) ?_
    refine d_val (fun _ => rfl) rfl rfl (fun _ => o_move rfl) ?_
    refine d_val (fun _ => rfl) rfl rfl (fun _ => o_move rfl) ?_
    refine d_val (fun _ => rfl) rfl rfl (fun _ => o_idx (i) rfl hV rfl (by first | rfl | omega) (by omega)) ?_
    refine d_val (fun _ => rfl) rfl rfl (fun _ => o_fld rfl) ?_
    refine d_val (fun _ => rfl) rfl rfl (fun _ => o_loadRF (f := 1) rfl (row_imm hr) (el_flat eS_len dS l (i) (by omega)) rfl) ?_
    refine d_val (fun _ => rfl) rfl rfl (fun _ => o_addi rfl rfl ?_) ?_
    · omega
    refine d_val (fun _ => rfl) rfl rfl (fun _ => o_move rfl) ?_
    refine d_val (fun _ => rfl) rfl rfl (fun _ => o_move rfl) ?_
    refine d_val (fun _ => rfl) rfl rfl (fun _ => o_idx (i) rfl hV rfl (by first | rfl | omega) (by omega)) ?_
    refine d_val (fun _ => rfl) rfl rfl (fun _ => o_fld rfl) ?_
    refine d_val (fun _ => rfl) rfl rfl (fun _ => o_loadRF (f := 0) rfl (row_imm hr) (el_flat eS_len dS l (i) (by omega)) rfl) ?_
    refine d_val (fun _ => rfl) rfl rfl (fun _ => o_subi rfl rfl ?_) ?_
    · omega
    refine d_val (fun _ => rfl) rfl rfl (fun _ => o_assign rfl) ?_
    refine d_nil (fun σ => ?_)
    refine l_nil ?_
    refine kb_norm ?_
    refine kt_norm ?_
    refine v_sel [4, 3, 0] [] rfl rfl ?_
    refine v_region ?_
    refine l_val rfl (o_move rfl) ?_
    refine l_val rfl (o_addi rfl rfl ?_) ?_
    · omega
    refine l_val rfl (o_assign rfl) ?_
    refine l_nil ?_
    refine kt_norm ?_
    refine ⟨i + 1, hil, by omega, le_app (And.intro rfl (And.intro (congrArg (fun q => some (Value.int .i64 q)) (by rw [sumS_take hil]; omega)) (True.intro))) [0] rfl (True.intro) [] rfl⟩
  · skip
    refine l_nil ?_
    refine kt_norm ?_
    refine v_condF rfl ?_
    refine v_exit ?_
    refine kt_exit ?_
    refine kt_exit ?_
    refine kb_eq ?_
    refine kt_norm ?_
    refine v_sel [3] [] rfl rfl ?_
    refine v_seq ?_
    refine v_region ?_
    obtain rfl : i = l.length := by omega
    refine l_val rfl (o_move rfl) ?_
    refine l_val rfl (o_assign rfl) ?_
    refine l_nil ?_
    refine kt_norm ?_
    refine v_ret ?_
    refine ⟨[_], .cons (.tmp rfl) (ResAll.nil), ?_⟩
    exact congrArg (Value.int .i64) (by rw [List.take_length])
theorem hasS_yes {l : List SpanT} {x : Int} {i : Nat} (h : i < l.length) (h1 : (l.getD i dS).fr ≤ x) (h2 : x < (l.getD i dS).to) : hasS l x = true :=
  List.any_eq_true.2 ⟨_, sp_mem h, by rw [decide_eq_true h1, decide_eq_true h2]; rfl⟩
theorem hasS_no {l : List SpanT} {x : Int} (h : ∀ i, i < l.length → ¬ ((l.getD i dS).fr ≤ x ∧ x < (l.getD i dS).to)) : hasS l x = false :=
  List.any_eq_false.2 fun s hs => by
    obtain ⟨i, hi, rfl⟩ := List.getElem_of_mem hs
    have := h i hi
    rw [List.getD_eq_getElem?_getD, List.getElem?_eq_getElem hi] at this
    simpa using this


end Go.Proofs.YtllhohbenniaaaaGreat

/- The canvas: spans are gathered, a row of pixels is flushed. Conditions: none. -/
namespace Go.Proofs.YtllhohbenniaaaaGreat
open Go.Proofs Go.RowKit Go.Shelf

theorem lenC_def (lo hi : Int) (s : SpanT) : (max lo s.fr < min hi s.to → lenC lo hi s = min hi s.to - max lo s.fr) ∧ (¬ max lo s.fr < min hi s.to → lenC lo hi s = 0) := by
  simp only [lenC, clipS]
  constructor <;> intro h <;> (repeat' split) <;> omega
theorem lenC_bound (lo hi : Int) (s : SpanT) : 0 ≤ lenC lo hi s ∧ (lo ≤ hi → lenC lo hi s ≤ hi - lo) := by
  have h := lenC_def lo hi s
  by_cases hc : max lo s.fr < min hi s.to
  · have := h.1 hc; omega
  · have := h.2 hc; omega
theorem lenC_clip {a b lo hi : Int} {s : SpanT} (h1 : a ≤ lo) (h2 : hi ≤ b) : lenC lo hi (clipS a b s) = lenC lo hi s := by
  have e1 := lenC_def lo hi (clipS a b s)
  have e2 := lenC_def lo hi s
  have f1 : (clipS a b s).fr = max a s.fr := by simp only [clipS]; split <;> omega
  have f2 : (clipS a b s).to = min b s.to := by simp only [clipS]; split <;> omega
  rw [f1, f2] at e1
  by_cases hc : max lo s.fr < min hi s.to
  · have h3 := e1.1 (by omega); have h4 := e2.1 hc; omega
  · have h3 := e1.2 (by omega); have h4 := e2.2 hc; omega
theorem lenC_none {lo hi : Int} {s : SpanT} (h : ¬ s.fr < s.to) : lenC lo hi s = 0 := (lenC_def lo hi s).2 (by omega)
theorem sumC_clip {a b lo hi : Int} (h1 : a ≤ lo) (h2 : hi ≤ b) : ∀ l : List SpanT, sumF (lenC lo hi) (clipT a b l) = sumF (lenC lo hi) l
  | [] => rfl
  | s :: l => by
    rw [clipT_cons, sumF_append, sumC_clip h1 h2 l]
    simp only [sumF]
    congr 1
    split
    · simp only [sumF]; rw [lenC_clip h1 h2]; omega
    · rename_i h; rw [← lenC_clip h1 h2, lenC_none h]; rfl
theorem sumC_bound (lo : Int) : ∀ l : List SpanT, 0 ≤ sumF (lenC lo (lo + 256)) l ∧ sumF (lenC lo (lo + 256)) l ≤ 256 * l.length
  | [] => ⟨Int.le_refl _, by simp [sumF]⟩
  | s :: l => by
    have ih := sumC_bound lo l
    have hb := lenC_bound lo (lo + 256) s
    simp only [sumF, List.length_cons]
    omega
/-- the part of pixel p -/
def pxC (st : Int) (p : Nat) (s : SpanT) : Int := lenC (st + 256 * p) (st + 256 * p + 256) s
theorem pxC_step {st fr at_ to e : Int} {px : Nat} (h1 : st ≤ fr) (h2 : fr ≤ at_) (h3 : at_ < to) (hp : (px : Int) = (at_ - st) / 256) (he : e = if st + (px + 1) * 256 < to then st + (px + 1) * 256 else to) (p : Nat) : pxC st p ⟨fr, e⟩ = pxC st p ⟨fr, at_⟩ + if p = px then e - at_ else 0 := by
  have d1 := lenC_def (st + 256 * p) (st + 256 * p + 256) ⟨fr, e⟩
  have d2 := lenC_def (st + 256 * p) (st + 256 * p + 256) ⟨fr, at_⟩
  dsimp only at d1 d2
  unfold pxC
  have hpx : 256 * (px : Int) ≤ at_ - st ∧ at_ - st < 256 * px + 256 := by omega
  have he1 : at_ < e ∧ e ≤ st + 256 * px + 256 ∧ e ≤ to := by split at he <;> omega
  by_cases c1 : max (st + 256 * (p : Int)) fr < min (st + 256 * p + 256) e <;> by_cases c2 : max (st + 256 * (p : Int)) fr < min (st + 256 * p + 256) at_
  · rw [d1.1 c1, d2.1 c2]; split
    · rename_i hh; subst hh; omega
    · rename_i hh; rcases Nat.lt_or_gt_of_ne hh with h4 | h4 <;> omega
  · rw [d1.1 c1, d2.2 c2]; split
    · rename_i hh; subst hh; omega
    · rename_i hh; rcases Nat.lt_or_gt_of_ne hh with h4 | h4 <;> omega
  · rw [d1.2 c1, d2.1 c2]; split
    · rename_i hh; subst hh; omega
    · rename_i hh; rcases Nat.lt_or_gt_of_ne hh with h4 | h4 <;> omega
  · rw [d1.2 c1, d2.2 c2]; split
    · rename_i hh; subst hh; omega
    · rfl
theorem pxC_none (st fr : Int) (p : Nat) : pxC st p ⟨fr, fr⟩ = 0 := lenC_none (by dsimp only; omega)
/-- sums that have grown -/
structure GQ (n : Nat) (base cur : List Int) (f : Nat → Int) : Prop where
  len : cur.length = n
  at_ : ∀ p, p < n → cur.getD p 0 = base.getD p 0 + f p
theorem GQ.start {n : Nat} {base : List Int} (h : base.length = n) {f : Nat → Int} (hf : ∀ p, f p = 0) : GQ n base base f := ⟨h, fun p _ => by rw [hf p]; omega⟩
theorem GQ.set {n : Nat} {base cur : List Int} {f g : Nat → Int} (h : GQ n base cur f) {j : Nat} {x : Int} (hj : j < n) (hx : x = cur.getD j 0 + (g j - f j)) (hg : ∀ p, p < n → p ≠ j → g p = f p) : GQ n base (cur.set j x) g := by
  refine ⟨by rw [List.length_set, h.len], fun p hp => ?_⟩
  have h1 := h.at_ p hp
  have hl : p < cur.length := by rw [h.len]; exact hp
  rw [List.getD_eq_getElem?_getD, List.getElem?_set]
  by_cases e : j = p
  · subst e
    rw [if_pos rfl, if_pos hl]
    simp only [Option.getD_some]
    omega
  · rw [if_neg e, ← List.getD_eq_getElem?_getD, hg p hp fun h => e h.symm]; exact h1
theorem GQ.trans {n : Nat} {base mid cur : List Int} {f g k : Nat → Int} (h1 : GQ n base mid f) (h2 : GQ n mid cur g) (hk : ∀ p, p < n → k p = f p + g p) : GQ n base cur k := ⟨h2.len, fun p hp => by rw [h2.at_ p hp, h1.at_ p hp, hk p hp]; omega⟩
def valM (x : Int) : Int := if 0 < (if 4096 < x then 4096 else x) then (if 4096 < x then 4096 else x) else 0
def valT (x : Int) : Int := (valM x * 255 + 2048) / 4096
theorem valM_bound (x : Int) : 0 ≤ valM x ∧ valM x ≤ 4096 := by unfold valM; (repeat' split) <;> omega
theorem takeSnoc20 {l : List SpanT} {i : Nat} (h : i < l.length) : l.take (i + 1) = l.take i ++ [l.getD i dS] := by
  rw [List.take_add_one, List.getElem?_eq_getElem h, List.getD_eq_getElem?_getD, List.getElem?_eq_getElem h]; rfl
def cnv (n : Nat) (X Y H : Int) (pv sv : Value) : List Value := [.int .i64 (n : Int), .int .i64 H, pv, .int .i64 X, .int .i64 Y, .int .i64 (n : Int), .int .i64 H, sv]
def iI (l : List Int) : List Value := l.map (Value.int .i64)
def iU (l : List Int) : List Value := l.map (Value.int .u8)
theorem iI_set {l : List Int} {j : Nat} {x : Int} : (iI l).set j (.int .i64 x) = iI (l.set j x) := by simp [iI, List.map_set]
theorem iI_len {l : List Int} : (iI l).length = l.length := by simp [iI]
theorem a_Value (x : Int) : Ans Tryz.prog 22 [.int .i64 x] (.int .u8 (valT x)) := by
  have hm := valM_bound x
  have hme : valM x = if 0 < (if 4096 < x then 4096 else x) then (if 4096 < x then 4096 else x) else 0 := rfl
  refine ans_of Tryz.func22 rfl Tryz.ntmps22 Tryz.results22 rfl rfl fun w => ?_
  refine v_seq ?_
  refine v_region ?_
  refine l_val rfl (o_assign rfl) ?_
  refine l_nil ?_
  refine kt_norm ?_
  refine v_seq ?_
  refine v_region ?_
  refine l_val rfl (o_move rfl) ?_
  refine l_val rfl (o_min rfl rfl) ?_
  refine l_val rfl (o_max rfl rfl) ?_
  refine l_val rfl (o_muli rfl rfl ?_) ?_
  · (try rw [← hme]); omega
  refine l_val rfl (o_addi rfl rfl ?_) ?_
  · (try rw [← hme]); omega
  refine l_val rfl (o_quon rfl rfl ?_ ?_) ?_
  · (try rw [← hme]); omega
  · exact wrap_i64 (by (try rw [← hme]); omega)
  refine l_val rfl (o_conv8 rfl ?_) ?_
  · (try rw [← hme]); omega
  refine l_val rfl (o_assign rfl) ?_
  refine l_nil ?_
  refine kt_norm ?_
  refine v_sel [2] [] rfl rfl ?_
  refine v_ret ?_
  refine ⟨[_], .cons (.tmp rfl) (ResAll.nil), ?_⟩
  rfl
set_option maxHeartbeats 1000000 in
theorem a_gather (w : World) (vs sv pv : Value) (bC n : Nat) (X Y H : Int) (l : List SpanT) (sums : List Int) (hn : 1 ≤ n ∧ n ≤ 256) (hX : -1048576 ≤ X ∧ X ≤ 1048576) (hll : l.length ≤ 1000000) (hsl : sums.length = n) (hsb : ∀ p, p < n → -1099511627776 ≤ sums.getD p 0 ∧ sums.getD p 0 ≤ 1099511627776) (hV : RowV vs l.length)
    (hok : ∀ k h, lk [(1000, Hp.own sv 3 1 n (iI sums)), (1001, Hp.box bC 63 [.int .i64 (n : Int), .int .i64 H, pv, .int .i64 X, .int .i64 Y, .int .i64 (n : Int), .int .i64 H, sv])] k = some h → h.ok w) (hi0 : ∀ k k' h h' b, lk [(1000, Hp.own sv 3 1 n (iI sums)), (1001, Hp.box bC 63 [.int .i64 (n : Int), .int .i64 H, pv, .int .i64 X, .int .i64 Y, .int .i64 (n : Int), .int .i64 H, sv])] k = some h → lk [(1000, Hp.own sv 3 1 n (iI sums)), (1001, Hp.box bC 63 [.int .i64 (n : Int), .int .i64 H, pv, .int .i64 X, .int .i64 Y, .int .i64 (n : Int), .int .i64 H, sv])] k' = some h' → h.has b → h'.has b → k = k') (hr : ∀ w', Chg (Blks [(1000, Hp.own sv 3 1 n (iI sums)), (1001, Hp.box bC 63 [.int .i64 (n : Int), .int .i64 H, pv, .int .i64 X, .int .i64 Y, .int .i64 (n : Int), .int .i64 H, sv])]) w w' → RowAt w' vs 2 l.length (l.flatMap eS)) :
    Calls Tryz.prog 26 #[.pointer (some ⟨bC, 0, none⟩), vs] w fun e w' => (∃ y, e = .returned y) ∧ ∃ cur : List Int, GQ n sums cur (fun p => sumF (pxC (X * 256) p) l) ∧ News [(1000, Hp.own sv 3 1 n (iI sums)), (1001, Hp.box bC 63 [.int .i64 (n : Int), .int .i64 H, pv, .int .i64 X, .int .i64 Y, .int .i64 (n : Int), .int .i64 H, sv])] [(1000, Hp.own sv 3 1 n (iI cur)), (1001, Hp.box bC 63 [.int .i64 (n : Int), .int .i64 H, pv, .int .i64 X, .int .i64 Y, .int .i64 (n : Int), .int .i64 H, sv])] w w' := by
  have hVs : RowV sv n := rowV_own (hok 1000 _ rfl)
  have hcl := clipT_len (X * 256) (X * 256 + (n : Int) * 256) l
  refine calls_multi (args := [.pointer (some ⟨bC, 0, none⟩), vs]) [(1000, Hp.own sv 3 1 n (iI sums)), (1001, Hp.box bC 63 [.int .i64 (n : Int), .int .i64 H, pv, .int .i64 X, .int .i64 Y, .int .i64 (n : Int), .int .i64 H, sv])] (fun cur => GQ n sums cur (fun p => sumF (pxC (X * 256) p) l)) (fun cur => [(1000, Hp.own sv 3 1 n (iI cur)), (1001, Hp.box bC 63 [.int .i64 (n : Int), .int .i64 H, pv, .int .i64 X, .int .i64 Y, .int .i64 (n : Int), .int .i64 H, sv])]) Tryz.func26 rfl Tryz.ntmps26 Tryz.results26 hok hi0 ?_
  refine v_seq ?_
  refine v_region ?_
  refine l_val rfl (o_move rfl) ?_
  refine l_val rfl (o_nilCheck rfl) ?_
  refine l_val rfl (o_fld rfl) ?_
  refine l_val rfl (o_fld rfl) ?_
  refine l_val rfl (o_load1 (key := 1001) rfl rfl rfl) ?_
  refine l_val rfl (o_muli rfl rfl ?_) ?_
  · omega
  refine l_val rfl (o_assign rfl) ?_
  refine l_nil ?_
  refine kt_norm ?_
  refine v_sel [0, 1, 4] [1000, 1001] rfl rfl ?_
  refine v_seq ?_
  refine v_region ?_
  refine l_val rfl (o_move rfl) ?_
  refine l_val rfl (o_move rfl) ?_
  refine l_val rfl (o_move rfl) ?_
  refine l_val rfl (o_move rfl) ?_
  refine l_val rfl (o_nilCheck rfl) ?_
  refine l_val rfl (o_fld rfl) ?_
  refine l_val rfl (o_fld rfl) ?_
  refine l_val rfl (o_load1 (key := 1001) rfl rfl rfl) ?_
  refine l_val rfl (o_muli rfl rfl ?_) ?_
  · omega
  refine l_val rfl (o_addi rfl rfl ?_) ?_
  · omega
  refine l_gown (ks := []) (caps := #[]) (vs := [_, _, _]) rfl rfl (ent_of Tryz.func34 rfl rfl) rfl (fun w' hg hh => a_Clip w' vs l (X * 256) (X * 256 + (n : Int) * 256) hll hV (hr w' hg)) fun yc hyc => ?_
  refine l_val rfl (o_len rfl hyc) ?_
  refine l_val rfl (o_move rfl) ?_
  refine l_nil ?_
  refine kt_norm ?_
  refine v_sel [0, 4, 26, 27, 28] [26, 1000, 1001] rfl rfl ?_
  refine v_block ?_
  refine v_loopS (α := Nat × List Int) (fun ⟨i, cur⟩ => [(28, .int .i64 (i : Int))]) (fun ⟨i, cur⟩ => [(1000, Hp.own sv 3 1 n (iI cur))])  (fun ⟨i, cur⟩ => i ≤ (clipT (X * 256) (X * 256 + (n : Int) * 256) l).length ∧ GQ n sums cur (fun p => sumF (pxC (X * 256) p) ((clipT (X * 256) (X * 256 + (n : Int) * 256) l).take i))) (fun ⟨i, cur⟩ => (clipT (X * 256) (X * 256 + (n : Int) * 256) l).length - i) (0, sums) [0, 4, 26, 27] [26, 1001] ⟨Nat.zero_le _, GQ.start hsl fun p => rfl⟩  (And.intro rfl (True.intro)) rfl (And.intro rfl (True.intro)) rfl ?_
  rintro ⟨i, cur⟩ ⟨hi, hO⟩
  refine v_seq ?_
  refine v_region ?_
  refine l_split rfl (o_lss rfl rfl) (fun q1 => ?_) (fun q1 => ?_)
  · have hil : i < (clipT (X * 256) (X * 256 + (n : Int) * 256) l).length := by omega
    obtain ⟨hc1, hc2, hc3, -⟩ := clipT_bound (sp_mem hil)
    have htk : (clipT (X * 256) (X * 256 + (n : Int) * 256) l).take (i + 1) = (clipT (X * 256) (X * 256 + (n : Int) * 256) l).take i ++ [((clipT (X * 256) (X * 256 + (n : Int) * 256) l).getD i dS)] := takeSnoc20 hil
    refine l_nil ?_
    refine kt_norm ?_
    refine v_seq ?_
    refine v_condT rfl ?_
    refine v_skip ?_
    refine kt_norm ?_
    refine v_seq ?_
    refine v_block ?_
    refine v_seq ?_
    refine v_region ?_
    refine l_val rfl (o_idx (i) rfl hyc rfl (by first | rfl | omega) (by omega)) ?_
    refine l_val rfl (o_loadRE (c' := [_, _]) rfl (row_own (key := 26) rfl) (el_flat eS_len dS (clipT (X * 256) (X * 256 + (n : Int) * 256) l) (i) (by omega)) rfl) ?_
    refine l_new rfl o_alloc fun b6 => ?_
    refine l_store rfl (o_storeW (key := 6) (xs := [_, _]) rfl rfl rfl rfl rfl rfl rfl) ?_
    refine l_nil ?_
    refine kt_norm ?_
    refine v_seq ?_
    refine v_region ?_
    refine l_val rfl (o_fld rfl) ?_
    refine l_val rfl (o_load1 (key := 6) rfl rfl rfl) ?_
    refine l_val rfl (o_assign rfl) ?_
    refine l_nil ?_
    refine kt_norm ?_
    refine v_block ?_
    refine v_loopS (α := Int × List Int) (fun ⟨at_, cur2⟩ => [(7, .int .i64 at_)]) (fun ⟨at_, cur2⟩ => [(1000, Hp.own sv 3 1 n (iI cur2))])  (fun ⟨at_, cur2⟩ => ((clipT (X * 256) (X * 256 + (n : Int) * 256) l).getD i dS).fr ≤ at_ ∧ at_ ≤ ((clipT (X * 256) (X * 256 + (n : Int) * 256) l).getD i dS).to ∧ GQ n cur cur2 (fun p => pxC (X * 256) p ⟨((clipT (X * 256) (X * 256 + (n : Int) * 256) l).getD i dS).fr, at_⟩)) (fun ⟨at_, cur2⟩ => (((clipT (X * 256) (X * 256 + (n : Int) * 256) l).getD i dS).to - at_).toNat) (((clipT (X * 256) (X * 256 + (n : Int) * 256) l).getD i dS).fr, cur) [28, 0, 4, 26, 27, 6] [6, 26, 1001] ⟨Int.le_refl _, by omega, GQ.start hO.len fun p => pxC_none _ _ p⟩  (And.intro rfl (True.intro)) rfl (And.intro rfl (True.intro)) rfl ?_
    rintro ⟨at_, cur2⟩ ⟨hat1, hat2, hI⟩
    refine v_seq ?_
    refine v_seq ?_
    refine v_region ?_
    refine l_val rfl (o_move rfl) ?_
    refine l_val rfl (o_fld rfl) ?_
    refine l_val rfl (o_load1 (key := 6) rfl rfl rfl) ?_
    refine l_split rfl (o_lss rfl rfl) (fun q2 => ?_) (fun q2 => ?_)
    · skip
      refine l_nil ?_
      refine kt_norm ?_
      refine v_condT rfl ?_
      refine v_skip ?_
      refine kt_norm ?_
      refine v_block ?_
      refine v_seq ?_
      refine v_region ?_
      have hpx : at_ < X * 256 + (n : Int) * 256 := by omega
      refine l_val rfl (o_move rfl) ?_
      refine l_val rfl (o_move rfl) ?_
      refine l_val rfl (o_subi rfl rfl ?_) ?_
      · omega
      refine l_val rfl (o_quon rfl rfl ?_ ?_) ?_
      · omega
      · exact wrap_i64 (by omega)
      refine l_val rfl (o_assign rfl) ?_
      refine l_nil ?_
      refine kt_norm ?_
      refine v_sel [7, 28, 0, 4, 26, 27, 6, 8] [6, 26, 1000, 1001] rfl rfl ?_
      refine v_seq ?_
      refine v_region ?_
      refine l_val rfl (o_fld rfl) ?_
      refine l_val rfl (o_load1 (key := 6) rfl rfl rfl) ?_
      refine l_val rfl (o_move rfl) ?_
      refine l_val rfl (o_move rfl) ?_
      refine l_val rfl (o_addi rfl rfl ?_) ?_
      · omega
      refine l_val rfl (o_muli rfl rfl ?_) ?_
      · omega
      refine l_val rfl (o_addi rfl rfl ?_) ?_
      · omega
      refine l_val rfl (o_min rfl rfl) ?_
      refine l_val rfl (o_assign rfl) ?_
      refine l_nil ?_
      refine kt_norm ?_
      refine v_sel [7, 28, 0, 4, 26, 27, 6, 8, 9] [6, 26, 1000, 1001] rfl rfl ?_
      refine v_seq ?_
      refine v_region ?_
      have hcu := hI.at_ (((at_ - X * 256) / 256).toNat) (by omega)
      have hba := hO.at_ (((at_ - X * 256) / 256).toNat) (by omega)
      have hb0 := hsb (((at_ - X * 256) / 256).toNat) (by omega)
      have hb1 := sumC_bound (X * 256 + 256 * ((((at_ - X * 256) / 256).toNat) : Nat)) ((clipT (X * 256) (X * 256 + (n : Int) * 256) l).take i)
      have hb2 := lenC_bound (X * 256 + 256 * ((((at_ - X * 256) / 256).toNat) : Nat)) (X * 256 + 256 * ((((at_ - X * 256) / 256).toNat) : Nat) + 256) ⟨((clipT (X * 256) (X * 256 + (n : Int) * 256) l).getD i dS).fr, at_⟩
      have hb3 := List.length_take (i := i) (l := (clipT (X * 256) (X * 256 + (n : Int) * 256) l))
      have hbe : (pxC (X * 256) (((at_ - X * 256) / 256).toNat) ⟨((clipT (X * 256) (X * 256 + (n : Int) * 256) l).getD i dS).fr, at_⟩) = lenC (X * 256 + 256 * ((((at_ - X * 256) / 256).toNat) : Nat)) (X * 256 + 256 * ((((at_ - X * 256) / 256).toNat) : Nat) + 256) ⟨((clipT (X * 256) (X * 256 + (n : Int) * 256) l).getD i dS).fr, at_⟩ := rfl
      have hbf : sumF (pxC (X * 256) (((at_ - X * 256) / 256).toNat)) ((clipT (X * 256) (X * 256 + (n : Int) * 256) l).take i) = sumF (lenC (X * 256 + 256 * ((((at_ - X * 256) / 256).toNat) : Nat)) (X * 256 + 256 * ((((at_ - X * 256) / 256).toNat) : Nat) + 256)) ((clipT (X * 256) (X * 256 + (n : Int) * 256) l).take i) := rfl
      obtain ⟨e, he⟩ : ∃ e : Int, e = if X * 256 + (((at_ - X * 256) / 256) + 1) * 256 < ((clipT (X * 256) (X * 256 + (n : Int) * 256) l).getD i dS).to then X * 256 + (((at_ - X * 256) / 256) + 1) * 256 else ((clipT (X * 256) (X * 256 + (n : Int) * 256) l).getD i dS).to := ⟨_, rfl⟩
      have hes : at_ < e ∧ e ≤ ((clipT (X * 256) (X * 256 + (n : Int) * 256) l).getD i dS).to ∧ e - at_ ≤ 256 := by split at he <;> omega
      refine l_val rfl (o_move rfl) ?_
      refine l_val rfl (o_nilCheck rfl) ?_
      refine l_val rfl (o_fld rfl) ?_
      refine l_val rfl (o_load1 (key := 1001) rfl rfl rfl) ?_
      refine l_val rfl (o_move rfl) ?_
      refine l_val rfl (o_idx ((((at_ - X * 256) / 256).toNat)) rfl hVs rfl (by omega) (by omega)) ?_
      refine l_val rfl (o_loadR1 rfl (row_own (key := 1000) rfl) (el_int (l := cur2) (i := (((at_ - X * 256) / 256).toNat)) (by have := hI.len; omega))) ?_
      refine l_val rfl (o_move rfl) ?_
      refine l_val rfl (o_move rfl) ?_
      refine l_val rfl (o_subi rfl rfl ?_) ?_
      · omega
      refine l_val rfl (o_addi rfl rfl ?_) ?_
      · omega
      refine l_val rfl (o_idx ((((at_ - X * 256) / 256).toNat)) rfl hVs rfl (by omega) (by omega)) ?_
      refine l_store rfl (o_storeR1 (key := 1000) (j := (((at_ - X * 256) / 256).toNat)) rfl rfl rfl rfl rfl (by omega) (by rw [iI_len]; have := hI.len; omega)) ?_
      refine l_nil ?_
      refine kt_norm ?_
      refine v_sel [28, 0, 4, 26, 27, 6, 9] [6, 26, 1000, 1001] rfl rfl ?_
      refine v_region ?_
      refine l_val rfl (o_move rfl) ?_
      refine l_val rfl (o_assign rfl) ?_
      refine l_nil ?_
      refine kb_norm ?_
      refine kt_norm ?_
      refine ⟨(e, cur2.set (((at_ - X * 256) / 256).toNat) (cur2.getD (((at_ - X * 256) / 256).toNat) 0 + (e - at_))), ⟨by omega, by omega, hI.set (by omega) (by have := pxC_step (st := X * 256) (fr := ((clipT (X * 256) (X * 256 + (n : Int) * 256) l).getD i dS).fr) (at_ := at_) (to := ((clipT (X * 256) (X * 256 + (n : Int) * 256) l).getD i dS).to) (e := e) (px := (((at_ - X * 256) / 256).toNat)) hc1 hat1 (by omega) (by omega) (by rw [he]; split <;> split <;> omega) (((at_ - X * 256) / 256).toNat); rw [if_pos rfl] at this; omega) (fun p hp hne => by have := pxC_step (st := X * 256) (fr := ((clipT (X * 256) (X * 256 + (n : Int) * 256) l).getD i dS).fr) (at_ := at_) (to := ((clipT (X * 256) (X * 256 + (n : Int) * 256) l).getD i dS).to) (e := e) (px := (((at_ - X * 256) / 256).toNat)) hc1 hat1 (by omega) (by omega) (by rw [he]; split <;> split <;> omega) p; rw [if_neg hne] at this; omega)⟩, (by show (((clipT (X * 256) (X * 256 + (n : Int) * 256) l).getD i dS).to - e).toNat < (((clipT (X * 256) (X * 256 + (n : Int) * 256) l).getD i dS).to - at_).toNat; omega), le_app (And.intro (congrArg (fun q => some (Value.int .i64 q)) he.symm) (True.intro)) [28, 0, 4, 26, 27, 6] rfl (And.intro (congrArg some (own_congr rfl (by rw [iI_set]; congr 2; rw [he]))) (True.intro)) [6, 26, 1001] rfl⟩
    · skip
      refine l_nil ?_
      refine kt_norm ?_
      refine v_condF rfl ?_
      refine v_exit ?_
      refine kt_exit ?_
      refine kt_exit ?_
      refine kb_eq ?_
      refine kb_norm ?_
      refine kt_norm ?_
      refine v_sel [28, 0, 4, 26, 27] [26, 1000, 1001] rfl rfl ?_
      refine v_region ?_
      have hate : at_ = ((clipT (X * 256) (X * 256 + (n : Int) * 256) l).getD i dS).to := by omega
      have hend : ∀ p, pxC (X * 256) p ⟨((clipT (X * 256) (X * 256 + (n : Int) * 256) l).getD i dS).fr, at_⟩ = pxC (X * 256) p ((clipT (X * 256) (X * 256 + (n : Int) * 256) l).getD i dS) := fun p => by rw [hate]
      refine l_val rfl (o_addi rfl rfl ?_) ?_
      · omega
      refine l_val rfl (o_move rfl) ?_
      refine l_nil ?_
      refine kt_norm ?_
      refine ⟨(i + 1, cur2), ⟨hil, hO.trans hI fun p hp => by rw [htk, sumF_append]; have := hend p; simp only [sumF]; omega⟩, (by show (clipT (X * 256) (X * 256 + (n : Int) * 256) l).length - (i + 1) < (clipT (X * 256) (X * 256 + (n : Int) * 256) l).length - i; omega), le_app (And.intro rfl (True.intro)) [0, 4, 26, 27] rfl (And.intro rfl (True.intro)) [26, 1001] rfl⟩
  · skip
    refine l_nil ?_
    refine kt_norm ?_
    refine v_seq ?_
    refine v_condF rfl ?_
    refine v_exit ?_
    refine kt_exit ?_
    refine kt_exit ?_
    refine kb_eq ?_
    refine ⟨[], ResAll.nil, ?_⟩
    exact ⟨cur, ⟨hO.len, fun p hp => by rw [hO.at_ p hp]; rw [List.take_of_length_le (by omega)]; exact congrArg _ (sumC_clip (by omega) (by omega) l)⟩, leL_ok _ (And.intro rfl (And.intro rfl True.intro))⟩
end Go.Proofs.YtllhohbenniaaaaGreat
