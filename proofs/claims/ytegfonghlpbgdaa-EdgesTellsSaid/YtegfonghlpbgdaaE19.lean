import Derived.Test.YtegfonghlpbgdaaE18
import Derived.Test.YtegfonghlpbgdaaKN
/- Edges of a view have just the rows of it; they rise by their first rows. Conditions: none. -/
namespace Go.Proofs.Ytegfonghlpbgdaa
open Go.Proofs Go.RowKit Go.Shelf

theorem table_el {f t : Int} {ps : List (List PtT)} {es : List EdgeT} (hb : Bnd ps) (hft : f ≤ t) (h : SrtQ (viewEs f t (edgesAll ps)) 0 (viewEs f t (edgesAll ps)).length es) : es.length = (viewEs f t (edgesAll ps)).length ∧ ∀ i, i < es.length → ∃ e0, EdgeOk e0 ∧ Unit e0 ∧ es.getD i dE = cutE f t e0 ∧ (cutE f t e0).fr < (cutE f t e0).to := by
  refine ⟨h.mut_.st.len, fun i hi => ?_⟩
  have hm : es.getD i dE ∈ es := by rw [List.getD_eq_getElem?_getD, List.getElem?_eq_getElem hi]; exact List.getElem_mem hi
  obtain ⟨e0, h0, h1, h2⟩ := viewEs_mem (h.mut_.st.mem hm)
  have h3 := edgesAll_ok hb e0 h0
  exact ⟨e0, h3.1, h3.2, h1, by rw [← h1]; exact h2⟩
structure CutOk (f t : Int) (e : EdgeT) : Prop where
  fr : f ≤ e.fr
  to : e.to ≤ t
  lt : e.fr < e.to
  dy : 0 < e.dy
  wi : e.wi = 1 ∨ e.wi = -1
theorem table_cut {f t : Int} {ps : List (List PtT)} {es : List EdgeT} (hb : Bnd ps) (hft : f ≤ t) (h : SrtQ (viewEs f t (edgesAll ps)) 0 (viewEs f t (edgesAll ps)).length es) {i : Nat} (hi : i < es.length) : CutOk f t (es.getD i dE) := by
  obtain ⟨e0, h1, h2, h3, h4⟩ := (table_el hb hft h).2 i hi
  rw [h3]
  refine ⟨?_, ?_, h4, h1.dy, h2⟩
  · rw [cutE_fr]; split <;> omega
  · rw [cutE_to]; split <;> omega
theorem pieces_of {w : World} {v : Value} {n : Nat} {pvs : List Value} {q : Nat → Nat × List Value} (hV : RowV v n) (hn : n ≤ maxLen) (hl : pvs.length = n) (hrow : RowAt w v 1 n pvs) (h : ∀ i, i < n → RowV (pvs.getD i undef) (q i).1 ∧ RowAt w (pvs.getD i undef) 2 (q i).1 (q i).2 ∧ ∀ u ∈ (q i).2, IsInt u) :
    ∃ ps : List (List PtT), PcsW v pvs ps ∧ PcsAt w v pvs ps ∧ ∀ i, i < ps.length → ∀ p ∈ ps.getD i [], (Lit.int .i64 p.x).wf = true ∧ (Lit.int .i64 p.y).wf = true := by
  obtain ⟨f, hf⟩ := Go.Deep.choose_lt (n := n) (p := fun i (pc : List PtT) => pc.length = (q i).1 ∧ pc.flatMap eP = (q i).2 ∧ ∀ p ∈ pc, (Lit.int .i64 p.x).wf = true ∧ (Lit.int .i64 p.y).wf = true) (fun i hi => pts_of (q i).1 (q i).2 (h i hi).2.1.len (h i hi).2.2)
  have hg : ∀ i, i < n → ((List.range n).map f).getD i [] = f i := fun i hi => by
    rw [List.getD_eq_getElem?_getD, List.getElem?_map, List.getElem?_range hi]; rfl
  have hlen : ((List.range n).map f).length = n := by simp
  refine ⟨(List.range n).map f, ⟨by rw [hlen]; exact hV, by rw [hlen]; exact hl, by rw [hlen, ← maxLen_le]; exact hn, fun i hi => ?_⟩, ⟨by rw [hlen]; exact hrow, fun i hi => ?_⟩, fun i hi => ?_⟩
  all_goals rw [hlen] at hi; rw [hg i hi]
  · rw [(hf i hi).1]; exact (h i hi).1
  · rw [(hf i hi).1, (hf i hi).2.1]; exact (h i hi).2.1
  · exact (hf i hi).2.2
set_option maxHeartbeats 1000000 in
theorem a_CutY (w : World) (v : Value) (pvs : List Value) (ps : List (List PtT)) (X Y W H : Int) (hv : PcsW v pvs ps) (hat : PcsAt w v pvs ps) (hvw : ViewOk X Y W H) : Calls Try.prog 9 #[v, .agg #[.int .i64 X, .int .i64 Y, .int .i64 W, .int .i64 H]] w fun e w' => e = .returned (.bool true) ∧ Below w.heap.size w w' := by
  obtain ⟨a0, c0, rfl⟩ := hv.V.sl
  have vd := (viewOk_def X Y W H).1 hvw
  refine calls_of (args := [.slice a0 ps.length c0, .agg #[.int .i64 X, .int .i64 Y, .int .i64 W, .int .i64 H]]) Try.func9 rfl Try.ntmps9 Try.results9 rfl ?_
  refine v_seq ?_
  refine v_region ?_
  refine l_new rfl (o_box (cs := [_, _, _, _]) rfl rfl) fun b3 => ?_
  refine l_val rfl (o_assign rfl) ?_
  refine l_nil ?_
  refine kt_norm ?_
  refine v_seq ?_
  refine v_seq ?_
  refine v_region ?_
  refine l_val rfl (o_move rfl) ?_
  refine l_call (ks := []) rfl (o_callC (vs := [_]) (r := .bool (decide (Bnd ps))) (ent_of Try.func15 rfl rfl) rfl (fun w' hg _ => a_bounded w' _ pvs ps hv (hat.keep hg))) ?_
  refine lz_bool (fun hbb => ?_) (fun hbb => ?_)
  · skip
    refine l_val rfl (o_not rfl rfl) ?_
    refine l_val rfl (o_move rfl) ?_
    refine l_ans (vs := []) rfl rfl (a_shown) ?_
    refine l_val rfl (o_not rfl rfl) ?_
    refine l_val rfl (o_pickF rfl rfl) ?_
    refine l_nil ?_
    refine kt_norm ?_
    refine v_sel [0, 3, 13] [3] rfl rfl ?_
    refine v_condF rfl ?_
    refine v_skip ?_
    refine kt_norm ?_
    refine v_seq ?_
    refine v_region ?_
    refine l_val rfl (o_move rfl) ?_
    refine l_val rfl (o_loadW (key := 3) rfl rfl rfl) ?_
    refine l_gownX (ks := []) (fun es => SrtQ (viewEs (16 * Y) (16 * (Y + H)) (edgesAll ps)) 0 (viewEs (16 * Y) (16 * (Y + H)) (edgesAll ps)).length es) (fun es => es.flatMap eE) (fun _ => (viewEs (16 * Y) (16 * (Y + H)) (edgesAll ps)).length) (caps := #[]) (vs := [_, _]) rfl rfl (ent_of Try.func24 rfl rfl) rfl (fun w' hg _ => a_Table w' a0 ps.length c0 pvs ps X Y W H hbb (hbb.pcsV hv) (hat.keep hg) hvw) fun es y hS hy => ?_
    refine l_val rfl (o_assign rfl) ?_
    refine l_nil ?_
    refine kt_norm ?_
    refine v_seq ?_
    refine v_seq ?_
    refine v_region ?_
    refine l_val rfl (o_loadW (key := 3) rfl rfl rfl) ?_
    refine l_ans (vs := [_]) rfl rfl ((show Ans Try.prog _ _ (.int .i64 0) by have := a_Check X Y W H; rwa [if_pos hvw] at this)) ?_
    refine l_split rfl (o_neq rfl rfl) (fun q1 => absurd q1 (by omega)) (fun q1 => ?_)
    refine l_nil ?_
    refine kt_norm ?_
    refine v_sel [3, 5, 20] [3, 17] rfl rfl ?_
    refine v_condF rfl ?_
    refine v_skip ?_
    refine kt_norm ?_
    refine v_seq ?_
    refine v_seq ?_
    refine v_region ?_
    have hel := (table_el hbb (by omega) hS).1
    have hlr : (viewEs (16 * Y) (16 * (Y + H)) (edgesAll ps)).length ≤ 320 := by have h1 := viewEs_len (16 * Y) (16 * (Y + H)) (edgesAll ps); have h2 := edgesAll_len hbb; omega
    refine l_val rfl (o_assign rfl) ?_
    refine l_nil ?_
    refine kt_norm ?_
    refine v_block ?_
    refine v_loopS (α := Nat) (fun i => [(6, .int .i64 (i : Int))]) (fun i => [])  (fun i => i ≤ (viewEs (16 * Y) (16 * (Y + H)) (edgesAll ps)).length) (fun i => (viewEs (16 * Y) (16 * (Y + H)) (edgesAll ps)).length - i) 0 [3, 5] [3, 17] (Nat.zero_le _)  (And.intro rfl (True.intro)) rfl (True.intro) rfl ?_
    rintro i hi
    refine v_seq ?_
    refine v_seq ?_
    refine v_region ?_
    refine l_val rfl (o_move rfl) ?_
    refine l_val rfl (o_move rfl) ?_
    refine l_val rfl (o_len rfl hy) ?_
    refine l_split rfl (o_lss rfl rfl) (fun q2 => ?_) (fun q2 => ?_)
    · skip
      refine l_nil ?_
      refine kt_norm ?_
      refine v_condT rfl ?_
      refine v_skip ?_
      refine kt_norm ?_
      refine v_seq ?_
      refine v_block ?_
      refine v_seq ?_
      refine v_drawZ [[], [], [], [], [17], [], [3], [], [], [], [], [], [], [], [17], [], [3], [], [3], [], [], [], [], [], [], [], [], [], [17], [], [], [], [], [17], [], [], [], [], [], [], [], [], [], [], [17], [], [], [], [], [], [17], [], [], [], [], [], [], [], [], [17], [], [], [], [], [], [], [], [17], [], [], [], [], [], [], [17], [], [], []] mixed ?_ (by kernel_rfl) (by kernel_rfl)
      have hc := table_cut hbb (by omega) hS (i := i) (by omega)
      have c1 := hc.fr; have c2 := hc.to; have c3 := hc.lt; have c4 := hc.dy; have c5 := hc.wi
      refine d_val (fun _ => rfl) rfl rfl (fun _ => o_move rfl) ?_
      refine d_val (fun _ => rfl) rfl rfl (fun _ => o_move rfl) ?_
      refine d_val (fun _ => rfl) rfl rfl (fun _ => o_idx (i) rfl hy rfl (by first | rfl | omega) (by omega)) ?_
      refine d_val (fun _ => rfl) rfl rfl (fun _ => o_fld rfl) ?_
      refine d_val (fun _ => rfl) rfl rfl (fun _ => o_loadRF (f := 5) rfl (row_own (key := 17) rfl) (el_flat eE_len dE es (i) (by omega)) rfl) ?_
      refine d_val (fun _ => rfl) rfl rfl (fun _ => o_fld rfl) ?_
      refine d_val (fun _ => rfl) rfl rfl (fun _ => o_load1 (key := 3) rfl rfl rfl) ?_
      refine d_val (fun _ => rfl) rfl rfl (fun _ => o_muli rfl rfl ?_) ?_
      · omega
      refine d_lss (fun _ => rfl) (fun _ => rfl) (fun _ => rfl) (fun q3 => absurd q3 (by omega)) (fun q3 => ?_)
      refine d_val (fun _ => rfl) rfl rfl (fun _ => o_move rfl) ?_
      refine d_val (fun _ => rfl) rfl rfl (fun _ => o_move rfl) ?_
      refine d_val (fun _ => rfl) rfl rfl (fun _ => o_move rfl) ?_
      refine d_val (fun _ => rfl) rfl rfl (fun _ => o_idx (i) rfl hy rfl (by first | rfl | omega) (by omega)) ?_
      refine d_val (fun _ => rfl) rfl rfl (fun _ => o_fld rfl) ?_
      refine d_val (fun _ => rfl) rfl rfl (fun _ => o_loadRF (f := 6) rfl (row_own (key := 17) rfl) (el_flat eE_len dE es (i) (by omega)) rfl) ?_
      refine d_val (fun _ => rfl) rfl rfl (fun _ => o_fld rfl) ?_
      refine d_val (fun _ => rfl) rfl rfl (fun _ => o_load1 (key := 3) rfl rfl rfl) ?_
      refine d_val (fun _ => rfl) rfl rfl (fun _ => o_fld rfl) ?_
      refine d_val (fun _ => rfl) rfl rfl (fun _ => o_load1 (key := 3) rfl rfl rfl) ?_
      refine d_val (fun _ => rfl) rfl rfl (fun _ => o_addi rfl rfl ?_) ?_
      · omega
      refine d_val (fun _ => rfl) rfl rfl (fun _ => o_muli rfl rfl ?_) ?_
      · omega
      refine d_gtr (fun _ => rfl) (fun _ => rfl) (fun _ => rfl) (fun q4 => absurd q4 (by omega)) (fun q4 => ?_)
      refine d_val (fun _ => rfl) rfl rfl (fun _ => o_pickF rfl rfl) ?_
      refine d_val (fun _ => rfl) rfl rfl (fun _ => o_move rfl) ?_
      refine d_val (fun _ => rfl) rfl rfl (fun _ => o_move rfl) ?_
      refine d_val (fun _ => rfl) rfl rfl (fun _ => o_move rfl) ?_
      refine d_val (fun _ => rfl) rfl rfl (fun _ => o_idx (i) rfl hy rfl (by first | rfl | omega) (by omega)) ?_
      refine d_val (fun _ => rfl) rfl rfl (fun _ => o_fld rfl) ?_
      refine d_val (fun _ => rfl) rfl rfl (fun _ => o_loadRF (f := 5) rfl (row_own (key := 17) rfl) (el_flat eE_len dE es (i) (by omega)) rfl) ?_
      refine d_val (fun _ => rfl) rfl rfl (fun _ => o_move rfl) ?_
      refine d_val (fun _ => rfl) rfl rfl (fun _ => o_move rfl) ?_
      refine d_val (fun _ => rfl) rfl rfl (fun _ => o_idx (i) rfl hy rfl (by first | rfl | omega) (by omega)) ?_
      refine d_val (fun _ => rfl) rfl rfl (fun _ => o_fld rfl) ?_
      refine d_val (fun _ => rfl) rfl rfl (fun _ => o_loadRF (f := 6) rfl (row_own (key := 17) rfl) (el_flat eE_len dE es (i) (by omega)) rfl) ?_
      refine d_geq (fun _ => rfl) (fun _ => rfl) (fun _ => rfl) (fun q5 => absurd q5 (by omega)) (fun q5 => ?_)
      refine d_val (fun _ => rfl) rfl rfl (fun _ => o_pickF rfl rfl) ?_
      refine d_val (fun _ => rfl) rfl rfl (fun _ => o_move rfl) ?_
      refine d_val (fun _ => rfl) rfl rfl (fun _ => o_move rfl) ?_
      refine d_gtr (fun _ => rfl) (fun _ => rfl) (fun _ => rfl) (fun q6 => ?_) (fun q6 => ?_)
      · skip
        refine d_val (fun _ => rfl) rfl rfl (fun _ => o_move rfl) ?_
        have hso := hS.srt (i - 1) i (Nat.zero_le _) (by omega) (by omega)
        refine d_val (fun _ => rfl) rfl rfl (fun _ => o_move rfl) ?_
        refine d_val (fun _ => rfl) rfl rfl (fun _ => o_move rfl) ?_
        refine d_val (fun _ => rfl) rfl rfl (fun _ => o_idx (i) rfl hy rfl (by first | rfl | omega) (by omega)) ?_
        refine d_val (fun _ => rfl) rfl rfl (fun _ => o_fld rfl) ?_
        refine d_val (fun _ => rfl) rfl rfl (fun _ => o_loadRF (f := 5) rfl (row_own (key := 17) rfl) (el_flat eE_len dE es (i) (by omega)) rfl) ?_
        refine d_val (fun _ => rfl) rfl rfl (fun _ => o_move rfl) ?_
        refine d_val (fun _ => rfl) rfl rfl (fun _ => o_move rfl) ?_
        refine d_val (fun _ => rfl) rfl rfl (fun _ => o_subi rfl rfl ?_) ?_
        · omega
        refine d_val (fun _ => rfl) rfl rfl (fun _ => o_idx (i - 1) rfl hy rfl (by first | rfl | omega) (by omega)) ?_
        refine d_val (fun _ => rfl) rfl rfl (fun _ => o_fld rfl) ?_
        refine d_val (fun _ => rfl) rfl rfl (fun _ => o_loadRF (f := 5) rfl (row_own (key := 17) rfl) (el_flat eE_len dE es (i - 1) (by omega)) rfl) ?_
        refine d_lss (fun _ => rfl) (fun _ => rfl) (fun _ => rfl) (fun q7 => absurd q7 (by omega)) (fun q7 => ?_)
        refine d_val (fun _ => rfl) rfl rfl (fun _ => o_pickT rfl rfl) ?_
        refine d_val (fun _ => rfl) rfl rfl (fun _ => o_pickF rfl rfl) ?_
        refine d_val (fun _ => rfl) rfl rfl (fun _ => o_move rfl) ?_
        refine d_val (fun _ => rfl) rfl rfl (fun _ => o_move rfl) ?_
        refine d_val (fun _ => rfl) rfl rfl (fun _ => o_move rfl) ?_
        refine d_val (fun _ => rfl) rfl rfl (fun _ => o_idx (i) rfl hy rfl (by first | rfl | omega) (by omega)) ?_
        refine d_val (fun _ => rfl) rfl rfl (fun _ => o_fld rfl) ?_
        refine d_val (fun _ => rfl) rfl rfl (fun _ => o_loadRF (f := 3) rfl (row_own (key := 17) rfl) (el_flat eE_len dE es (i) (by omega)) rfl) ?_
        refine d_leq (fun _ => rfl) (fun _ => rfl) (fun _ => rfl) (fun q8 => absurd q8 (by omega)) (fun q8 => ?_)
        refine d_val (fun _ => rfl) rfl rfl (fun _ => o_pickF rfl rfl) ?_
        refine d_val (fun _ => rfl) rfl rfl (fun _ => o_move rfl) ?_
        refine d_val (fun _ => rfl) rfl rfl (fun _ => o_move rfl) ?_
        refine d_val (fun _ => rfl) rfl rfl (fun _ => o_move rfl) ?_
        refine d_val (fun _ => rfl) rfl rfl (fun _ => o_idx (i) rfl hy rfl (by first | rfl | omega) (by omega)) ?_
        refine d_val (fun _ => rfl) rfl rfl (fun _ => o_fld rfl) ?_
        refine d_val (fun _ => rfl) rfl rfl (fun _ => o_loadRF (f := 4) rfl (row_own (key := 17) rfl) (el_flat eE_len dE es (i) (by omega)) rfl) ?_
        refine d_neq (fun _ => rfl) (fun _ => rfl) (fun _ => rfl) (fun q9 => ?_) (fun q9 => ?_)
        · skip
          refine d_val (fun _ => rfl) rfl rfl (fun _ => o_move rfl) ?_
          refine d_val (fun _ => rfl) rfl rfl (fun _ => o_move rfl) ?_
          refine d_val (fun _ => rfl) rfl rfl (fun _ => o_move rfl) ?_
          refine d_val (fun _ => rfl) rfl rfl (fun _ => o_idx (i) rfl hy rfl (by first | rfl | omega) (by omega)) ?_
          refine d_val (fun _ => rfl) rfl rfl (fun _ => o_fld rfl) ?_
          refine d_val (fun _ => rfl) rfl rfl (fun _ => o_loadRF (f := 4) rfl (row_own (key := 17) rfl) (el_flat eE_len dE es (i) (by omega)) rfl) ?_
          refine d_neq (fun _ => rfl) (fun _ => rfl) (fun _ => rfl) (fun q10 => absurd q10 (by omega)) (fun q10 => ?_)
          refine d_val (fun _ => rfl) rfl rfl (fun _ => o_pickT rfl rfl) ?_
          refine d_val (fun _ => rfl) rfl rfl (fun _ => o_pickF rfl rfl) ?_
          refine d_nil (fun σ => ?_)
          refine l_nil ?_
          refine kt_norm ?_
          refine v_sel [6, 3, 5, 40, 41, 42, 43, 44, 45, 46, 47, 48, 49, 50, 51, 54, 55, 56, 57, 58, 59, 60, 61, 62, 63, 64, 67, 68, 69, 70, 71, 72, 73, 74, 75, 76, 77, 78, 79, 80, 81, 82, 85, 86, 87, 88, 89, 90, 93, 94, 95, 96, 97, 98, 99, 100, 101, 102, 103, 104, 105, 106, 107] [3, 17] rfl rfl ?_
          refine v_condF rfl ?_
          refine v_skip ?_
          refine kb_norm ?_
          refine kt_norm ?_
          refine v_region ?_
          refine l_val rfl (o_move rfl) ?_
          refine l_val rfl (o_addi rfl rfl ?_) ?_
          · omega
          refine l_val rfl (o_assign rfl) ?_
          refine l_nil ?_
          refine kt_norm ?_
          refine ⟨i + 1, (by omega), by omega, le_app (And.intro rfl (True.intro)) [3, 5] rfl (True.intro) [3, 17] rfl⟩
        · skip
          refine d_val (fun _ => rfl) rfl rfl (fun _ => o_move rfl) ?_
          refine d_no (fun _ => rfl) ?_
          refine d_no (fun _ => rfl) ?_
          refine d_no (fun _ => rfl) ?_
          refine d_no (fun _ => rfl) ?_
          refine d_no (fun _ => rfl) ?_
          refine d_no (fun _ => rfl) ?_
          refine d_val (fun _ => rfl) rfl rfl (fun _ => o_pickF rfl rfl) ?_
          refine d_val (fun _ => rfl) rfl rfl (fun _ => o_pickF rfl rfl) ?_
          refine d_nil (fun σ => ?_)
          refine l_nil ?_
          refine kt_norm ?_
          refine v_sel [6, 3, 5, 40, 41, 42, 43, 44, 45, 46, 47, 48, 49, 50, 51, 54, 55, 56, 57, 58, 59, 60, 61, 62, 63, 64, 67, 68, 69, 70, 71, 72, 73, 74, 75, 76, 77, 78, 79, 80, 81, 82, 85, 86, 87, 88, 89, 90, 93, 94, 95, 96, 97, 98, 99, 100, 101, 102, 103, 104, 105, 106, 107] [3, 17] rfl rfl ?_
          refine v_condF rfl ?_
          refine v_skip ?_
          refine kb_norm ?_
          refine kt_norm ?_
          refine v_region ?_
          refine l_val rfl (o_move rfl) ?_
          refine l_val rfl (o_addi rfl rfl ?_) ?_
          · omega
          refine l_val rfl (o_assign rfl) ?_
          refine l_nil ?_
          refine kt_norm ?_
          refine ⟨i + 1, (by omega), by omega, le_app (And.intro rfl (True.intro)) [3, 5] rfl (True.intro) [3, 17] rfl⟩
      · skip
        refine d_val (fun _ => rfl) rfl rfl (fun _ => o_move rfl) ?_
        skip
        refine d_no (fun _ => rfl) ?_
        refine d_no (fun _ => rfl) ?_
        refine d_no (fun _ => rfl) ?_
        refine d_no (fun _ => rfl) ?_
        refine d_no (fun _ => rfl) ?_
        refine d_no (fun _ => rfl) ?_
        refine d_no (fun _ => rfl) ?_
        refine d_no (fun _ => rfl) ?_
        refine d_no (fun _ => rfl) ?_
        refine d_no (fun _ => rfl) ?_
        refine d_no (fun _ => rfl) ?_
        refine d_no (fun _ => rfl) ?_
        refine d_val (fun _ => rfl) rfl rfl (fun _ => o_pickF rfl rfl) ?_
        refine d_val (fun _ => rfl) rfl rfl (fun _ => o_pickF rfl rfl) ?_
        refine d_val (fun _ => rfl) rfl rfl (fun _ => o_move rfl) ?_
        refine d_val (fun _ => rfl) rfl rfl (fun _ => o_move rfl) ?_
        refine d_val (fun _ => rfl) rfl rfl (fun _ => o_move rfl) ?_
        refine d_val (fun _ => rfl) rfl rfl (fun _ => o_idx (i) rfl hy rfl (by first | rfl | omega) (by omega)) ?_
        refine d_val (fun _ => rfl) rfl rfl (fun _ => o_fld rfl) ?_
        refine d_val (fun _ => rfl) rfl rfl (fun _ => o_loadRF (f := 3) rfl (row_own (key := 17) rfl) (el_flat eE_len dE es (i) (by omega)) rfl) ?_
        refine d_leq (fun _ => rfl) (fun _ => rfl) (fun _ => rfl) (fun q11 => absurd q11 (by omega)) (fun q11 => ?_)
        refine d_val (fun _ => rfl) rfl rfl (fun _ => o_pickF rfl rfl) ?_
        refine d_val (fun _ => rfl) rfl rfl (fun _ => o_move rfl) ?_
        refine d_val (fun _ => rfl) rfl rfl (fun _ => o_move rfl) ?_
        refine d_val (fun _ => rfl) rfl rfl (fun _ => o_move rfl) ?_
        refine d_val (fun _ => rfl) rfl rfl (fun _ => o_idx (i) rfl hy rfl (by first | rfl | omega) (by omega)) ?_
        refine d_val (fun _ => rfl) rfl rfl (fun _ => o_fld rfl) ?_
        refine d_val (fun _ => rfl) rfl rfl (fun _ => o_loadRF (f := 4) rfl (row_own (key := 17) rfl) (el_flat eE_len dE es (i) (by omega)) rfl) ?_
        refine d_neq (fun _ => rfl) (fun _ => rfl) (fun _ => rfl) (fun q12 => ?_) (fun q12 => ?_)
        · skip
          refine d_val (fun _ => rfl) rfl rfl (fun _ => o_move rfl) ?_
          refine d_val (fun _ => rfl) rfl rfl (fun _ => o_move rfl) ?_
          refine d_val (fun _ => rfl) rfl rfl (fun _ => o_move rfl) ?_
          refine d_val (fun _ => rfl) rfl rfl (fun _ => o_idx (i) rfl hy rfl (by first | rfl | omega) (by omega)) ?_
          refine d_val (fun _ => rfl) rfl rfl (fun _ => o_fld rfl) ?_
          refine d_val (fun _ => rfl) rfl rfl (fun _ => o_loadRF (f := 4) rfl (row_own (key := 17) rfl) (el_flat eE_len dE es (i) (by omega)) rfl) ?_
          refine d_neq (fun _ => rfl) (fun _ => rfl) (fun _ => rfl) (fun q13 => absurd q13 (by omega)) (fun q13 => ?_)
          refine d_val (fun _ => rfl) rfl rfl (fun _ => o_pickT rfl rfl) ?_
          refine d_val (fun _ => rfl) rfl rfl (fun _ => o_pickF rfl rfl) ?_
          refine d_nil (fun σ => ?_)
          refine l_nil ?_
          refine kt_norm ?_
          refine v_sel [6, 3, 5, 40, 41, 42, 43, 44, 45, 46, 47, 48, 49, 50, 51, 54, 55, 56, 57, 58, 59, 60, 61, 62, 63, 64, 67, 68, 69, 70, 71, 72, 73, 74, 75, 76, 77, 78, 79, 80, 81, 82, 85, 86, 87, 88, 89, 90, 93, 94, 95, 96, 97, 98, 99, 100, 101, 102, 103, 104, 105, 106, 107] [3, 17] rfl rfl ?_
          refine v_condF rfl ?_
          refine v_skip ?_
          refine kb_norm ?_
          refine kt_norm ?_
          refine v_region ?_
          refine l_val rfl (o_move rfl) ?_
          refine l_val rfl (o_addi rfl rfl ?_) ?_
          · omega
          refine l_val rfl (o_assign rfl) ?_
          refine l_nil ?_
          refine kt_norm ?_
          refine ⟨i + 1, (by omega), by omega, le_app (And.intro rfl (True.intro)) [3, 5] rfl (True.intro) [3, 17] rfl⟩
        · skip
          refine d_val (fun _ => rfl) rfl rfl (fun _ => o_move rfl) ?_
          refine d_no (fun _ => rfl) ?_
          refine d_no (fun _ => rfl) ?_
          refine d_no (fun _ => rfl) ?_
          refine d_no (fun _ => rfl) ?_
          refine d_no (fun _ => rfl) ?_
          refine d_no (fun _ => rfl) ?_
          refine d_val (fun _ => rfl) rfl rfl (fun _ => o_pickF rfl rfl) ?_
          refine d_val (fun _ => rfl) rfl rfl (fun _ => o_pickF rfl rfl) ?_
          refine d_nil (fun σ => ?_)
          refine l_nil ?_
          refine kt_norm ?_
          refine v_sel [6, 3, 5, 40, 41, 42, 43, 44, 45, 46, 47, 48, 49, 50, 51, 54, 55, 56, 57, 58, 59, 60, 61, 62, 63, 64, 67, 68, 69, 70, 71, 72, 73, 74, 75, 76, 77, 78, 79, 80, 81, 82, 85, 86, 87, 88, 89, 90, 93, 94, 95, 96, 97, 98, 99, 100, 101, 102, 103, 104, 105, 106, 107] [3, 17] rfl rfl ?_
          refine v_condF rfl ?_
          refine v_skip ?_
          refine kb_norm ?_
          refine kt_norm ?_
          refine v_region ?_
          refine l_val rfl (o_move rfl) ?_
          refine l_val rfl (o_addi rfl rfl ?_) ?_
          · omega
          refine l_val rfl (o_assign rfl) ?_
          refine l_nil ?_
          refine kt_norm ?_
          refine ⟨i + 1, (by omega), by omega, le_app (And.intro rfl (True.intro)) [3, 5] rfl (True.intro) [3, 17] rfl⟩
    · skip
      refine l_nil ?_
      refine kt_norm ?_
      refine v_condF rfl ?_
      refine v_exit ?_
      refine kt_exit ?_
      refine kt_exit ?_
      refine kb_eq ?_
      refine kt_norm ?_
      refine v_sel [] [] rfl rfl ?_
      refine v_seq ?_
      refine v_region ?_
      refine l_val rfl (o_assign rfl) ?_
      refine l_nil ?_
      refine kt_norm ?_
      refine v_ret ?_
      refine ⟨[_], .cons (.tmp rfl) (ResAll.nil), ?_⟩
      rfl
  · skip
    refine l_val rfl (o_not rfl rfl) ?_
    refine l_val rfl (o_move rfl) ?_
    refine l_no rfl ?_
    refine l_no rfl ?_
    refine l_val rfl (o_pickT rfl rfl) ?_
    refine l_nil ?_
    refine kt_norm ?_
    refine v_sel [0, 3, 13] [3] rfl rfl ?_
    refine v_condT rfl ?_
    refine v_seq ?_
    refine v_region ?_
    refine l_ans (vs := []) rfl rfl (a_shown) ?_
    refine l_val rfl (o_assign rfl) ?_
    refine l_nil ?_
    refine kt_norm ?_
    refine v_ret ?_
    refine kt_ret ?_
    refine ⟨[_], .cons (.tmp rfl) (ResAll.nil), ?_⟩
    rfl
set_option maxHeartbeats 1000000 in
theorem a_CutN (w : World) (v : Value) (pvs : List Value) (ps : List (List PtT)) (X Y W H : Int) (hv : PcsW v pvs ps) (hat : PcsAt w v pvs ps) (hvw : ¬ ViewOk X Y W H) : Calls Try.prog 9 #[v, .agg #[.int .i64 X, .int .i64 Y, .int .i64 W, .int .i64 H]] w fun e w' => e = .returned (.bool true) ∧ Below w.heap.size w w' := by
  obtain ⟨a0, c0, rfl⟩ := hv.V.sl
  refine calls_of (args := [.slice a0 ps.length c0, .agg #[.int .i64 X, .int .i64 Y, .int .i64 W, .int .i64 H]]) Try.func9 rfl Try.ntmps9 Try.results9 rfl ?_
  refine v_seq ?_
  refine v_region ?_
  refine l_new rfl (o_box (cs := [_, _, _, _]) rfl rfl) fun b3 => ?_
  refine l_val rfl (o_assign rfl) ?_
  refine l_nil ?_
  refine kt_norm ?_
  refine v_seq ?_
  refine v_seq ?_
  refine v_region ?_
  refine l_val rfl (o_move rfl) ?_
  refine l_call (ks := []) rfl (o_callC (vs := [_]) (r := .bool (decide (Bnd ps))) (ent_of Try.func15 rfl rfl) rfl (fun w' hg _ => a_bounded w' _ pvs ps hv (hat.keep hg))) ?_
  refine lz_bool (fun hbb => ?_) (fun hbb => ?_)
  · skip
    refine l_val rfl (o_not rfl rfl) ?_
    refine l_val rfl (o_move rfl) ?_
    refine l_ans (vs := []) rfl rfl (a_shown) ?_
    refine l_val rfl (o_not rfl rfl) ?_
    refine l_val rfl (o_pickF rfl rfl) ?_
    refine l_nil ?_
    refine kt_norm ?_
    refine v_sel [0, 3, 13] [3] rfl rfl ?_
    refine v_condF rfl ?_
    refine v_skip ?_
    refine kt_norm ?_
    refine v_seq ?_
    refine v_region ?_
    refine l_val rfl (o_move rfl) ?_
    refine l_val rfl (o_loadW (key := 3) rfl rfl rfl) ?_
    refine l_gown (ks := []) (caps := #[]) (vs := [_, _]) rfl rfl (ent_of Try.func24 rfl rfl) rfl (fun w' hg _ => a_TableN w' _ X Y W H hvw) fun y hy => ?_
    refine l_val rfl (o_assign rfl) ?_
    refine l_nil ?_
    refine kt_norm ?_
    refine v_seq ?_
    refine v_seq ?_
    refine v_region ?_
    refine l_val rfl (o_loadW (key := 3) rfl rfl rfl) ?_
    refine l_ans (vs := [_]) rfl rfl ((show Ans Try.prog _ _ (.int .i64 190) by have := a_Check X Y W H; rwa [if_neg hvw] at this)) ?_
    refine l_split rfl (o_neq rfl rfl) (fun q1 => ?_) (fun q1 => absurd (show _ by omega) q1)
    refine l_nil ?_
    refine kt_norm ?_
    refine v_sel [3, 5, 20] [3, 17] rfl rfl ?_
    refine v_condT rfl ?_
    refine v_seq ?_
    refine v_region ?_
    refine l_val rfl (o_move rfl) ?_
    refine l_val rfl (o_len rfl hy) ?_
    refine l_split rfl (o_eql rfl rfl) (fun q2 => ?_) (fun q2 => absurd (show _ by omega) q2)
    refine l_val rfl (o_assign rfl) ?_
    refine l_nil ?_
    refine kt_norm ?_
    refine v_sel [4] [] rfl rfl ?_
    refine v_ret ?_
    refine kt_ret ?_
    refine ⟨[_], .cons (.tmp rfl) (ResAll.nil), ?_⟩
    rfl
  · skip
    refine l_val rfl (o_not rfl rfl) ?_
    refine l_val rfl (o_move rfl) ?_
    refine l_no rfl ?_
    refine l_no rfl ?_
    refine l_val rfl (o_pickT rfl rfl) ?_
    refine l_nil ?_
    refine kt_norm ?_
    refine v_sel [0, 3, 13] [3] rfl rfl ?_
    refine v_condT rfl ?_
    refine v_seq ?_
    refine v_region ?_
    refine l_ans (vs := []) rfl rfl (a_shown) ?_
    refine l_val rfl (o_assign rfl) ?_
    refine l_nil ?_
    refine kt_norm ?_
    refine v_ret ?_
    refine kt_ret ?_
    refine ⟨[_], .cons (.tmp rfl) (ResAll.nil), ?_⟩
    rfl
theorem a_EdgesCut (w : World) (v : Value) (pvs : List Value) (ps : List (List PtT)) (X Y W H : Int) (hv : PcsW v pvs ps) (hat : PcsAt w v pvs ps) : Calls Try.prog 9 #[v, .agg #[.int .i64 X, .int .i64 Y, .int .i64 W, .int .i64 H]] w fun e w' => e = .returned (.bool true) ∧ Below w.heap.size w w' := by
  by_cases hvw : ViewOk X Y W H
  · exact a_CutY w v pvs ps X Y W H hv hat hvw
  · exact a_CutN w v pvs ps X Y W H hv hat hvw
end Go.Proofs.Ytegfonghlpbgdaa
