import Derived.Test.YtaijclimdfchfaaF3
/- Two squares, looked at; spans rise; what is clipped has just what lies between. Conditions: none. -/
namespace Go.Proofs.Ytaijclimdfchfaa
open Go.Proofs Go.RowKit Go.Shelf

theorem pcsV_two {v p q : Value} {pc qc : List PtT} (h : RowV v 2) (hp : RowV p pc.length) (hq : RowV q qc.length) (hs : pc.length ≤ 1000000) (hs' : qc.length ≤ 1000000) (hn : ∀ p ∈ pc, NearT p) (hn' : ∀ p ∈ qc, NearT p) : PcsV v [p, q] [pc, qc] :=
  ⟨h, rfl, (show 2 ≤ 1099511627776 by omega), fun i hi => by match i, hi with | 0, _ => exact hp | 1, _ => exact hq | n + 2, h => exact absurd h (by show ¬ n + 2 < 2; omega), fun i hi => by match i, hi with | 0, _ => show pc.length ≤ _; omega | 1, _ => show qc.length ≤ _; omega | n + 2, h => exact absurd h (by show ¬ n + 2 < 2; omega), fun i hi => by match i, hi with | 0, _ => exact hn | 1, _ => exact hn' | n + 2, h => exact absurd h (by show ¬ n + 2 < 2; omega)⟩
theorem pcsAt_two {w : World} {v p q : Value} {pc qc : List PtT} (h : RowAt w v 1 2 [p, q]) (h1 : RowAt w p 2 pc.length (pc.flatMap eP)) (h2 : RowAt w q 2 qc.length (qc.flatMap eP)) : PcsAt w v [p, q] [pc, qc] :=
  ⟨h, fun i hi => by match i, hi with | 0, _ => exact h1 | 1, _ => exact h2 | n + 2, h => exact absurd h (by show ¬ n + 2 < 2; omega)⟩
def sqA : List PtT := [⟨0, 0⟩, ⟨32, 0⟩, ⟨32, 32⟩, ⟨0, 32⟩]
def sqB : List PtT := [⟨32, 0⟩, ⟨64, 0⟩, ⟨64, 32⟩, ⟨32, 32⟩]
def tb20 : List EdgeT := [⟨32, 0, 0, 32, 1, 0, 2⟩, ⟨0, 0, 0, 32, -1, 0, 2⟩, ⟨64, 0, 0, 32, 1, 0, 2⟩, ⟨32, 0, 0, 32, -1, 0, 2⟩]
theorem tab20 : tabT 0 0 1 1 [sqA, sqB] = tb20 := by unfold tabT; rw [if_pos (by decide)]; rfl
theorem nearA : ∀ p ∈ sqA, NearT p := by decide
theorem nearB : ∀ p ∈ sqB, NearT p := by decide
theorem bndAB : Bnd [sqA, sqB] := by decide
theorem sp20 : rowS (crs 1 (liveT 1 tb20)) = [⟨0, 64⟩] := by rfl
theorem cr20 : ∀ e ∈ liveT 1 tb20, CrossOk 1 e := fun e he => by
  have h : liveT 1 tb20 = tb20 := by rfl
  rw [h] at he
  simp only [tb20, List.mem_cons, List.not_mem_nil, or_false] at he
  rcases he with rfl | rfl | rfl | rfl <;> exact ⟨by decide, by decide, by decide, by decide, by decide, by decide, by decide, by first | exact .inl rfl | exact .inr rfl⟩
theorem a_Tab20 (w : World) (v p q : Value) (hV : RowV v 2) (hp : RowV p 4) (hq : RowV q 4) (h : RowAt w v 1 2 [p, q]) (h1 : RowAt w p 2 4 (sqA.flatMap eP)) (h2 : RowAt w q 2 4 (sqB.flatMap eP)) :
    Calls Try.prog 43 #[v, .agg #[.int .i64 0, .int .i64 0, .int .i64 1, .int .i64 1]] w fun e w' => ∃ y, e = .returned y ∧ Below w.heap.size w w' ∧ OwnAt w.heap.size w' y 90 7 4 (tb20.flatMap eE) := by
  have := a_TableT w v [p, q] [sqA, sqB] 0 0 1 1 bndAB (pcsV_two hV hp hq (by decide) (by decide) nearA nearB) (pcsAt_two h h1 h2)
  rw [tab20] at this
  exact this
theorem a_Row20 (w : World) (v : Value) (hV : RowV v 4) (hrow : RowAt w v 7 4 (tb20.flatMap eE)) : Calls Try.prog 17 #[v, .int .i64 1] w fun e w' => ∃ y, e = .returned y ∧ Below w.heap.size w w' ∧ OwnAt w.heap.size w' y 31 2 1 [.int .i64 0, .int .i64 64] := by
  have := a_Spans w v tb20 1 (by decide) hV hrow cr20
  rw [sp20] at this
  exact this
theorem a_Clip20 (w : World) (v : Value) (hV : RowV v 1) (hrow : RowAt w v 2 1 [.int .i64 0, .int .i64 64]) : Calls Try.prog 20 #[v, .int .i64 5, .int .i64 20] w fun e w' => ∃ y, e = .returned y ∧ Below w.heap.size w w' ∧ OwnAt w.heap.size w' y 31 2 1 [.int .i64 5, .int .i64 20] :=
  a_Clip w v [⟨0, 64⟩] 5 20 (by decide) hV hrow
theorem a_Sum20 (w : World) (v : Value) (hV : RowV v 1) (hrow : RowAt w v 2 1 [.int .i64 5, .int .i64 20]) : Calls Try.prog 21 #[v] w fun e w' => e = .returned (.int .i64 15) ∧ Below w.heap.size w w' :=
  a_Sum w v [⟨5, 20⟩] (by decide) (fun s hs => by rw [List.mem_singleton.1 hs]; decide) hV hrow
theorem a_HasY (w : World) (v : Value) (hV : RowV v 1) (hrow : RowAt w v 2 1 [.int .i64 0, .int .i64 64]) : Calls Try.prog 22 #[v, .int .i64 63] w fun e w' => e = .returned (.bool true) ∧ Below w.heap.size w w' :=
  a_Has w v [⟨0, 64⟩] 63 (by decide) hV hrow
theorem a_HasN (w : World) (v : Value) (hV : RowV v 1) (hrow : RowAt w v 2 1 [.int .i64 0, .int .i64 64]) : Calls Try.prog 22 #[v, .int .i64 64] w fun e w' => e = .returned (.bool false) ∧ Below w.heap.size w w' :=
  a_Has w v [⟨0, 64⟩] 64 (by decide) hV hrow
theorem rise_getD {cs : List (Int × Int)} {i j : Nat} (hij : i < j) (hj : j < (rowS cs).length) : ((rowS cs).getD i dS).to < ((rowS cs).getD j dS).fr := by
  have := List.pairwise_iff_getElem.1 (rowQ cs _ (Nat.le_refl _)).rise i j (show i < (rowS cs).length by omega) hj hij
  rw [List.getD_eq_getElem?_getD, List.getD_eq_getElem?_getD, List.getElem?_eq_getElem hj, List.getElem?_eq_getElem (show i < (rowS cs).length by omega)]
  exact this
theorem hasS_hi {l : List SpanT} {B x : Int} (h : ∀ s ∈ l, s.to ≤ B) (hx : B ≤ x) : hasS l x = false := by
  unfold hasS
  rw [List.any_eq_false]
  intro s hs
  have := h s hs
  simp only [Bool.and_eq_true, decide_eq_true_eq]
  omega
theorem sp_mem {l : List SpanT} {i : Nat} (h : i < l.length) : l.getD i dS ∈ l := by
  rw [List.getD_eq_getElem?_getD, List.getElem?_eq_getElem h]; exact List.getElem_mem h
theorem a_shown20  : Ans Try.prog 16 [] (.bool true) := by
  refine ans_of Try.func16 rfl Try.ntmps16 Try.results16 rfl rfl fun w => ?_
  refine v_seq ?_
  refine v_region ?_
  refine l_val rfl (o_assign rfl) ?_
  refine l_nil ?_
  refine kt_norm ?_
  refine v_seq ?_
  refine v_region ?_
  refine l_val rfl (o_build (vs := []) (cs := [_, _]) rfl rfl) ?_
  refine l_val rfl (o_build (vs := [_]) (cs := [_, _]) rfl rfl) ?_
  refine l_val rfl (o_build (vs := [_, _]) (cs := [_, _]) rfl rfl) ?_
  refine l_val rfl (o_build (vs := [_]) (cs := [_, _]) rfl rfl) ?_
  refine l_buildSlice (vs := [_, _, _, _]) (cs := [_, _, _, _, _, _, _, _]) rfl rfl rfl rfl rfl rfl fun v7 hv7 => ?_
  refine l_val rfl (o_build (vs := [_]) (cs := [_, _]) rfl rfl) ?_
  refine l_val rfl (o_build (vs := [_]) (cs := [_, _]) rfl rfl) ?_
  refine l_val rfl (o_build (vs := [_, _]) (cs := [_, _]) rfl rfl) ?_
  refine l_val rfl (o_build (vs := [_, _]) (cs := [_, _]) rfl rfl) ?_
  refine l_buildSlice (vs := [_, _, _, _]) (cs := [_, _, _, _, _, _, _, _]) rfl rfl rfl rfl rfl rfl fun v12 hv12 => ?_
  obtain ⟨a7, c7, rfl⟩ := hv7.sl
  obtain ⟨a12, c12, rfl⟩ := hv12.sl
  refine l_buildSlice (vs := [_, _]) (cs := [_, _]) rfl rfl rfl rfl rfl rfl fun v13 hv13 => ?_
  refine l_val rfl (o_assign rfl) ?_
  refine l_nil ?_
  refine kt_norm ?_
  refine v_sel [1] [7, 12, 13] rfl rfl ?_
  refine v_seq ?_
  refine v_region ?_
  refine l_val rfl (o_move rfl) ?_
  refine l_val rfl (o_build (vs := [_, _]) (cs := [_, _, _, _]) rfl rfl) ?_
  refine l_gown (ks := [7, 12, 13]) (caps := #[]) (vs := [_, _]) rfl rfl (ent_of Try.func43 rfl rfl) rfl (fun w' hg hh => a_Tab20 w' v13 _ _ hv13 hv7 hv12 (rowAt_own (hh 13 (by simp) _ rfl)) (rowAt_own (hh 7 (by simp) _ rfl)) (rowAt_own (hh 12 (by simp) _ rfl))) fun tt htt => ?_
  refine l_gown (ks := [16]) (caps := #[]) (vs := [_, _]) rfl rfl (ent_of Try.func17 rfl rfl) rfl (fun w' hg hh => a_Row20 w' tt htt (rowAt_own (hh 16 (by simp) _ rfl))) fun ys hys => ?_
  refine l_val rfl (o_assign rfl) ?_
  refine l_nil ?_
  refine kt_norm ?_
  refine v_seq ?_
  refine v_region ?_
  refine l_val rfl (o_move rfl) ?_
  refine l_val rfl (o_len rfl hys) ?_
  refine l_val rfl (o_eql rfl rfl) ?_
  refine l_val rfl (o_move rfl) ?_
  refine l_val rfl (o_move rfl) ?_
  refine l_val rfl (o_idx (0) rfl hys rfl (by first | rfl | omega) (by decide)) ?_
  refine l_val rfl (o_loadRE (c' := [_, _]) rfl (row_own (key := 17) rfl) (el_lit (esz := 2) (i := 0) (c := [_, _]) rfl rfl) rfl) ?_
  refine l_val rfl (o_build (vs := [_, _]) (cs := [_, _]) rfl rfl) ?_
  refine l_split rfl (o_eqs (xl := [_, _]) (yl := [_, _]) (az := [_, _]) (bz := [_, _]) rfl rfl rfl rfl rfl rfl) (fun _ => ?_) (fun q2 => absurd rfl q2)
  refine l_val rfl (o_pickT rfl rfl) ?_
  refine l_val rfl (o_move rfl) ?_
  refine l_val rfl (o_move rfl) ?_
  refine l_gown (ks := [17]) (caps := #[]) (vs := [_, _, _]) rfl rfl (ent_of Try.func20 rfl rfl) rfl (fun w' hg hh => a_Clip20 w' ys hys (rowAt_own (hh 17 (by simp) _ rfl))) fun yc hyc => ?_
  refine l_call (ks := [30]) rfl (o_callC (vs := [_]) (r := .int .i64 15) (ent_of Try.func21 rfl rfl) rfl (fun w' hg hh => a_Sum20 w' yc hyc (rowAt_own (hh 30 (by simp) _ rfl)))) ?_
  refine l_val rfl (o_eql rfl rfl) ?_
  refine l_val rfl (o_pickT rfl rfl) ?_
  refine l_val rfl (o_move rfl) ?_
  refine l_val rfl (o_move rfl) ?_
  refine l_call (ks := [17]) rfl (o_callC (vs := [_, _]) (r := .bool true) (ent_of Try.func22 rfl rfl) rfl (fun w' hg hh => a_HasY w' ys hys (rowAt_own (hh 17 (by simp) _ rfl)))) ?_
  refine l_val rfl (o_pickT rfl rfl) ?_
  refine l_val rfl (o_move rfl) ?_
  refine l_val rfl (o_move rfl) ?_
  refine l_call (ks := [17]) rfl (o_callC (vs := [_, _]) (r := .bool false) (ent_of Try.func22 rfl rfl) rfl (fun w' hg hh => a_HasN w' ys hys (rowAt_own (hh 17 (by simp) _ rfl)))) ?_
  refine l_val rfl (o_not rfl rfl) ?_
  refine l_val rfl (o_pickT rfl rfl) ?_
  refine l_val rfl (o_assign rfl) ?_
  refine l_nil ?_
  refine kt_norm ?_
  refine v_sel [0] [7, 12, 13] rfl rfl ?_
  refine v_ret ?_
  refine ⟨[_], .cons (.tmp rfl) (ResAll.nil), ?_⟩
  rfl
theorem a_SpansRise (w : World) (v : Value) (pvs : List Value) (ps : List (List PtT)) (r : Int) (hv : PcsW v pvs ps) (hat : PcsAt w v pvs ps) : Calls Try.prog 3 #[v, .int .i64 r] w fun e w' => e = .returned (.bool true) ∧ Below w.heap.size w w' := by
  have hVp := hv.V
  have hlen := hv.len
  have hrowP : ∀ w', Chg (fun _ => False) w w' → RowAt w' v 1 ps.length pvs := fun w' h => (hat.keep h).row
  refine calls_of (args := [v, .int .i64 r]) Try.func3 rfl Try.ntmps3 Try.results3 rfl ?_
  refine v_seq ?_
  refine v_region ?_
  refine l_val rfl (o_assign rfl) ?_
  refine l_nil ?_
  refine kt_norm ?_
  refine v_seq ?_
  refine v_seq ?_
  refine v_region ?_
  refine l_val rfl (o_move rfl) ?_
  refine l_call (ks := []) rfl (o_callC (vs := [_]) (r := .bool (decide (Bn20 ps))) (ent_of Try.func14 rfl rfl) rfl (fun w' hg hh => a_bounded20 w' _ pvs ps hv (hat.keep hg))) ?_
  refine lz_bool (fun hbb => ?_) (fun hbb => ?_)
  · have hb := hbb.bnd
    have hvp := hb.pcsV hv
    have h320 := edgesAll_len hb
    have hso := all_spOk hb r
    have hsl : (rowS (crs r (liveT r (edgesAll ps)))).length ≤ (edgesAll ps).length := by have h1 := rowS_len (crs r (liveT r (edgesAll ps))); rw [crs_len] at h1; exact Nat.le_trans h1 (List.length_filter_le _ _)
    refine l_val rfl (o_not rfl rfl) ?_
    refine l_val rfl (o_move rfl) ?_
    refine l_val rfl (o_move rfl) ?_
    refine l_ans (vs := [_]) rfl rfl (a_row20 _) ?_
    refine lz_bool (fun q1 => ?_) (fun q1 => ?_)
    · skip
      refine l_val rfl (o_not rfl rfl) ?_
      refine l_val rfl (o_pickF rfl rfl) ?_
      refine l_val rfl (o_move rfl) ?_
      refine l_ans (vs := []) rfl rfl (a_shown20) ?_
      refine l_val rfl (o_not rfl rfl) ?_
      refine l_val rfl (o_pickF rfl rfl) ?_
      refine l_nil ?_
      refine kt_norm ?_
      refine v_sel [0, 1, 18] [] rfl rfl ?_
      refine v_condF rfl ?_
      refine v_skip ?_
      refine kt_norm ?_
      refine v_seq ?_
      refine v_region ?_
      refine l_val rfl (o_move rfl) ?_
      refine l_gown (ks := []) (caps := #[]) (vs := [_]) rfl rfl (ent_of Try.func18 rfl rfl) rfl (fun w' hg hh => a_all w' _ pvs ps hb hvp (hat.keep hg)) fun ya hya => ?_
      refine l_val rfl (o_move rfl) ?_
      refine l_gown (ks := [21]) (caps := #[]) (vs := [_, _]) rfl rfl (ent_of Try.func17 rfl rfl) rfl (fun w' hg hh => a_Spans w' ya (edgesAll ps) r (by omega) hya (rowAt_own (hh 21 (by simp) _ rfl)) (all_cross hb r)) fun ys hys => ?_
      refine l_val rfl (o_assign rfl) ?_
      refine l_nil ?_
      refine kt_norm ?_
      refine v_sel [5] [23] rfl rfl ?_
      refine v_seq ?_
      refine v_seq ?_
      refine v_region ?_
      refine l_val rfl (o_assign rfl) ?_
      refine l_nil ?_
      refine kt_norm ?_
      refine v_block ?_
      refine v_loopS (α := Nat) (fun i => [(6, .int .i64 (i : Int))]) (fun i => [])  (fun i => i ≤ (rowS (crs r (liveT r (edgesAll ps)))).length) (fun i => (rowS (crs r (liveT r (edgesAll ps)))).length - i) 0 [5] [23] (Nat.zero_le _)  (And.intro rfl (True.intro)) rfl (True.intro) rfl ?_
      rintro i hi
      refine v_seq ?_
      refine v_seq ?_
      refine v_region ?_
      refine l_val rfl (o_move rfl) ?_
      refine l_val rfl (o_move rfl) ?_
      refine l_val rfl (o_len rfl hys) ?_
      refine l_split rfl (o_lss rfl rfl) (fun q2 => ?_) (fun q2 => ?_)
      · have hil : i < (rowS (crs r (liveT r (edgesAll ps)))).length := by omega
        have hs1 := rowS_bound (crs_bound (all_cross hb r)) _ (sp_mem hil)
        refine l_nil ?_
        refine kt_norm ?_
        refine v_condT rfl ?_
        refine v_skip ?_
        refine kt_norm ?_
        refine v_seq ?_
        refine v_block ?_
        refine v_seq ?_
        refine v_drawZ [[], [], [], [], [23], [], [], [], [], [23], [], [], [], [], [], [], [], [], [], [23], [], [], [], [], [], [23], [], [], []] mixed ?_ (by kernel_rfl) (by kernel_rfl)
        refine d_val (fun _ => rfl) rfl rfl (fun _ => o_move rfl) ?_
        refine d_val (fun _ => rfl) rfl rfl (fun _ => o_move rfl) ?_
        refine d_val (fun _ => rfl) rfl rfl (fun _ => o_idx (i) rfl hys rfl (by first | rfl | omega) (by omega)) ?_
        refine d_val (fun _ => rfl) rfl rfl (fun _ => o_fld rfl) ?_
        refine d_val (fun _ => rfl) rfl rfl (fun _ => o_loadRF (f := 0) rfl (row_own (key := 23) rfl) (el_flat eS_len dS (rowS (crs r (liveT r (edgesAll ps)))) (i) (by omega)) rfl) ?_
        refine d_val (fun _ => rfl) rfl rfl (fun _ => o_move rfl) ?_
        refine d_val (fun _ => rfl) rfl rfl (fun _ => o_move rfl) ?_
        refine d_val (fun _ => rfl) rfl rfl (fun _ => o_idx (i) rfl hys rfl (by first | rfl | omega) (by omega)) ?_
        refine d_val (fun _ => rfl) rfl rfl (fun _ => o_fld rfl) ?_
        refine d_val (fun _ => rfl) rfl rfl (fun _ => o_loadRF (f := 1) rfl (row_own (key := 23) rfl) (el_flat eS_len dS (rowS (crs r (liveT r (edgesAll ps)))) (i) (by omega)) rfl) ?_
        refine d_geq (fun _ => rfl) (fun _ => rfl) (fun _ => rfl) (fun q3 => absurd q3 (by omega)) (fun q3 => ?_)
        refine d_val (fun _ => rfl) rfl rfl (fun _ => o_move rfl) ?_
        refine d_val (fun _ => rfl) rfl rfl (fun _ => o_move rfl) ?_
        refine d_gtr (fun _ => rfl) (fun _ => rfl) (fun _ => rfl) (fun q4 => ?_) (fun q4 => ?_)
        · skip
          refine d_val (fun _ => rfl) rfl rfl (fun _ => o_move rfl) ?_
          have hri := rise_getD (cs := crs r (liveT r (edgesAll ps))) (i := i - 1) (j := i) (by omega) hil
          refine d_val (fun _ => rfl) rfl rfl (fun _ => o_move rfl) ?_
          refine d_val (fun _ => rfl) rfl rfl (fun _ => o_move rfl) ?_
          refine d_val (fun _ => rfl) rfl rfl (fun _ => o_idx (i) rfl hys rfl (by first | rfl | omega) (by omega)) ?_
          refine d_val (fun _ => rfl) rfl rfl (fun _ => o_fld rfl) ?_
          refine d_val (fun _ => rfl) rfl rfl (fun _ => o_loadRF (f := 0) rfl (row_own (key := 23) rfl) (el_flat eS_len dS (rowS (crs r (liveT r (edgesAll ps)))) (i) (by omega)) rfl) ?_
          refine d_val (fun _ => rfl) rfl rfl (fun _ => o_move rfl) ?_
          refine d_val (fun _ => rfl) rfl rfl (fun _ => o_move rfl) ?_
          refine d_val (fun _ => rfl) rfl rfl (fun _ => o_subi rfl rfl ?_) ?_
          · omega
          refine d_val (fun _ => rfl) rfl rfl (fun _ => o_idx (i - 1) rfl hys rfl (by first | rfl | omega) (by omega)) ?_
          refine d_val (fun _ => rfl) rfl rfl (fun _ => o_fld rfl) ?_
          refine d_val (fun _ => rfl) rfl rfl (fun _ => o_loadRF (f := 1) rfl (row_own (key := 23) rfl) (el_flat eS_len dS (rowS (crs r (liveT r (edgesAll ps)))) (i - 1) (by omega)) rfl) ?_
          refine d_leq (fun _ => rfl) (fun _ => rfl) (fun _ => rfl) (fun q5 => absurd q5 (by omega)) (fun q5 => ?_)
          refine d_val (fun _ => rfl) rfl rfl (fun _ => o_pickT rfl rfl) ?_
          refine d_val (fun _ => rfl) rfl rfl (fun _ => o_pickF rfl rfl) ?_
          refine d_nil (fun σ => ?_)
          refine l_nil ?_
          refine kt_norm ?_
          refine v_sel [6, 5, 42, 43, 44, 45, 46, 47, 48, 49, 50, 51, 52, 53, 54, 55, 56, 57, 58] [23] rfl rfl ?_
          refine v_condF rfl ?_
          refine v_skip ?_
          refine kb_norm ?_
          refine kt_norm ?_
          refine v_region ?_
          refine l_val rfl (o_move rfl) ?_
          refine l_val rfl (o_addi rfl rfl ?_) ?_
          · omega
          refine l_val rfl (o_assign rfl) ?_
          refine l_nil ?_
          refine kt_norm ?_
          refine ⟨i + 1, hil, by omega, le_app (And.intro rfl (True.intro)) [5] rfl (True.intro) [23] rfl⟩
        · skip
          refine d_val (fun _ => rfl) rfl rfl (fun _ => o_move rfl) ?_
          skip
          refine d_no (fun _ => rfl) ?_
          refine d_no (fun _ => rfl) ?_
          refine d_no (fun _ => rfl) ?_
          refine d_no (fun _ => rfl) ?_
          refine d_no (fun _ => rfl) ?_
          refine d_no (fun _ => rfl) ?_
          refine d_no (fun _ => rfl) ?_
          refine d_no (fun _ => rfl) ?_
          refine d_no (fun _ => rfl) ?_
          refine d_no (fun _ => rfl) ?_
          refine d_no (fun _ => rfl) ?_
          refine d_no (fun _ => rfl) ?_
          refine d_val (fun _ => rfl) rfl rfl (fun _ => o_pickF rfl rfl) ?_
          refine d_val (fun _ => rfl) rfl rfl (fun _ => o_pickF rfl rfl) ?_
          refine d_nil (fun σ => ?_)
          refine l_nil ?_
          refine kt_norm ?_
          refine v_sel [6, 5, 42, 43, 44, 45, 46, 47, 48, 49, 50, 51, 52, 53, 54, 55, 56, 57, 58] [23] rfl rfl ?_
          refine v_condF rfl ?_
          refine v_skip ?_
          refine kb_norm ?_
          refine kt_norm ?_
          refine v_region ?_
          refine l_val rfl (o_move rfl) ?_
          refine l_val rfl (o_addi rfl rfl ?_) ?_
          · omega
          refine l_val rfl (o_assign rfl) ?_
          refine l_nil ?_
          refine kt_norm ?_
          refine ⟨i + 1, hil, by omega, le_app (And.intro rfl (True.intro)) [5] rfl (True.intro) [23] rfl⟩
      · skip
        refine l_nil ?_
        refine kt_norm ?_
        refine v_condF rfl ?_
        refine v_exit ?_
        refine kt_exit ?_
        refine kt_exit ?_
        refine kb_eq ?_
        refine kt_norm ?_
        refine v_sel [] [] rfl rfl ?_
        refine v_seq ?_
        refine v_region ?_
        refine l_val rfl (o_assign rfl) ?_
        refine l_nil ?_
        refine kt_norm ?_
        refine v_ret ?_
        refine ⟨[_], .cons (.tmp rfl) (ResAll.nil), ?_⟩
        rfl
    · skip
      refine l_val rfl (o_not rfl rfl) ?_
      refine l_val rfl (o_pickF rfl rfl) ?_
      refine l_val rfl (o_move rfl) ?_
      refine l_no rfl ?_
      refine l_no rfl ?_
      refine l_val rfl (o_pickT rfl rfl) ?_
      refine l_nil ?_
      refine kt_norm ?_
      refine v_sel [0, 1, 18] [] rfl rfl ?_
      refine v_condT rfl ?_
      refine v_seq ?_
      refine v_region ?_
      refine l_ans (vs := []) rfl rfl (a_shown20) ?_
      refine l_val rfl (o_assign rfl) ?_
      refine l_nil ?_
      refine kt_norm ?_
      refine v_ret ?_
      refine kt_ret ?_
      refine ⟨[_], .cons (.tmp rfl) (ResAll.nil), ?_⟩
      rfl
  · skip
    refine l_val rfl (o_not rfl rfl) ?_
    refine l_val rfl (o_move rfl) ?_
    refine l_no rfl ?_
    refine l_no rfl ?_
    refine l_no rfl ?_
    refine l_val rfl (o_pickT rfl rfl) ?_
    refine l_val rfl (o_move rfl) ?_
    refine l_no rfl ?_
    refine l_no rfl ?_
    refine l_val rfl (o_pickT rfl rfl) ?_
    refine l_nil ?_
    refine kt_norm ?_
    refine v_sel [0, 1, 18] [] rfl rfl ?_
    refine v_condT rfl ?_
    refine v_seq ?_
    refine v_region ?_
    refine l_ans (vs := []) rfl rfl (a_shown20) ?_
    refine l_val rfl (o_assign rfl) ?_
    refine l_nil ?_
    refine kt_norm ?_
    refine v_ret ?_
    refine kt_ret ?_
    refine ⟨[_], .cons (.tmp rfl) (ResAll.nil), ?_⟩
    rfl
set_option maxHeartbeats 1000000 in
theorem a_SpansClip (w : World) (v : Value) (pvs : List Value) (ps : List (List PtT)) (r at_ x : Int) (hv : PcsW v pvs ps) (hat : PcsAt w v pvs ps) : Calls Try.prog 4 #[v, .int .i64 r, .int .i64 at_, .int .i64 x] w fun e w' => e = .returned (.bool true) ∧ Below w.heap.size w w' := by
  have hVp := hv.V
  have hlen := hv.len
  have hrowP : ∀ w', Chg (fun _ => False) w w' → RowAt w' v 1 ps.length pvs := fun w' h => (hat.keep h).row
  refine calls_of (args := [v, .int .i64 r, .int .i64 at_, .int .i64 x]) Try.func4 rfl Try.ntmps4 Try.results4 rfl ?_
  refine v_seq ?_
  refine v_region ?_
  refine l_val rfl (o_assign rfl) ?_
  refine l_nil ?_
  refine kt_norm ?_
  refine v_seq ?_
  refine v_seq ?_
  refine v_region ?_
  refine l_val rfl (o_move rfl) ?_
  refine l_call (ks := []) rfl (o_callC (vs := [_]) (r := .bool (decide (Bn20 ps))) (ent_of Try.func14 rfl rfl) rfl (fun w' hg hh => a_bounded20 w' _ pvs ps hv (hat.keep hg))) ?_
  refine lz_bool (fun hbb => ?_) (fun hbb => ?_)
  · have hb := hbb.bnd
    have hvp := hb.pcsV hv
    have h320 := edgesAll_len hb
    have hso := all_spOk hb r
    have hsl : (rowS (crs r (liveT r (edgesAll ps)))).length ≤ (edgesAll ps).length := by have h1 := rowS_len (crs r (liveT r (edgesAll ps))); rw [crs_len] at h1; exact Nat.le_trans h1 (List.length_filter_le _ _)
    refine l_val rfl (o_not rfl rfl) ?_
    refine l_val rfl (o_move rfl) ?_
    refine l_val rfl (o_move rfl) ?_
    refine l_ans (vs := [_]) rfl rfl (a_row20 _) ?_
    refine lz_bool (fun q1 => ?_) (fun q1 => ?_)
    · skip
      refine l_val rfl (o_not rfl rfl) ?_
      refine l_val rfl (o_pickF rfl rfl) ?_
      refine l_val rfl (o_move rfl) ?_
      refine l_val rfl (o_move rfl) ?_
      refine l_ans (vs := [_]) rfl rfl (a_far _) ?_
      refine lz_bool (fun hfa => ?_) (fun hfa => ?_)
      · skip
        refine l_val rfl (o_pickF rfl rfl) ?_
        refine l_val rfl (o_move rfl) ?_
        refine l_no rfl ?_
        refine l_no rfl ?_
        refine l_val rfl (o_pickT rfl rfl) ?_
        refine l_val rfl (o_move rfl) ?_
        refine l_no rfl ?_
        refine l_no rfl ?_
        refine l_val rfl (o_pickT rfl rfl) ?_
        refine l_nil ?_
        refine kt_norm ?_
        refine v_sel [0, 1, 2, 3, 31] [] rfl rfl ?_
        refine v_condT rfl ?_
        refine v_seq ?_
        refine v_region ?_
        refine l_ans (vs := []) rfl rfl (a_shown20) ?_
        refine l_val rfl (o_assign rfl) ?_
        refine l_nil ?_
        refine kt_norm ?_
        refine v_sel [8] [] rfl rfl ?_
        refine v_ret ?_
        refine kt_ret ?_
        refine ⟨[_], .cons (.tmp rfl) (ResAll.nil), ?_⟩
        rfl
      · skip
        refine l_val rfl (o_pickF rfl rfl) ?_
        refine l_val rfl (o_move rfl) ?_
        refine l_val rfl (o_move rfl) ?_
        refine l_ans (vs := [_]) rfl rfl (a_far _) ?_
        refine lz_bool (fun hfx => ?_) (fun hfx => ?_)
        · skip
          refine l_val rfl (o_pickF rfl rfl) ?_
          refine l_val rfl (o_move rfl) ?_
          refine l_no rfl ?_
          refine l_no rfl ?_
          refine l_val rfl (o_pickT rfl rfl) ?_
          refine l_nil ?_
          refine kt_norm ?_
          refine v_sel [0, 1, 2, 3, 31] [] rfl rfl ?_
          refine v_condT rfl ?_
          refine v_seq ?_
          refine v_region ?_
          refine l_ans (vs := []) rfl rfl (a_shown20) ?_
          refine l_val rfl (o_assign rfl) ?_
          refine l_nil ?_
          refine kt_norm ?_
          refine v_sel [8] [] rfl rfl ?_
          refine v_ret ?_
          refine kt_ret ?_
          refine ⟨[_], .cons (.tmp rfl) (ResAll.nil), ?_⟩
          rfl
        · skip
          refine l_val rfl (o_pickF rfl rfl) ?_
          refine l_val rfl (o_move rfl) ?_
          refine l_ans (vs := []) rfl rfl (a_shown20) ?_
          refine l_val rfl (o_not rfl rfl) ?_
          refine l_val rfl (o_pickF rfl rfl) ?_
          refine l_nil ?_
          refine kt_norm ?_
          refine v_sel [0, 1, 2, 3, 31] [] rfl rfl ?_
          refine v_condF rfl ?_
          refine v_skip ?_
          refine kt_norm ?_
          refine v_seq ?_
          refine v_region ?_
          refine l_val rfl (o_move rfl) ?_
          refine l_gown (ks := []) (caps := #[]) (vs := [_]) rfl rfl (ent_of Try.func18 rfl rfl) rfl (fun w' hg hh => a_all w' _ pvs ps hb hvp (hat.keep hg)) fun ya hya => ?_
          refine l_val rfl (o_move rfl) ?_
          refine l_gown (ks := [34]) (caps := #[]) (vs := [_, _]) rfl rfl (ent_of Try.func17 rfl rfl) rfl (fun w' hg hh => a_Spans w' ya (edgesAll ps) r (by omega) hya (rowAt_own (hh 34 (by simp) _ rfl)) (all_cross hb r)) fun ys hys => ?_
          refine l_val rfl (o_assign rfl) ?_
          refine l_nil ?_
          refine kt_norm ?_
          refine v_sel [2, 3, 9] [36] rfl rfl ?_
          refine v_seq ?_
          refine v_region ?_
          refine l_val rfl (o_move rfl) ?_
          refine l_val rfl (o_move rfl) ?_
          refine l_gown (ks := [36]) (caps := #[]) (vs := [_, _, _]) rfl rfl (ent_of Try.func20 rfl rfl) rfl (fun w' hg hh => a_Clip w' ys (rowS (crs r (liveT r (edgesAll ps)))) (-1099511627776) at_ (by omega) hys (rowAt_own (hh 36 (by simp) _ rfl))) fun y1 hy1 => ?_
          refine l_val rfl (o_assign rfl) ?_
          refine l_nil ?_
          refine kt_norm ?_
          refine v_seq ?_
          refine v_region ?_
          have hl1 := clipT_len (-1099511627776) at_ (rowS (crs r (liveT r (edgesAll ps))))
          have hl2 := clipT_len at_ 1099511627776 (rowS (crs r (liveT r (edgesAll ps))))
          refine l_val rfl (o_move rfl) ?_
          refine l_val rfl (o_move rfl) ?_
          refine l_gown (ks := [36]) (caps := #[]) (vs := [_, _, _]) rfl rfl (ent_of Try.func20 rfl rfl) rfl (fun w' hg hh => a_Clip w' ys (rowS (crs r (liveT r (edgesAll ps)))) at_ 1099511627776 (by omega) hys (rowAt_own (hh 36 (by simp) _ rfl))) fun y2 hy2 => ?_
          refine l_val rfl (o_assign rfl) ?_
          refine l_nil ?_
          refine kt_norm ?_
          refine v_sel [2, 3, 9, 10, 11] [36, 39, 42] rfl rfl ?_
          refine v_seq ?_
          refine v_region ?_
          have hs1 := sumS_ok (spOk_clip hso (-1099511627776) at_)
          have hs2 := sumS_ok (spOk_clip hso at_ 1099511627776)
          have hs3 := sumS_ok hso
          have hspl := sumS_split (lo := -1099511627776) (at_ := at_) (hi := 1099511627776) (l := (rowS (crs r (liveT r (edgesAll ps))))) (fun s hs => by have := rowS_bound (crs_bound (all_cross hb r)) s hs; omega)
          obtain ⟨bs, hbs⟩ : ∃ b, hasS (rowS (crs r (liveT r (edgesAll ps)))) x = b := ⟨_, rfl⟩
          have hA : hasS (clipT (-1099511627776) at_ (rowS (crs r (liveT r (edgesAll ps))))) x = (bs && decide (x < at_)) := by rw [hasS_clip, hbs, decide_eq_true (show -1099511627776 ≤ x by omega), Bool.true_and]
          have hB : hasS (clipT at_ 1099511627776 (rowS (crs r (liveT r (edgesAll ps))))) x = (bs && decide (at_ ≤ x)) := by
            by_cases hxx : x < 1099511627776
            · rw [hasS_clip, hbs, decide_eq_true hxx, Bool.and_true]
            · have hfar := hasS_hi (l := (rowS (crs r (liveT r (edgesAll ps))))) (B := 1073741824) (x := x) (fun s hs => (rowS_bound (crs_bound (all_cross hb r)) s hs).2.2) (by omega)
              rw [hasS_clip, hfar, ← hbs, hfar]; rfl
          refine l_val rfl (o_move rfl) ?_
          refine l_call (ks := [39]) rfl (o_callC (vs := [_]) (r := .int .i64 (sumS (clipT (-1099511627776) at_ (rowS (crs r (liveT r (edgesAll ps))))))) (ent_of Try.func21 rfl rfl) rfl (fun w' hg hh => a_Sum w' y1 (clipT (-1099511627776) at_ (rowS (crs r (liveT r (edgesAll ps))))) (by omega) (spOk_clip hso _ _) hy1 (rowAt_own (hh 39 (by simp) _ rfl)))) ?_
          refine l_val rfl (o_move rfl) ?_
          refine l_call (ks := [42]) rfl (o_callC (vs := [_]) (r := .int .i64 (sumS (clipT at_ 1099511627776 (rowS (crs r (liveT r (edgesAll ps))))))) (ent_of Try.func21 rfl rfl) rfl (fun w' hg hh => a_Sum w' y2 (clipT at_ 1099511627776 (rowS (crs r (liveT r (edgesAll ps))))) (by omega) (spOk_clip hso _ _) hy2 (rowAt_own (hh 42 (by simp) _ rfl)))) ?_
          refine l_val rfl (o_addi rfl rfl ?_) ?_
          · omega
          refine l_val rfl (o_move rfl) ?_
          refine l_call (ks := [36]) rfl (o_callC (vs := [_]) (r := .int .i64 (sumS (rowS (crs r (liveT r (edgesAll ps)))))) (ent_of Try.func21 rfl rfl) rfl (fun w' hg hh => a_Sum w' ys (rowS (crs r (liveT r (edgesAll ps)))) (by omega) hso hys (rowAt_own (hh 36 (by simp) _ rfl)))) ?_
          refine l_split rfl (o_eql rfl rfl) (fun q2 => ?_) (fun q2 => absurd (show _ by omega) q2)
          refine l_val rfl (o_move rfl) ?_
          refine l_val rfl (o_move rfl) ?_
          refine l_val rfl (o_move rfl) ?_
          refine l_call (ks := [39]) rfl (o_callC (vs := [_, _]) (r := .bool (bs && decide (x < at_))) (ent_of Try.func22 rfl rfl) rfl (fun w' hg hh => hA ▸ a_Has w' y1 (clipT (-1099511627776) at_ (rowS (crs r (liveT r (edgesAll ps))))) x (by omega) hy1 (rowAt_own (hh 39 (by simp) _ rfl)))) ?_
          refine l_val rfl (o_move rfl) ?_
          refine l_val rfl (o_move rfl) ?_
          refine l_call (ks := [36]) rfl (o_callC (vs := [_, _]) (r := .bool bs) (ent_of Try.func22 rfl rfl) rfl (fun w' hg hh => hbs ▸ a_Has w' ys (rowS (crs r (liveT r (edgesAll ps)))) x (by omega) hys (rowAt_own (hh 36 (by simp) _ rfl)))) ?_
          refine lz_cases (fun h614 => ?_) (fun h614 => ?_)
          · skip
            refine l_val rfl (o_move rfl) ?_
            refine l_val rfl (o_move rfl) ?_
            refine l_val rfl (o_move rfl) ?_
            refine l_split rfl (o_lss rfl rfl) (fun h618 => ?_) (fun h618 => ?_)
            · skip
              refine l_val rfl (o_pickT rfl rfl) ?_
              refine l_val rfl (o_eqlb rfl rfl rfl) ?_
              refine lz_cases (fun h620 => ?_) (fun h620 => ?_)
              · skip
                refine l_val rfl (o_pickT rfl rfl) ?_
                refine l_val rfl (o_move rfl) ?_
                refine l_val rfl (o_move rfl) ?_
                refine l_val rfl (o_move rfl) ?_
                refine l_call (ks := [42]) rfl (o_callC (vs := [_, _]) (r := .bool (bs && decide (at_ ≤ x))) (ent_of Try.func22 rfl rfl) rfl (fun w' hg hh => hB ▸ a_Has w' y2 (clipT at_ 1099511627776 (rowS (crs r (liveT r (edgesAll ps))))) x (by omega) hy2 (rowAt_own (hh 42 (by simp) _ rfl)))) ?_
                refine l_val rfl (o_move rfl) ?_
                refine l_val rfl (o_move rfl) ?_
                refine l_call (ks := [36]) rfl (o_callC (vs := [_, _]) (r := .bool bs) (ent_of Try.func22 rfl rfl) rfl (fun w' hg hh => hbs ▸ a_Has w' ys (rowS (crs r (liveT r (edgesAll ps)))) x (by omega) hys (rowAt_own (hh 36 (by simp) _ rfl)))) ?_
                refine lz_cases (fun h628 => ?_) (fun h628 => ?_)
                · skip
                  refine l_val rfl (o_move rfl) ?_
                  refine l_val rfl (o_move rfl) ?_
                  refine l_val rfl (o_move rfl) ?_
                  refine l_split rfl (o_geq rfl rfl) (fun h632 => ?_) (fun h632 => ?_)
                  · skip
                    refine l_val rfl (o_pickT rfl rfl) ?_
                    refine l_val rfl (o_eqlb rfl rfl rfl) ?_
                    refine lz_cases (fun h634 => ?_) (fun h634 => ?_)
                    · skip
                      refine l_val rfl (o_pickT rfl rfl) ?_
                      refine l_val rfl (o_assign rfl) ?_
                      refine l_nil ?_
                      refine kt_norm ?_
                      refine v_sel [8] [] rfl rfl ?_
                      refine v_ret ?_
                      refine ⟨[_], .cons (.tmp rfl) (ResAll.nil), ?_⟩
                      rfl
                    · exfalso; revert h634; rw [h614]; first | (simp; done) | (simp [h632]; done)
                  · skip
                    refine l_val rfl (o_pickT rfl rfl) ?_
                    refine l_val rfl (o_eqlb rfl rfl rfl) ?_
                    refine lz_cases (fun h634 => ?_) (fun h634 => ?_)
                    · skip
                      refine l_val rfl (o_pickT rfl rfl) ?_
                      refine l_val rfl (o_assign rfl) ?_
                      refine l_nil ?_
                      refine kt_norm ?_
                      refine v_sel [8] [] rfl rfl ?_
                      refine v_ret ?_
                      refine ⟨[_], .cons (.tmp rfl) (ResAll.nil), ?_⟩
                      rfl
                    · exfalso; revert h634; rw [h614]; first | (simp; done) | (simp [h632]; done)
                · exfalso; rw [h614] at h628; cases h628
              · exfalso; revert h620; rw [h614]; first | (simp; done) | (simp [h618]; done)
            · skip
              refine l_val rfl (o_pickT rfl rfl) ?_
              refine l_val rfl (o_eqlb rfl rfl rfl) ?_
              refine lz_cases (fun h620 => ?_) (fun h620 => ?_)
              · skip
                refine l_val rfl (o_pickT rfl rfl) ?_
                refine l_val rfl (o_move rfl) ?_
                refine l_val rfl (o_move rfl) ?_
                refine l_val rfl (o_move rfl) ?_
                refine l_call (ks := [42]) rfl (o_callC (vs := [_, _]) (r := .bool (bs && decide (at_ ≤ x))) (ent_of Try.func22 rfl rfl) rfl (fun w' hg hh => hB ▸ a_Has w' y2 (clipT at_ 1099511627776 (rowS (crs r (liveT r (edgesAll ps))))) x (by omega) hy2 (rowAt_own (hh 42 (by simp) _ rfl)))) ?_
                refine l_val rfl (o_move rfl) ?_
                refine l_val rfl (o_move rfl) ?_
                refine l_call (ks := [36]) rfl (o_callC (vs := [_, _]) (r := .bool bs) (ent_of Try.func22 rfl rfl) rfl (fun w' hg hh => hbs ▸ a_Has w' ys (rowS (crs r (liveT r (edgesAll ps)))) x (by omega) hys (rowAt_own (hh 36 (by simp) _ rfl)))) ?_
                refine lz_cases (fun h628 => ?_) (fun h628 => ?_)
                · skip
                  refine l_val rfl (o_move rfl) ?_
                  refine l_val rfl (o_move rfl) ?_
                  refine l_val rfl (o_move rfl) ?_
                  refine l_split rfl (o_geq rfl rfl) (fun h632 => ?_) (fun h632 => ?_)
                  · skip
                    refine l_val rfl (o_pickT rfl rfl) ?_
                    refine l_val rfl (o_eqlb rfl rfl rfl) ?_
                    refine lz_cases (fun h634 => ?_) (fun h634 => ?_)
                    · skip
                      refine l_val rfl (o_pickT rfl rfl) ?_
                      refine l_val rfl (o_assign rfl) ?_
                      refine l_nil ?_
                      refine kt_norm ?_
                      refine v_sel [8] [] rfl rfl ?_
                      refine v_ret ?_
                      refine ⟨[_], .cons (.tmp rfl) (ResAll.nil), ?_⟩
                      rfl
                    · exfalso; revert h634; rw [h614]; first | (simp; done) | (simp [h632]; done)
                  · skip
                    refine l_val rfl (o_pickT rfl rfl) ?_
                    refine l_val rfl (o_eqlb rfl rfl rfl) ?_
                    refine lz_cases (fun h634 => ?_) (fun h634 => ?_)
                    · skip
                      refine l_val rfl (o_pickT rfl rfl) ?_
                      refine l_val rfl (o_assign rfl) ?_
                      refine l_nil ?_
                      refine kt_norm ?_
                      refine v_sel [8] [] rfl rfl ?_
                      refine v_ret ?_
                      refine ⟨[_], .cons (.tmp rfl) (ResAll.nil), ?_⟩
                      rfl
                    · exfalso; revert h634; rw [h614]; first | (simp; done) | (simp [h632]; done)
                · exfalso; rw [h614] at h628; cases h628
              · exfalso; revert h620; rw [h614]; first | (simp; done) | (simp [h618]; done)
          · skip
            refine l_val rfl (o_move rfl) ?_
            refine l_no rfl ?_
            refine l_no rfl ?_
            refine l_no rfl ?_
            refine l_val rfl (o_pickF rfl rfl) ?_
            refine l_val rfl (o_eqlb rfl rfl rfl) ?_
            refine lz_cases (fun h620 => ?_) (fun h620 => ?_)
            · skip
              refine l_val rfl (o_pickT rfl rfl) ?_
              refine l_val rfl (o_move rfl) ?_
              refine l_val rfl (o_move rfl) ?_
              refine l_val rfl (o_move rfl) ?_
              refine l_call (ks := [42]) rfl (o_callC (vs := [_, _]) (r := .bool (bs && decide (at_ ≤ x))) (ent_of Try.func22 rfl rfl) rfl (fun w' hg hh => hB ▸ a_Has w' y2 (clipT at_ 1099511627776 (rowS (crs r (liveT r (edgesAll ps))))) x (by omega) hy2 (rowAt_own (hh 42 (by simp) _ rfl)))) ?_
              refine l_val rfl (o_move rfl) ?_
              refine l_val rfl (o_move rfl) ?_
              refine l_call (ks := [36]) rfl (o_callC (vs := [_, _]) (r := .bool bs) (ent_of Try.func22 rfl rfl) rfl (fun w' hg hh => hbs ▸ a_Has w' ys (rowS (crs r (liveT r (edgesAll ps)))) x (by omega) hys (rowAt_own (hh 36 (by simp) _ rfl)))) ?_
              refine lz_cases (fun h628 => ?_) (fun h628 => ?_)
              · exfalso; rw [h614] at h628; cases h628
              · skip
                refine l_val rfl (o_move rfl) ?_
                refine l_no rfl ?_
                refine l_no rfl ?_
                refine l_no rfl ?_
                refine l_val rfl (o_pickF rfl rfl) ?_
                refine l_val rfl (o_eqlb rfl rfl rfl) ?_
                refine lz_cases (fun h634 => ?_) (fun h634 => ?_)
                · skip
                  refine l_val rfl (o_pickT rfl rfl) ?_
                  refine l_val rfl (o_assign rfl) ?_
                  refine l_nil ?_
                  refine kt_norm ?_
                  refine v_sel [8] [] rfl rfl ?_
                  refine v_ret ?_
                  refine ⟨[_], .cons (.tmp rfl) (ResAll.nil), ?_⟩
                  rfl
                · exfalso; revert h634; rw [h614]; first | (simp; done) | (simp [h632]; done)
            · exfalso; revert h620; rw [h614]; first | (simp; done) | (simp [h618]; done)
    · skip
      refine l_val rfl (o_not rfl rfl) ?_
      refine l_val rfl (o_pickF rfl rfl) ?_
      refine l_val rfl (o_move rfl) ?_
      refine l_no rfl ?_
      refine l_no rfl ?_
      refine l_val rfl (o_pickT rfl rfl) ?_
      refine l_val rfl (o_move rfl) ?_
      refine l_no rfl ?_
      refine l_no rfl ?_
      refine l_val rfl (o_pickT rfl rfl) ?_
      refine l_val rfl (o_move rfl) ?_
      refine l_no rfl ?_
      refine l_no rfl ?_
      refine l_val rfl (o_pickT rfl rfl) ?_
      refine l_nil ?_
      refine kt_norm ?_
      refine v_sel [0, 1, 2, 3, 31] [] rfl rfl ?_
      refine v_condT rfl ?_
      refine v_seq ?_
      refine v_region ?_
      refine l_ans (vs := []) rfl rfl (a_shown20) ?_
      refine l_val rfl (o_assign rfl) ?_
      refine l_nil ?_
      refine kt_norm ?_
      refine v_sel [8] [] rfl rfl ?_
      refine v_ret ?_
      refine kt_ret ?_
      refine ⟨[_], .cons (.tmp rfl) (ResAll.nil), ?_⟩
      rfl
  · skip
    refine l_val rfl (o_not rfl rfl) ?_
    refine l_val rfl (o_move rfl) ?_
    refine l_no rfl ?_
    refine l_no rfl ?_
    refine l_no rfl ?_
    refine l_val rfl (o_pickT rfl rfl) ?_
    refine l_val rfl (o_move rfl) ?_
    refine l_no rfl ?_
    refine l_no rfl ?_
    refine l_val rfl (o_pickT rfl rfl) ?_
    refine l_val rfl (o_move rfl) ?_
    refine l_no rfl ?_
    refine l_no rfl ?_
    refine l_val rfl (o_pickT rfl rfl) ?_
    refine l_val rfl (o_move rfl) ?_
    refine l_no rfl ?_
    refine l_no rfl ?_
    refine l_val rfl (o_pickT rfl rfl) ?_
    refine l_nil ?_
    refine kt_norm ?_
    refine v_sel [0, 1, 2, 3, 31] [] rfl rfl ?_
    refine v_condT rfl ?_
    refine v_seq ?_
    refine v_region ?_
    refine l_ans (vs := []) rfl rfl (a_shown20) ?_
    refine l_val rfl (o_assign rfl) ?_
    refine l_nil ?_
    refine kt_norm ?_
    refine v_sel [8] [] rfl rfl ?_
    refine v_ret ?_
    refine kt_ret ?_
    refine ⟨[_], .cons (.tmp rfl) (ResAll.nil), ?_⟩
    rfl
end Go.Proofs.Ytaijclimdfchfaa
