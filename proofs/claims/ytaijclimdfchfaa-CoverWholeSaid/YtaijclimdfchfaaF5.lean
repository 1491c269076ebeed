import Derived.Test.YtaijclimdfchfaaF4
/- Pieces that are shifted by whole pixels have shifted spans. Conditions: none. -/
namespace Go.Proofs.Ytaijclimdfchfaa
open Go.Proofs Go.RowKit Go.Shelf

def shPs (bx by_ : Int) (ps : List (List PtT)) : List (List PtT) := ps.map fun pc => pc.map (shP bx by_)
theorem shPs_getD {bx by_ : Int} {ps : List (List PtT)} {i : Nat} (h : i < ps.length) : (shPs bx by_ ps).getD i [] = (ps.getD i []).map (shP bx by_) := by
  unfold shPs
  rw [List.getD_eq_getElem?_getD, List.getD_eq_getElem?_getD, List.getElem?_map, List.getElem?_eq_getElem h]; rfl
theorem edgesAll_shift (bx d : Int) : ∀ ps : List (List PtT), edgesAll (shPs bx (256 * d) ps) = (edgesAll ps).map (shE bx d)
  | [] => rfl
  | pc :: r => by
    have ih := edgesAll_shift bx d r
    simp only [shPs, edgesAll, List.map_cons, List.flatMap_cons, List.map_append] at ih ⊢
    rw [edgesOf_shift, ih]
theorem live_shift (bx d r : Int) : ∀ es : List EdgeT, liveT (r + 16 * d) (es.map (shE bx d)) = (liveT r es).map (shE bx d)
  | [] => rfl
  | e :: es => by
    have ih := live_shift bx d r es
    unfold liveT at ih ⊢
    rw [List.map_cons]
    by_cases h : r < e.fr ∨ r ≥ e.to
    · rw [List.filter_cons_of_neg (by simp [shE]; omega), List.filter_cons_of_neg (by simp; omega), ih]
    · rw [List.filter_cons_of_pos (by simp [shE]; omega), List.filter_cons_of_pos (by simp; omega), List.map_cons, ih]
theorem crs_shift (bx d r : Int) (es : List EdgeT) : crs (r + 16 * d) (es.map (shE bx d)) = (crs r es).map (shC bx) := by
  unfold crs
  rw [List.map_map, List.map_map]
  refine List.map_congr_left fun e _ => ?_
  simp only [Function.comp, at_shift, shC]
  rfl
theorem row_shift (bx d r : Int) (ps : List (List PtT)) : rowS (crs (r + 16 * d) (liveT (r + 16 * d) (edgesAll (shPs bx (256 * d) ps)))) = (rowS (crs r (liveT r (edgesAll ps)))).map (shS bx) := by
  rw [edgesAll_shift, live_shift, crs_shift, rowS_sh]
theorem sp_map {bx : Int} {l : List SpanT} {i : Nat} (h : i < l.length) : (l.map (shS bx)).getD i dS = shS bx (l.getD i dS) := by
  rw [List.getD_eq_getElem?_getD, List.getD_eq_getElem?_getD, List.getElem?_map, List.getElem?_eq_getElem h]; rfl
theorem shp_snoc {bx by_ : Int} {pc : List PtT} {i : Nat} (hi : i < pc.length) : ((pc.take i).map (shP bx by_)).flatMap eP ++ [.int .i64 ((pc.getD i dP).x + bx), .int .i64 ((pc.getD i dP).y + by_)] = ((pc.take (i + 1)).map (shP bx by_)).flatMap eP := by
  rw [List.take_add_one, List.map_append, List.flatMap_append, List.getElem?_eq_getElem hi, List.getD_eq_getElem?_getD, List.getElem?_eq_getElem hi]
  rfl
/-- the i-th shifted row, as it lies -/
def shHp (T : TypeId) (bx by_ : Int) (v : Value) (pc : List PtT) : Hp := .own v T 2 pc.length ((pc.map (shP bx by_)).flatMap eP)
/-- rows made one by one: what they are, that they lie still -/
structure MadeQ (T : TypeId) (bx by_ : Int) (ps : List (List PtT)) (i : Nat) (qvs : List Value) (fs : List Hp) : Prop where
  len : qvs.length = i
  le : i ≤ ps.length
  V : ∀ j, j < i → RowV (qvs.getD j undef) (ps.getD j []).length
  mem : ∀ j, j < i → shHp T bx by_ (qvs.getD j undef) (ps.getD j []) ∈ fs
theorem MadeQ.start {T : TypeId} {bx by_ : Int} {ps : List (List PtT)} : MadeQ T bx by_ ps 0 [] [] := ⟨rfl, Nat.zero_le _, fun j h => by omega, fun j h => by omega⟩
theorem getD_snoc {l : List Value} {v : Value} {j : Nat} : (l ++ [v]).getD j undef = if j = l.length then v else l.getD j undef := by
  rw [List.getD_eq_getElem?_getD, List.getD_eq_getElem?_getD, List.getElem?_append]
  split
  · rw [if_neg (by omega)]
  · split
    · rename_i h1 h2; subst h2; simp
    · rw [List.getElem?_eq_none (by simp; omega), List.getElem?_eq_none (by omega)]
theorem MadeQ.step {T : TypeId} {bx by_ : Int} {ps : List (List PtT)} {i : Nat} {qvs : List Value} {fs : List Hp} (h : MadeQ T bx by_ ps i qvs fs) (hi : i < ps.length) {v : Value} (hv : RowV v (ps.getD i []).length) : MadeQ T bx by_ ps (i + 1) (qvs ++ [v]) (shHp T bx by_ v (ps.getD i []) :: fs) := by
  refine ⟨by rw [List.length_append, h.len]; rfl, hi, fun j hj => ?_, fun j hj => ?_⟩
  · rw [getD_snoc, h.len]
    split
    · rename_i e; subst e; exact hv
    · exact h.V j (by omega)
  · rw [getD_snoc, h.len]
    split
    · rename_i e; subst e; exact List.mem_cons_self
    · exact List.mem_cons_of_mem _ (h.mem j (by omega))
theorem MadeQ.pcsW {T : TypeId} {bx by_ : Int} {ps : List (List PtT)} {qvs : List Value} {fs : List Hp} (h : MadeQ T bx by_ ps ps.length qvs fs) {v : Value} (hv : RowV v ps.length) (hl : ps.length ≤ 9223372036854775807) : PcsW v qvs (shPs bx by_ ps) := by
  have e : (shPs bx by_ ps).length = ps.length := by simp [shPs]
  refine ⟨by rw [e]; exact hv, by rw [e]; exact h.len, by rw [e]; exact hl, fun i hi => ?_⟩
  rw [e] at hi
  rw [shPs_getD hi, List.length_map]
  exact h.V i hi
theorem MadeQ.pcsAt {T : TypeId} {bx by_ : Int} {ps : List (List PtT)} {qvs : List Value} {fs : List Hp} (h : MadeQ T bx by_ ps ps.length qvs fs) {v : Value} {g0 : World → Prop} {w : World} (hg : gF g0 fs w) (hr : RowAt w v 1 ps.length qvs) : PcsAt w v qvs (shPs bx by_ ps) := by
  have e : (shPs bx by_ ps).length = ps.length := by simp [shPs]
  refine ⟨by rw [e]; exact hr, fun i hi => ?_⟩
  rw [e] at hi
  rw [shPs_getD hi, List.length_map]
  exact rowAt_own (gF_mem fs (h.mem i hi) hg)
set_option maxHeartbeats 2000000 in
theorem a_SpansShift (w : World) (v : Value) (pvs : List Value) (ps : List (List PtT)) (r dx dy : Int) (hv : PcsW v pvs ps) (hat : PcsAt w v pvs ps) (hdx : -32768 ≤ dx ∧ dx < 32768) (hdy : -32768 ≤ dy ∧ dy < 32768) : Calls Try.prog 5 #[v, .int .i64 r, .int .i16 dx, .int .i16 dy] w fun e w' => e = .returned (.bool true) ∧ Below w.heap.size w w' := by
  have hVp := hv.V
  have hlen := hv.len
  have hrowP : ∀ w', Chg (fun _ => False) w w' → RowAt w' v 1 ps.length pvs := fun w' h => (hat.keep h).row
  refine calls_of (args := [v, .int .i64 r, .int .i16 dx, .int .i16 dy]) Try.func5 rfl Try.ntmps5 Try.results5 rfl ?_
  refine v_seq ?_
  refine v_region ?_
  refine l_val rfl (o_assign rfl) ?_
  refine l_nil ?_
  refine kt_norm ?_
  refine v_seq ?_
  refine v_region ?_
  refine l_val rfl (o_move rfl) ?_
  refine l_val rfl (o_convi rfl ?_) ?_
  · omega
  refine l_val rfl (o_muli rfl rfl ?_) ?_
  · omega
  refine l_val rfl (o_move rfl) ?_
  refine l_val rfl (o_convi rfl ?_) ?_
  · omega
  refine l_val rfl (o_muli rfl rfl ?_) ?_
  · omega
  refine l_val rfl (o_build (vs := [_, _]) (cs := [_, _]) rfl rfl) ?_
  refine l_new rfl o_alloc fun b9 => ?_
  refine l_store rfl (o_storeW (key := 9) (xs := [_, _]) rfl rfl rfl rfl rfl rfl rfl) ?_
  refine l_nil ?_
  refine kt_norm ?_
  refine v_sel [0, 1, 3, 9] [9] rfl rfl ?_
  refine v_seq ?_
  refine v_seq ?_
  refine v_region ?_
  refine l_val rfl (o_move rfl) ?_
  refine l_call (ks := []) rfl (o_callC (vs := [_]) (r := .bool (decide (Bn20 ps))) (ent_of Try.func14 rfl rfl) rfl (fun w' hg hh => a_bounded20 w' _ pvs ps hv (hat.keep hg))) ?_
  refine lz_bool (fun hbb => ?_) (fun hbb => ?_)
  · have hb := hbb.bnd
    have hvp := hb.pcsV hv
    have h320 := edgesAll_len hb
    have hso := all_spOk hb r
    have hsl : (rowS (crs r (liveT r (edgesAll ps)))).length ≤ (edgesAll ps).length := by have h1 := rowS_len (crs r (liveT r (edgesAll ps))); rw [crs_len] at h1; exact Nat.le_trans h1 (List.length_filter_le _ _)
    have hp12 := hbb.1
    refine l_val rfl (o_not rfl rfl) ?_
    refine l_val rfl (o_move rfl) ?_
    refine l_val rfl (o_move rfl) ?_
    refine l_split rfl (o_lss rfl rfl) (fun q1 => ?_) (fun q1 => ?_)
    · skip
      refine l_val rfl (o_pickF rfl rfl) ?_
      refine l_val rfl (o_move rfl) ?_
      refine l_no rfl ?_
      refine l_no rfl ?_
      refine l_val rfl (o_pickT rfl rfl) ?_
      refine l_val rfl (o_move rfl) ?_
      refine l_no rfl ?_
      refine l_no rfl ?_
      refine l_val rfl (o_pickT rfl rfl) ?_
      refine l_nil ?_
      refine kt_norm ?_
      refine v_sel [0, 1, 3, 9, 38] [9] rfl rfl ?_
      refine v_condT rfl ?_
      refine v_seq ?_
      refine v_region ?_
      refine l_ans (vs := []) rfl rfl (a_shown20) ?_
      refine l_val rfl (o_assign rfl) ?_
      refine l_nil ?_
      refine kt_norm ?_
      refine v_sel [8] [] rfl rfl ?_
      refine v_ret ?_
      refine kt_ret ?_
      refine ⟨[_], .cons (.tmp rfl) (ResAll.nil), ?_⟩
      rfl
    · skip
      refine l_val rfl (o_pickF rfl rfl) ?_
      refine l_val rfl (o_move rfl) ?_
      refine l_val rfl (o_move rfl) ?_
      refine l_split rfl (o_gtr rfl rfl) (fun q2 => ?_) (fun q2 => ?_)
      · skip
        refine l_val rfl (o_pickF rfl rfl) ?_
        refine l_val rfl (o_move rfl) ?_
        refine l_no rfl ?_
        refine l_no rfl ?_
        refine l_val rfl (o_pickT rfl rfl) ?_
        refine l_nil ?_
        refine kt_norm ?_
        refine v_sel [0, 1, 3, 9, 38] [9] rfl rfl ?_
        refine v_condT rfl ?_
        refine v_seq ?_
        refine v_region ?_
        refine l_ans (vs := []) rfl rfl (a_shown20) ?_
        refine l_val rfl (o_assign rfl) ?_
        refine l_nil ?_
        refine kt_norm ?_
        refine v_sel [8] [] rfl rfl ?_
        refine v_ret ?_
        refine kt_ret ?_
        refine ⟨[_], .cons (.tmp rfl) (ResAll.nil), ?_⟩
        rfl
      · skip
        refine l_val rfl (o_pickF rfl rfl) ?_
        refine l_val rfl (o_move rfl) ?_
        refine l_ans (vs := []) rfl rfl (a_shown20) ?_
        refine l_val rfl (o_not rfl rfl) ?_
        refine l_val rfl (o_pickF rfl rfl) ?_
        refine l_nil ?_
        refine kt_norm ?_
        refine v_sel [0, 1, 3, 9, 38] [9] rfl rfl ?_
        refine v_condF rfl ?_
        refine v_skip ?_
        refine kt_norm ?_
        refine v_seq ?_
        refine v_region ?_
        refine l_buildSlice (vs := []) (cs := []) rfl rfl rfl rfl rfl rfl fun v40 hv40 => ?_
        refine l_val rfl (o_assign rfl) ?_
        refine l_nil ?_
        refine kt_norm ?_
        refine v_seq ?_
        refine v_seq ?_
        refine v_region ?_
        refine l_val rfl (o_assign rfl) ?_
        refine l_nil ?_
        refine kt_norm ?_
        refine v_block ?_
        refine v_ren 40 86 [9] rfl rfl rfl ?_
        refine v_loopL (α := Nat × Value × List Value × List Hp) (fun ⟨i, v10, qvs, fs⟩ => [(11, .int .i64 (i : Int)), (10, v10)]) (fun ⟨i, v10, qvs, fs⟩ => [(86, Hp.own v10 41 1 i qvs)]) (fun ⟨i, v10, qvs, fs⟩ => gF (fun w2 => Chg (fun _ => False) w w2) fs) (fun ⟨i, v10, qvs, fs⟩ => gbF (fun b => b < w.heap.size ∧ ¬ False) fs) (fun ⟨i, v10, qvs, fs⟩ => MadeQ 39 (256 * dx) (256 * dy) ps i qvs fs ∧ RowV v10 i) (fun ⟨i, v10, qvs, fs⟩ => ps.length - i) (0, v40, [], []) [0, 1, 3, 9] [9] ⟨MadeQ.start, hv40⟩ rfl rfl (And.intro rfl (And.intro rfl (True.intro))) rfl (And.intro rfl (True.intro)) rfl ?_
        rintro ⟨i, v10, qvs, fs⟩ ⟨hM, hv10⟩
        have hile := hM.le
        have hql := hM.len
        refine v_seq ?_
        refine v_seq ?_
        refine v_region ?_
        refine l_val rfl (o_move rfl) ?_
        refine l_val rfl (o_move rfl) ?_
        refine l_val rfl (o_len rfl hVp) ?_
        refine l_split rfl (o_lss rfl rfl) (fun q3 => ?_) (fun q3 => ?_)
        · have hil : i < ps.length := by omega
          obtain ⟨pc, hpc⟩ : ∃ pc, ps.getD i [] = pc := ⟨_, rfl⟩
          have hVq := hvp.pV i hil
          have hnear := hvp.near i hil
          have hbi := (hbb.2 i hil).1
          have hrowQ : ∀ w', Chg (fun _ => False) w w' → RowAt w' (pvs.getD i undef) 2 (ps.getD i []).length ((ps.getD i []).flatMap eP) := fun w' h => (hat.keep h).pc i hil
          rw [hpc] at hVq hnear hrowQ hbi
          refine l_nil ?_
          refine kt_norm ?_
          refine v_condT rfl ?_
          refine v_skip ?_
          refine kt_norm ?_
          refine v_seq ?_
          refine v_block ?_
          refine v_seq ?_
          refine v_region ?_
          refine l_buildSlice (vs := []) (cs := []) rfl rfl rfl rfl rfl rfl fun v47 hv47 => ?_
          refine l_val rfl (o_assign rfl) ?_
          refine l_nil ?_
          refine kt_norm ?_
          refine v_seq ?_
          refine v_seq ?_
          refine v_region ?_
          refine l_val rfl (o_assign rfl) ?_
          refine l_nil ?_
          refine kt_norm ?_
          refine v_block ?_
          refine v_ren 47 82 [9, 86] rfl rfl rfl ?_
          refine v_loopS (α := Nat × Value) (fun ⟨j, v12⟩ => [(13, .int .i64 (j : Int)), (12, v12)]) (fun ⟨j, v12⟩ => [(82, Hp.own v12 39 2 j (((pc.take j).map (shP (256 * dx) (256 * dy))).flatMap eP))])  (fun ⟨j, v12⟩ => j ≤ pc.length ∧ RowV v12 j) (fun ⟨j, v12⟩ => pc.length - j) (0, v47) [11, 10, 0, 1, 3, 9] [9, 86] ⟨Nat.zero_le _, hv47⟩  (And.intro rfl (And.intro rfl (True.intro))) rfl (And.intro rfl (True.intro)) rfl ?_
          rintro ⟨j, v12⟩ ⟨hj, hv12⟩
          refine v_seq ?_
          refine v_seq ?_
          refine v_region ?_
          refine l_val rfl (o_move rfl) ?_
          refine l_val rfl (o_move rfl) ?_
          refine l_val rfl (o_move rfl) ?_
          refine l_val rfl (o_idx (i) rfl hVp rfl (by first | rfl | omega) (by omega)) ?_
          refine l_val rfl (o_loadR1 rfl (row_imm (fun w2 hg => hrowP w2 (gF_base _ hg))) (el_one (by rw [hv.lenv]; exact hil))) ?_
          refine l_val rfl (o_len rfl hVq) ?_
          refine l_split rfl (o_lss rfl rfl) (fun q4 => ?_) (fun q4 => ?_)
          · have hjl : j < pc.length := by omega
            have hnj := near_getD hnear hjl
            unfold NearT at hnj
            refine l_nil ?_
            refine kt_norm ?_
            refine v_sel [13, 12, 11, 10, 0, 1, 3, 9, 54] [9, 82, 86] rfl rfl ?_
            refine v_condT rfl ?_
            refine v_skip ?_
            refine kt_norm ?_
            refine v_seq ?_
            refine v_block ?_
            refine v_drawZ [[], [], [], [], [], [], [], [], [], [], [9], [], [], [], [], [], [], [], [], [], [], [9], [], [], []] mixed ?_ (by kernel_rfl) (by kernel_rfl)
            refine d_val (fun _ => rfl) rfl rfl (fun _ => o_move rfl) ?_
            refine d_val (fun _ => rfl) rfl rfl (fun _ => o_move rfl) ?_
            refine d_val (fun _ => rfl) rfl rfl (fun _ => o_move rfl) ?_
            refine d_val (fun _ => rfl) rfl rfl (fun _ => o_idx (i) rfl hVp rfl (by first | rfl | omega) (by omega)) ?_
            refine d_val (fun _ => rfl) rfl rfl (fun _ => o_loadR1 rfl (row_imm (fun w2 hg => hrowP w2 (gF_base _ hg))) (el_one (by rw [hv.lenv]; exact hil))) ?_
            refine d_val (fun _ => rfl) rfl rfl (fun _ => o_move rfl) ?_
            refine d_val (fun _ => rfl) rfl rfl (fun _ => o_idx (j) rfl hVq rfl (by first | rfl | omega) (by omega)) ?_
            refine d_val (fun _ => rfl) rfl rfl (fun _ => o_fld rfl) ?_
            refine d_val (fun _ => rfl) rfl rfl (fun _ => o_loadRF (f := 0) rfl (row_imm (fun w2 hg => hrowQ w2 (gF_base _ hg))) (el_flat eP_len dP pc (j) (by omega)) rfl) ?_
            refine d_val (fun _ => rfl) rfl rfl (fun _ => o_fld rfl) ?_
            refine d_val (fun _ => rfl) rfl rfl (fun _ => o_load1 (key := 9) rfl rfl rfl) ?_
            refine d_val (fun _ => rfl) rfl rfl (fun _ => o_addi rfl rfl ?_) ?_
            · omega
            refine d_val (fun _ => rfl) rfl rfl (fun _ => o_move rfl) ?_
            refine d_val (fun _ => rfl) rfl rfl (fun _ => o_move rfl) ?_
            refine d_val (fun _ => rfl) rfl rfl (fun _ => o_idx (i) rfl hVp rfl (by first | rfl | omega) (by omega)) ?_
            refine d_val (fun _ => rfl) rfl rfl (fun _ => o_loadR1 rfl (row_imm (fun w2 hg => hrowP w2 (gF_base _ hg))) (el_one (by rw [hv.lenv]; exact hil))) ?_
            refine d_val (fun _ => rfl) rfl rfl (fun _ => o_move rfl) ?_
            refine d_val (fun _ => rfl) rfl rfl (fun _ => o_idx (j) rfl hVq rfl (by first | rfl | omega) (by omega)) ?_
            refine d_val (fun _ => rfl) rfl rfl (fun _ => o_fld rfl) ?_
            refine d_val (fun _ => rfl) rfl rfl (fun _ => o_loadRF (f := 1) rfl (row_imm (fun w2 hg => hrowQ w2 (gF_base _ hg))) (el_flat eP_len dP pc (j) (by omega)) rfl) ?_
            refine d_val (fun _ => rfl) rfl rfl (fun _ => o_fld rfl) ?_
            refine d_val (fun _ => rfl) rfl rfl (fun _ => o_load1 (key := 9) rfl rfl rfl) ?_
            refine d_val (fun _ => rfl) rfl rfl (fun _ => o_addi rfl rfl ?_) ?_
            · omega
            refine d_val (fun _ => rfl) rfl rfl (fun _ => o_build (vs := [_, _]) (cs := [_, _]) rfl rfl) ?_
            refine d_newS (fun _ => rfl) rfl rfl (fun _ => o_bs (vs := [_]) (cs := [_, _]) rfl rfl rfl rfl) ?_
            refine d_nil (fun σ => ?_)
            refine l_toOwn 81 [9, 82, 86] (n := 1) 2 rfl rfl rfl rfl rfl rfl ?_
            refine l_append 82 [9, 81, 86] rfl rfl rfl rfl rfl rfl rfl (.inl ⟨_, _, _, rfl⟩) (row_own (key := 81) rfl) (by omega) fun v82 hv82 => ?_
            refine l_val rfl (o_assign rfl) ?_
            refine l_nil ?_
            refine kb_norm ?_
            refine kt_norm ?_
            refine v_sel [13, 12, 11, 10, 0, 1, 3, 9] [9, 82, 86] rfl rfl ?_
            refine v_region ?_
            refine l_val rfl (o_move rfl) ?_
            refine l_val rfl (o_addi rfl rfl ?_) ?_
            · omega
            refine l_val rfl (o_assign rfl) ?_
            refine l_nil ?_
            refine kt_norm ?_
            refine ⟨(j + 1, v82), ⟨hjl, hv82⟩, (by show pc.length - (j + 1) < pc.length - j; omega), le_app (And.intro rfl (And.intro rfl (True.intro))) [11, 10, 0, 1, 3, 9] rfl (And.intro (congrArg some (own_congr rfl (shp_snoc hjl))) (True.intro)) [9, 86] rfl⟩
          · skip
            refine l_nil ?_
            refine kt_norm ?_
            refine v_sel [13, 12, 11, 10, 0, 1, 3, 9, 54] [9, 82, 86] rfl rfl ?_
            refine v_condF rfl ?_
            refine v_exit ?_
            refine kt_exit ?_
            refine kt_exit ?_
            refine kb_eq ?_
            refine kt_norm ?_
            refine v_region ?_
            obtain rfl : j = pc.length := by omega
            obtain ⟨a12, c12, rfl⟩ := hv12.sl
            have hM1 := hM.step hil (v := .slice a12 pc.length c12) (by rw [hpc]; exact hv12)
            rw [List.take_length]
            refine l_freeze 82 [9, 86] rfl rfl rfl ?_
            refine l_val rfl (o_move rfl) ?_
            refine l_val rfl (o_move rfl) ?_
            refine l_buildSlice (vs := [_]) (cs := [_]) rfl rfl rfl rfl rfl rfl fun v85 hv85 => ?_
            refine l_append 86 [9, 85] rfl rfl rfl rfl rfl rfl rfl hv85 (row_own (key := 85) rfl) (by omega) fun v86 hv86 => ?_
            refine l_val rfl (o_assign rfl) ?_
            refine l_nil ?_
            refine kb_norm ?_
            refine kt_norm ?_
            refine v_sel [11, 10, 0, 1, 3, 9] [9, 86] rfl rfl ?_
            refine v_region ?_
            refine l_val rfl (o_move rfl) ?_
            refine l_val rfl (o_addi rfl rfl ?_) ?_
            · omega
            refine l_val rfl (o_assign rfl) ?_
            refine l_nil ?_
            refine kt_norm ?_
            refine ⟨(i + 1, v86, qvs ++ [.slice a12 pc.length c12], shHp 39 (256 * dx) (256 * dy) (.slice a12 pc.length c12) pc :: fs), ⟨by rw [hpc] at hM1; exact hM1, hv86⟩, (by show ps.length - (i + 1) < ps.length - i; omega), le_app (And.intro rfl (And.intro rfl (True.intro))) [0, 1, 3, 9] rfl (And.intro rfl (True.intro)) [9] rfl⟩
        · skip
          refine l_nil ?_
          refine kt_norm ?_
          refine v_condF rfl ?_
          refine v_exit ?_
          refine kt_exit ?_
          refine kt_exit ?_
          refine kb_eq ?_
          refine kt_norm ?_
          refine v_seq ?_
          refine v_seq ?_
          refine v_region ?_
          obtain rfl : i = ps.length := by omega
          have hW := hM.pcsW hv10 hlen
          refine l_val rfl (o_move rfl) ?_
          refine l_call (ks := [86]) rfl (o_callC (vs := [_]) (r := .bool (decide (Bn20 (shPs (256 * dx) (256 * dy) ps)))) (ent_of Try.func14 rfl rfl) rfl (fun w' hg hh => a_bounded20 w' _ qvs (shPs (256 * dx) (256 * dy) ps) hW (hM.pcsAt hg (rowAt_own (hh 86 (by simp) _ rfl))))) ?_
          refine lz_bool (fun hbq => ?_) (fun hbq => ?_)
          · have hb2 := hbq.bnd
            have hvq := hb2.pcsV hW
            have h3202 := edgesAll_len hb2
            refine l_val rfl (o_not rfl rfl) ?_
            refine l_nil ?_
            refine kt_norm ?_
            refine v_sel [10, 0, 1, 3, 9, 89] [9, 86] rfl rfl ?_
            refine v_condF rfl ?_
            refine v_skip ?_
            refine kt_norm ?_
            refine v_seq ?_
            refine v_region ?_
            refine l_val rfl (o_move rfl) ?_
            refine l_gown (ks := []) (caps := #[]) (vs := [_]) rfl rfl (ent_of Try.func18 rfl rfl) rfl (fun w' hg hh => a_all w' _ pvs ps hb hvp (hat.keep (gF_base _ hg))) fun yla hyla => ?_
            refine l_val rfl (o_move rfl) ?_
            refine l_gown (ks := [91]) (caps := #[]) (vs := [_, _]) rfl rfl (ent_of Try.func17 rfl rfl) rfl (fun w' hg hh => a_Spans w' yla (edgesAll ps) r (by omega) hyla (rowAt_own (hh 91 (by simp) _ rfl)) (all_cross hb r)) fun ya hya => ?_
            refine l_val rfl (o_assign rfl) ?_
            refine l_nil ?_
            refine kt_norm ?_
            refine v_sel [10, 1, 3, 9, 14] [9, 86, 93] rfl rfl ?_
            refine v_seq ?_
            refine v_region ?_
            refine l_val rfl (o_move rfl) ?_
            refine l_gown (ks := [86]) (caps := #[]) (vs := [_]) rfl rfl (ent_of Try.func18 rfl rfl) rfl (fun w' hg hh => a_all w' _ qvs (shPs (256 * dx) (256 * dy) ps) hb2 hvq (hM.pcsAt hg (rowAt_own (hh 86 (by simp) _ rfl)))) fun ylb hylb => ?_
            refine l_val rfl (o_move rfl) ?_
            refine l_val rfl (o_move rfl) ?_
            refine l_val rfl (o_convi rfl ?_) ?_
            · omega
            refine l_val rfl (o_muli rfl rfl ?_) ?_
            · omega
            refine l_val rfl (o_addi rfl rfl ?_) ?_
            · omega
            refine l_gown (ks := [95]) (caps := #[]) (vs := [_, _]) rfl rfl (ent_of Try.func17 rfl rfl) rfl (fun w' hg hh => a_Spans w' ylb (edgesAll (shPs (256 * dx) (256 * dy) ps)) (r + 16 * dy) (by omega) hylb (rowAt_own (hh 95 (by simp) _ rfl)) (all_cross hb2 _)) fun yb hyb => ?_
            refine l_val rfl (o_assign rfl) ?_
            refine l_nil ?_
            refine kt_norm ?_
            refine v_sel [9, 14, 15] [9, 86, 93, 101] rfl rfl ?_
            refine v_seq ?_
            refine v_seq ?_
            refine v_region ?_
            have hsh := row_shift (256 * dx) dy r ps
            have hshl : (rowS (crs (r + 16 * dy) (liveT (r + 16 * dy) (edgesAll (shPs (256 * dx) (256 * dy) ps))))).length = (rowS (crs r (liveT r (edgesAll ps)))).length := by rw [hsh, List.length_map]
            refine l_val rfl (o_move rfl) ?_
            refine l_val rfl (o_len rfl hya) ?_
            refine l_val rfl (o_move rfl) ?_
            refine l_val rfl (o_len rfl hyb) ?_
            refine l_split rfl (o_neq rfl rfl) (fun q5 => absurd q5 (by omega)) (fun q5 => ?_)
            refine l_nil ?_
            refine kt_norm ?_
            refine v_condF rfl ?_
            refine v_skip ?_
            refine kt_norm ?_
            refine v_seq ?_
            refine v_seq ?_
            refine v_region ?_
            refine l_val rfl (o_assign rfl) ?_
            refine l_nil ?_
            refine kt_norm ?_
            refine v_block ?_
            refine v_loopS (α := Nat) (fun i => [(16, .int .i64 (i : Int))]) (fun i => [])  (fun i => i ≤ (rowS (crs r (liveT r (edgesAll ps)))).length) (fun i => (rowS (crs r (liveT r (edgesAll ps)))).length - i) 0 [9, 14, 15] [9, 86, 93, 101] (Nat.zero_le _)  (And.intro rfl (True.intro)) rfl (True.intro) rfl ?_
            rintro i hi
            refine v_seq ?_
            refine v_seq ?_
            refine v_region ?_
            refine l_val rfl (o_move rfl) ?_
            refine l_val rfl (o_move rfl) ?_
            refine l_val rfl (o_len rfl hya) ?_
            refine l_split rfl (o_lss rfl rfl) (fun q6 => ?_) (fun q6 => ?_)
            · have hil : i < (rowS (crs r (liveT r (edgesAll ps)))).length := by omega
              refine l_nil ?_
              refine kt_norm ?_
              refine v_condT rfl ?_
              refine v_skip ?_
              refine kt_norm ?_
              refine v_seq ?_
              refine v_block ?_
              refine v_seq ?_
              refine v_drawZ [[], [], [], [], [101], [], [], [], [], [93], [], [9], [], [], [], [], [], [], [], [101], [], [], [], [], [93], [], [9], [], [], []] mixed ?_ (by kernel_rfl) (by kernel_rfl)
              have hse : (rowS (crs (r + 16 * dy) (liveT (r + 16 * dy) (edgesAll (shPs (256 * dx) (256 * dy) ps))))).getD i dS = shS (256 * dx) ((rowS (crs r (liveT r (edgesAll ps)))).getD i dS) := by rw [hsh]; exact sp_map hil
              have s1 : ((rowS (crs (r + 16 * dy) (liveT (r + 16 * dy) (edgesAll (shPs (256 * dx) (256 * dy) ps))))).getD i dS).fr = ((rowS (crs r (liveT r (edgesAll ps)))).getD i dS).fr + 256 * dx := by rw [hse]; rfl
              have s2 : ((rowS (crs (r + 16 * dy) (liveT (r + 16 * dy) (edgesAll (shPs (256 * dx) (256 * dy) ps))))).getD i dS).to = ((rowS (crs r (liveT r (edgesAll ps)))).getD i dS).to + 256 * dx := by rw [hse]; rfl
              have hso1 := spOk_getD hso hil
              refine d_val (fun _ => rfl) rfl rfl (fun _ => o_move rfl) ?_
              refine d_val (fun _ => rfl) rfl rfl (fun _ => o_move rfl) ?_
              refine d_val (fun _ => rfl) rfl rfl (fun _ => o_idx (i) rfl hyb rfl (by first | rfl | omega) (by omega)) ?_
              refine d_val (fun _ => rfl) rfl rfl (fun _ => o_fld rfl) ?_
              refine d_val (fun _ => rfl) rfl rfl (fun _ => o_loadRF (f := 0) rfl (row_own (key := 101) rfl) (el_flat eS_len dS (rowS (crs (r + 16 * dy) (liveT (r + 16 * dy) (edgesAll (shPs (256 * dx) (256 * dy) ps))))) (i) (by omega)) rfl) ?_
              refine d_val (fun _ => rfl) rfl rfl (fun _ => o_move rfl) ?_
              refine d_val (fun _ => rfl) rfl rfl (fun _ => o_move rfl) ?_
              refine d_val (fun _ => rfl) rfl rfl (fun _ => o_idx (i) rfl hya rfl (by first | rfl | omega) (by omega)) ?_
              refine d_val (fun _ => rfl) rfl rfl (fun _ => o_fld rfl) ?_
              refine d_val (fun _ => rfl) rfl rfl (fun _ => o_loadRF (f := 0) rfl (row_own (key := 93) rfl) (el_flat eS_len dS (rowS (crs r (liveT r (edgesAll ps)))) (i) (by omega)) rfl) ?_
              refine d_val (fun _ => rfl) rfl rfl (fun _ => o_fld rfl) ?_
              refine d_val (fun _ => rfl) rfl rfl (fun _ => o_load1 (key := 9) rfl rfl rfl) ?_
              refine d_val (fun _ => rfl) rfl rfl (fun _ => o_addi rfl rfl ?_) ?_
              · omega
              refine d_neq (fun _ => rfl) (fun _ => rfl) (fun _ => rfl) (fun q7 => absurd q7 (by omega)) (fun q7 => ?_)
              refine d_val (fun _ => rfl) rfl rfl (fun _ => o_move rfl) ?_
              refine d_val (fun _ => rfl) rfl rfl (fun _ => o_move rfl) ?_
              refine d_val (fun _ => rfl) rfl rfl (fun _ => o_move rfl) ?_
              refine d_val (fun _ => rfl) rfl rfl (fun _ => o_idx (i) rfl hyb rfl (by first | rfl | omega) (by omega)) ?_
              refine d_val (fun _ => rfl) rfl rfl (fun _ => o_fld rfl) ?_
              refine d_val (fun _ => rfl) rfl rfl (fun _ => o_loadRF (f := 1) rfl (row_own (key := 101) rfl) (el_flat eS_len dS (rowS (crs (r + 16 * dy) (liveT (r + 16 * dy) (edgesAll (shPs (256 * dx) (256 * dy) ps))))) (i) (by omega)) rfl) ?_
              refine d_val (fun _ => rfl) rfl rfl (fun _ => o_move rfl) ?_
              refine d_val (fun _ => rfl) rfl rfl (fun _ => o_move rfl) ?_
              refine d_val (fun _ => rfl) rfl rfl (fun _ => o_idx (i) rfl hya rfl (by first | rfl | omega) (by omega)) ?_
              refine d_val (fun _ => rfl) rfl rfl (fun _ => o_fld rfl) ?_
              refine d_val (fun _ => rfl) rfl rfl (fun _ => o_loadRF (f := 1) rfl (row_own (key := 93) rfl) (el_flat eS_len dS (rowS (crs r (liveT r (edgesAll ps)))) (i) (by omega)) rfl) ?_
              refine d_val (fun _ => rfl) rfl rfl (fun _ => o_fld rfl) ?_
              refine d_val (fun _ => rfl) rfl rfl (fun _ => o_load1 (key := 9) rfl rfl rfl) ?_
              refine d_val (fun _ => rfl) rfl rfl (fun _ => o_addi rfl rfl ?_) ?_
              · omega
              refine d_neq (fun _ => rfl) (fun _ => rfl) (fun _ => rfl) (fun q8 => absurd q8 (by omega)) (fun q8 => ?_)
              refine d_val (fun _ => rfl) rfl rfl (fun _ => o_pickF rfl rfl) ?_
              refine d_nil (fun σ => ?_)
              refine l_nil ?_
              refine kt_norm ?_
              refine v_sel [16, 9, 14, 15, 128, 129, 130, 131, 132, 133, 134, 135, 136, 137, 138, 139, 140, 141, 142] [9, 86, 93, 101] rfl rfl ?_
              refine v_condF rfl ?_
              refine v_skip ?_
              refine kb_norm ?_
              refine kt_norm ?_
              refine v_region ?_
              refine l_val rfl (o_move rfl) ?_
              refine l_val rfl (o_addi rfl rfl ?_) ?_
              · omega
              refine l_val rfl (o_assign rfl) ?_
              refine l_nil ?_
              refine kt_norm ?_
              refine ⟨i + 1, hil, by omega, le_app (And.intro rfl (True.intro)) [9, 14, 15] rfl (True.intro) [9, 86, 93, 101] rfl⟩
            · skip
              refine l_nil ?_
              refine kt_norm ?_
              refine v_condF rfl ?_
              refine v_exit ?_
              refine kt_exit ?_
              refine kt_exit ?_
              refine kb_eq ?_
              refine kt_norm ?_
              refine v_sel [] [86] rfl rfl ?_
              refine v_seq ?_
              refine v_region ?_
              refine l_val rfl (o_assign rfl) ?_
              refine l_nil ?_
              refine kt_norm ?_
              refine v_ret ?_
              refine ⟨[_], .cons (.tmp rfl) (ResAll.nil), ?_⟩
              rfl
          · skip
            refine l_val rfl (o_not rfl rfl) ?_
            refine l_nil ?_
            refine kt_norm ?_
            refine v_sel [10, 0, 1, 3, 9, 89] [9, 86] rfl rfl ?_
            refine v_condT rfl ?_
            refine v_seq ?_
            refine v_region ?_
            refine l_val rfl (o_assign rfl) ?_
            refine l_nil ?_
            refine kt_norm ?_
            refine v_sel [8] [86] rfl rfl ?_
            refine v_ret ?_
            refine kt_ret ?_
            refine ⟨[_], .cons (.tmp rfl) (ResAll.nil), ?_⟩
            rfl
  · skip
    refine l_val rfl (o_not rfl rfl) ?_
    refine l_val rfl (o_move rfl) ?_
    refine l_no rfl ?_
    refine l_no rfl ?_
    refine l_val rfl (o_pickT rfl rfl) ?_
    refine l_val rfl (o_move rfl) ?_
    refine l_no rfl ?_
    refine l_no rfl ?_
    refine l_val rfl (o_pickT rfl rfl) ?_
    refine l_val rfl (o_move rfl) ?_
    refine l_no rfl ?_
    refine l_no rfl ?_
    refine l_val rfl (o_pickT rfl rfl) ?_
    refine l_nil ?_
    refine kt_norm ?_
    refine v_sel [0, 1, 3, 9, 38] [9] rfl rfl ?_
    refine v_condT rfl ?_
    refine v_seq ?_
    refine v_region ?_
    refine l_ans (vs := []) rfl rfl (a_shown20) ?_
    refine l_val rfl (o_assign rfl) ?_
    refine l_nil ?_
    refine kt_norm ?_
    refine v_sel [8] [] rfl rfl ?_
    refine v_ret ?_
    refine kt_ret ?_
    refine ⟨[_], .cons (.tmp rfl) (ResAll.nil), ?_⟩
    rfl
end Go.Proofs.Ytaijclimdfchfaa
