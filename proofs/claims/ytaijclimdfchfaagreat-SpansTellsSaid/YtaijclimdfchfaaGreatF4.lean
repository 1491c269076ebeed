import Derived.Test.YtaijclimdfchfaaGreatF3
/- Two squares, looked at; spans rise; what is clipped has just what lies between. Conditions: none. -/
namespace Go.Proofs.YtaijclimdfchfaaGreat
open Go.Proofs Go.RowKit Go.Shelf

theorem pcsV_two {v p q : Value} {pc qc : List PtT} (h : RowV v 2) (hp : RowV p pc.length) (hq : RowV q qc.length) (hs : pc.length ≤ 1000000) (hs' : qc.length ≤ 1000000) (hn : ∀ p ∈ pc, NearT p) (hn' : ∀ p ∈ qc, NearT p) : PcsV v [p, q] [pc, qc] :=
  ⟨h, rfl, (show 2 ≤ 1099511627776 by omega), fun i hi => by match i, hi with | 0, _ => exact hp | 1, _ => exact hq | n + 2, h => exact absurd h (by show ¬ n + 2 < 2; omega), fun i hi => by match i, hi with | 0, _ => show pc.length ≤ _; omega | 1, _ => show qc.length ≤ _; omega | n + 2, h => exact absurd h (by show ¬ n + 2 < 2; omega), fun i hi => by match i, hi with | 0, _ => exact hn | 1, _ => exact hn' | n + 2, h => exact absurd h (by show ¬ n + 2 < 2; omega)⟩
theorem pcsAt_two {w : World} {v p q : Value} {pc qc : List PtT} (h : RowAt w v 1 2 [p, q]) (h1 : RowAt w p 2 pc.length (pc.flatMap eP)) (h2 : RowAt w q 2 qc.length (qc.flatMap eP)) : PcsAt w v [p, q] [pc, qc] :=
  ⟨h, fun i hi => by match i, hi with | 0, _ => exact h1 | 1, _ => exact h2 | n + 2, h => exact absurd h (by show ¬ n + 2 < 2; omega)⟩
def sqA : List PtT := [⟨0, 0⟩, ⟨32, 0⟩, ⟨32, 32⟩, ⟨0, 32⟩]
def sqB : List PtT := [⟨32, 0⟩, ⟨64, 0⟩, ⟨64, 32⟩, ⟨32, 32⟩]
def tb20 : List EdgeT := [⟨32, 0, 0, 32, 1, 0, 2⟩, ⟨0, 0, 0, 32, -1, 0, 2⟩, ⟨64, 0, 0, 32, 1, 0, 2⟩, ⟨32, 0, 0, 32, -1, 0, 2⟩]
theorem tab20 : tabT 0 0 1 1 [sqA, sqB] = tb20 := by unfold tabT; rw [if_pos (by decide)]; rfl
theorem nearA : ∀ p ∈ sqA, NearT p := by decide
theorem nearB : ∀ p ∈ sqB, NearT p := by decide
theorem bndAB : Bnd [sqA, sqB] := by decide
theorem sp20 : rowS (crs 1 (liveT 1 tb20)) = [⟨0, 64⟩] := by rfl
theorem cr20 : ∀ e ∈ liveT 1 tb20, CrossOk 1 e := fun e he => by
  have h : liveT 1 tb20 = tb20 := by rfl
  rw [h] at he
  simp only [tb20, List.mem_cons, List.not_mem_nil, or_false] at he
  rcases he with rfl | rfl | rfl | rfl <;> exact ⟨by decide, by decide, by decide, by decide, by decide, by decide, by decide, by first | exact .inl rfl | exact .inr rfl⟩
theorem a_Tab20 (w : World) (v p q : Value) (hV : RowV v 2) (hp : RowV p 4) (hq : RowV q 4) (h : RowAt w v 1 2 [p, q]) (h1 : RowAt w p 2 4 (sqA.flatMap eP)) (h2 : RowAt w q 2 4 (sqB.flatMap eP)) :
    Calls Tryz.prog 31 #[v, .agg #[.int .i64 0, .int .i64 0, .int .i64 1, .int .i64 1]] w fun e w' => ∃ y, e = .returned y ∧ Below w.heap.size w w' ∧ OwnAt w.heap.size w' y 84 7 4 (tb20.flatMap eE) := by
  have := a_TableT w v [p, q] [sqA, sqB] 0 0 1 1 bndAB (pcsV_two hV hp hq (by decide) (by decide) nearA nearB) (pcsAt_two h h1 h2)
  rw [tab20] at this
  exact this
theorem a_Row20 (w : World) (v : Value) (hV : RowV v 4) (hrow : RowAt w v 7 4 (tb20.flatMap eE)) : Calls Tryz.prog 11 #[v, .int .i64 1] w fun e w' => ∃ y, e = .returned y ∧ Below w.heap.size w w' ∧ OwnAt w.heap.size w' y 69 2 1 [.int .i64 0, .int .i64 64] := by
  have := a_Spans w v tb20 1 (by decide) hV hrow cr20
  rw [sp20] at this
  exact this
theorem a_Clip20 (w : World) (v : Value) (hV : RowV v 1) (hrow : RowAt w v 2 1 [.int .i64 0, .int .i64 64]) : Calls Tryz.prog 14 #[v, .int .i64 5, .int .i64 20] w fun e w' => ∃ y, e = .returned y ∧ Below w.heap.size w w' ∧ OwnAt w.heap.size w' y 69 2 1 [.int .i64 5, .int .i64 20] :=
  a_Clip w v [⟨0, 64⟩] 5 20 (by decide) hV hrow
theorem a_Sum20 (w : World) (v : Value) (hV : RowV v 1) (hrow : RowAt w v 2 1 [.int .i64 5, .int .i64 20]) : Calls Tryz.prog 18 #[v] w fun e w' => e = .returned (.int .i64 15) ∧ Below w.heap.size w w' :=
  a_Sum w v [⟨5, 20⟩] (by decide) (fun s hs => by rw [List.mem_singleton.1 hs]; decide) hV hrow
theorem a_HasY (w : World) (v : Value) (hV : RowV v 1) (hrow : RowAt w v 2 1 [.int .i64 0, .int .i64 64]) : Calls Tryz.prog 20 #[v, .int .i64 63] w fun e w' => e = .returned (.bool true) ∧ Below w.heap.size w w' :=
  a_Has w v [⟨0, 64⟩] 63 (by decide) hV hrow
theorem a_HasN (w : World) (v : Value) (hV : RowV v 1) (hrow : RowAt w v 2 1 [.int .i64 0, .int .i64 64]) : Calls Tryz.prog 20 #[v, .int .i64 64] w fun e w' => e = .returned (.bool false) ∧ Below w.heap.size w w' :=
  a_Has w v [⟨0, 64⟩] 64 (by decide) hV hrow
theorem rise_getD {cs : List (Int × Int)} {i j : Nat} (hij : i < j) (hj : j < (rowS cs).length) : ((rowS cs).getD i dS).to < ((rowS cs).getD j dS).fr := by
  have := List.pairwise_iff_getElem.1 (rowQ cs _ (Nat.le_refl _)).rise i j (show i < (rowS cs).length by omega) hj hij
  rw [List.getD_eq_getElem?_getD, List.getD_eq_getElem?_getD, List.getElem?_eq_getElem hj, List.getElem?_eq_getElem (show i < (rowS cs).length by omega)]
  exact this
theorem hasS_hi {l : List SpanT} {B x : Int} (h : ∀ s ∈ l, s.to ≤ B) (hx : B ≤ x) : hasS l x = false := by
  unfold hasS
  rw [List.any_eq_false]
  intro s hs
  have := h s hs
  simp only [Bool.and_eq_true, decide_eq_true_eq]
  omega
theorem sp_mem {l : List SpanT} {i : Nat} (h : i < l.length) : l.getD i dS ∈ l := by
  rw [List.getD_eq_getElem?_getD, List.getElem?_eq_getElem h]; exact List.getElem_mem h
theorem a_shown20  : Ans Tryz.prog 9 [] (.bool true) := by
  refine ans_of Tryz.func9 rfl Tryz.ntmps9 Tryz.results9 rfl rfl fun w => ?_
  refine v_seq ?_
  refine v_region ?_
  refine l_val rfl (o_assign rfl) ?_
  refine l_nil ?_
  refine kt_norm ?_
  refine v_seq ?_
  refine v_region ?_
  refine l_val rfl (o_build (vs := []) (cs := [_, _]) rfl rfl) ?_
  refine l_val rfl (o_build (vs := [_]) (cs := [_, _]) rfl rfl) ?_
  refine l_val rfl (o_build (vs := [_, _]) (cs := [_, _]) rfl rfl) ?_
  refine l_val rfl (o_build (vs := [_]) (cs := [_, _]) rfl rfl) ?_
  refine l_buildSlice (vs := [_, _, _, _]) (cs := [_, _, _, _, _, _, _, _]) rfl rfl rfl rfl rfl rfl fun v7 hv7 => ?_
  refine l_val rfl (o_build (vs := [_]) (cs := [_, _]) rfl rfl) ?_
  refine l_val rfl (o_build (vs := [_]) (cs := [_, _]) rfl rfl) ?_
  refine l_val rfl (o_build (vs := [_, _]) (cs := [_, _]) rfl rfl) ?_
  refine l_val rfl (o_build (vs := [_, _]) (cs := [_, _]) rfl rfl) ?_
  refine l_buildSlice (vs := [_, _, _, _]) (cs := [_, _, _, _, _, _, _, _]) rfl rfl rfl rfl rfl rfl fun v12 hv12 => ?_
  obtain ⟨a7, c7, rfl⟩ := hv7.sl
  obtain ⟨a12, c12, rfl⟩ := hv12.sl
  refine l_buildSlice (vs := [_, _]) (cs := [_, _]) rfl rfl rfl rfl rfl rfl fun v13 hv13 => ?_
  refine l_val rfl (o_assign rfl) ?_
  refine l_nil ?_
  refine kt_norm ?_
  refine v_sel [1] [7, 12, 13] rfl rfl ?_
  refine v_seq ?_
  refine v_region ?_
  refine l_val rfl (o_move rfl) ?_
  refine l_val rfl (o_build (vs := [_, _]) (cs := [_, _, _, _]) rfl rfl) ?_
  refine l_gown (ks := [7, 12, 13]) (caps := #[]) (vs := [_, _]) rfl rfl (ent_of Tryz.func31 rfl rfl) rfl (fun w' hg hh => a_Tab20 w' v13 _ _ hv13 hv7 hv12 (rowAt_own (hh 13 (by simp) _ rfl)) (rowAt_own (hh 7 (by simp) _ rfl)) (rowAt_own (hh 12 (by simp) _ rfl))) fun tt htt => ?_
  refine l_gown (ks := [16]) (caps := #[]) (vs := [_, _]) rfl rfl (ent_of Tryz.func11 rfl rfl) rfl (fun w' hg hh => a_Row20 w' tt htt (rowAt_own (hh 16 (by simp) _ rfl))) fun ys hys => ?_
  refine l_val rfl (o_assign rfl) ?_
  refine l_nil ?_
  refine kt_norm ?_
  refine v_seq ?_
  refine v_region ?_
  refine l_val rfl (o_move rfl) ?_
  refine l_val rfl (o_len rfl hys) ?_
  refine l_val rfl (o_eql rfl rfl) ?_
  refine l_val rfl (o_move rfl) ?_
  refine l_val rfl (o_move rfl) ?_
  refine l_val rfl (o_idx (0) rfl hys rfl (by first | rfl | omega) (by decide)) ?_
  refine l_val rfl (o_loadRE (c' := [_, _]) rfl (row_own (key := 17) rfl) (el_lit (esz := 2) (i := 0) (c := [_, _]) rfl rfl) rfl) ?_
  refine l_val rfl (o_build (vs := [_, _]) (cs := [_, _]) rfl rfl) ?_
  refine l_split rfl (o_eqs (xl := [_, _]) (yl := [_, _]) (az := [_, _]) (bz := [_, _]) rfl rfl rfl rfl rfl rfl) (fun _ => ?_) (fun q2 => absurd rfl q2)
  refine l_val rfl (o_pickT rfl rfl) ?_
  refine l_val rfl (o_move rfl) ?_
  refine l_val rfl (o_move rfl) ?_
  refine l_gown (ks := [17]) (caps := #[]) (vs := [_, _, _]) rfl rfl (ent_of Tryz.func14 rfl rfl) rfl (fun w' hg hh => a_Clip20 w' ys hys (rowAt_own (hh 17 (by simp) _ rfl))) fun yc hyc => ?_
  refine l_call (ks := [30]) rfl (o_callC (vs := [_]) (r := .int .i64 15) (ent_of Tryz.func18 rfl rfl) rfl (fun w' hg hh => a_Sum20 w' yc hyc (rowAt_own (hh 30 (by simp) _ rfl)))) ?_
  refine l_val rfl (o_eql rfl rfl) ?_
  refine l_val rfl (o_pickT rfl rfl) ?_
  refine l_val rfl (o_move rfl) ?_
  refine l_val rfl (o_move rfl) ?_
  refine l_call (ks := [17]) rfl (o_callC (vs := [_, _]) (r := .bool true) (ent_of Tryz.func20 rfl rfl) rfl (fun w' hg hh => a_HasY w' ys hys (rowAt_own (hh 17 (by simp) _ rfl)))) ?_
  refine l_val rfl (o_pickT rfl rfl) ?_
  refine l_val rfl (o_move rfl) ?_
  refine l_val rfl (o_move rfl) ?_
  refine l_call (ks := [17]) rfl (o_callC (vs := [_, _]) (r := .bool false) (ent_of Tryz.func20 rfl rfl) rfl (fun w' hg hh => a_HasN w' ys hys (rowAt_own (hh 17 (by simp) _ rfl)))) ?_
  refine l_val rfl (o_not rfl rfl) ?_
  refine l_val rfl (o_pickT rfl rfl) ?_
  refine l_val rfl (o_assign rfl) ?_
  refine l_nil ?_
  refine kt_norm ?_
  refine v_sel [0] [7, 12, 13] rfl rfl ?_
  refine v_ret ?_
  refine ⟨[_], .cons (.tmp rfl) (ResAll.nil), ?_⟩
  rfl


end Go.Proofs.YtaijclimdfchfaaGreat
