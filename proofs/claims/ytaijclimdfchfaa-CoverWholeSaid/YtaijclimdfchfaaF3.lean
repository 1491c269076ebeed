import Derived.Test.YtaijclimdfchfaaF2
/- Spans cut, summed, asked; all edges of some pieces. Conditions: none. -/
namespace Go.Proofs.Ytaijclimdfchfaa
open Go.Proofs Go.RowKit Go.Shelf

theorem clip_take {lo hi : Int} {l : List SpanT} {i : Nat} (h : i < l.length) : clipT lo hi (l.take (i + 1)) = clipT lo hi (l.take i) ++ (if (clipS lo hi (l.getD i dS)).fr < (clipS lo hi (l.getD i dS)).to then [clipS lo hi (l.getD i dS)] else []) := by
  rw [List.take_add_one, List.getElem?_eq_getElem h, List.getD_eq_getElem?_getD, List.getElem?_eq_getElem h]
  exact clipT_snoc lo hi _ _
theorem sumS_take {l : List SpanT} {i : Nat} (h : i < l.length) : sumS (l.take (i + 1)) = sumS (l.take i) + ((l.getD i dS).to - (l.getD i dS).fr) := by
  rw [List.take_add_one, List.getElem?_eq_getElem h, sumS_append, List.getD_eq_getElem?_getD, List.getElem?_eq_getElem h]
  simp [sumS, sumF]
/-- spans whose ends can be reckoned with -/
def SpOk (l : List SpanT) : Prop := ∀ s ∈ l, -2199023255552 ≤ s.fr ∧ s.fr ≤ s.to ∧ s.to ≤ 2199023255552
theorem spOk_getD {l : List SpanT} (h : SpOk l) {i : Nat} (hi : i < l.length) : -2199023255552 ≤ (l.getD i dS).fr ∧ (l.getD i dS).fr ≤ (l.getD i dS).to ∧ (l.getD i dS).to ≤ 2199023255552 := by
  rw [List.getD_eq_getElem?_getD, List.getElem?_eq_getElem hi]; exact h _ (List.getElem_mem hi)
theorem spOk_take {l : List SpanT} (h : SpOk l) (k : Nat) : SpOk (l.take k) := fun s hs => h s (List.mem_of_mem_take hs)
theorem sumS_ok {l : List SpanT} (h : SpOk l) : 0 ≤ sumS l ∧ sumS l ≤ 4398046511104 * l.length := sumS_bound l fun s hs => by have := h s hs; omega
theorem spOk_clip {l : List SpanT} (h : SpOk l) (lo hi : Int) : SpOk (clipT lo hi l) := fun s hs => by
  obtain ⟨h1, h2, h3, t, ht, h4, h5⟩ := clipT_bound hs
  have := h t ht; omega
def idxS (p : SpanT → Bool) (l : List SpanT) : Int := if l.findIdx p = l.length then -1 else ((l.findIdx p : Nat) : Int)
theorem idxS_yes {p : SpanT → Bool} {l : List SpanT} {i : Nat} (hi : i < l.length) (hb : ∀ j, j < i → p (l.getD j dS) = false) (h : p (l.getD i dS) = true) : idxS p l = i := by
  have e : l.findIdx p = i := (List.findIdx_eq hi).2 ⟨by simpa [List.getD_eq_getElem?_getD, hi] using h, fun j hj => by
    have := hb j hj
    simpa [List.getD_eq_getElem?_getD, show j < l.length by omega] using this⟩
  unfold idxS; rw [e, if_neg (by omega)]
theorem idxS_no {p : SpanT → Bool} {l : List SpanT} (hb : ∀ j, j < l.length → p (l.getD j dS) = false) : idxS p l = -1 := by
  have e : l.findIdx p = l.length := List.findIdx_eq_length.2 fun x hx => by
    obtain ⟨j, hj, rfl⟩ := List.getElem_of_mem hx
    simpa [List.getD_eq_getElem?_getD, hj] using hb j hj
  unfold idxS; rw [if_pos e]
theorem idxS_any (p : SpanT → Bool) (l : List SpanT) : decide (0 ≤ idxS p l) = l.any p := by
  unfold idxS
  by_cases h : l.findIdx p = l.length
  · rw [if_pos h]
    have := List.findIdx_eq_length.1 h
    rw [Bool.eq_iff_iff]
    simp only [decide_eq_true_eq, List.any_eq_true]
    exact ⟨fun h => by omega, fun ⟨x, hx, e⟩ => by have := this x hx; rw [e] at this; cases this⟩
  · rw [if_neg h]
    have hlt : l.findIdx p < l.length := by have := List.findIdx_le_length (p := p) (xs := l); omega
    have := (List.findIdx_eq hlt).1 rfl
    rw [Bool.eq_iff_iff]
    simp only [decide_eq_true_eq, List.any_eq_true]
    exact ⟨fun _ => ⟨_, List.getElem_mem hlt, this.1⟩, fun _ => by omega⟩
/-- bounds of these statements -/
def Bn20 (ps : List (List PtT)) : Prop := ps.length ≤ 12 ∧ ∀ i, i < ps.length → BndP (ps.getD i [])
instance (ps : List (List PtT)) : Decidable (Bn20 ps) := by unfold Bn20; infer_instance
theorem Bn20.bnd {ps : List (List PtT)} (h : Bn20 ps) : Bnd ps := ⟨by have := h.1; omega, h.2⟩
theorem all_cross {ps : List (List PtT)} (h : Bnd ps) (r : Int) : ∀ e ∈ liveT r (edgesAll ps), CrossOk r e := fun e he => by
  have h1 := mem_live he
  have h2 := edgesAll_ok h e h1.1
  exact crossOk_of h2.1 h2.2 h1.2.1 h1.2.2
theorem all_spOk {ps : List (List PtT)} (h : Bnd ps) (r : Int) : SpOk (rowS (crs r (liveT r (edgesAll ps)))) := fun s hs => by
  have := rowS_bound (crs_bound (all_cross h r)) s hs; omega
theorem a_Clip (w : World) (v : Value) (l : List SpanT) (lo hi : Int) (hn : l.length ≤ 1000000) (hV : RowV v l.length) (hrow : RowAt w v 2 l.length (l.flatMap eS)) :
    Calls Try.prog 20 #[v, .int .i64 lo, .int .i64 hi] w fun e w' => ∃ y, e = .returned y ∧ Below w.heap.size w w' ∧ OwnAt w.heap.size w' y 31 2 (clipT lo hi l).length ((clipT lo hi l).flatMap eS) := by
  have hr : ∀ w', Chg (fun _ => False) w w' → RowAt w' v 2 l.length (l.flatMap eS) := fun w' h => hrow.chg h (fun h => h)
  refine calls_own (args := [v, .int .i64 lo, .int .i64 hi]) Try.func20 rfl Try.ntmps20 Try.results20 rfl ?_
  refine v_ghost 33 31 2 ?_
  refine v_seq ?_
  refine v_region ?_
  refine l_val rfl (o_assign rfl) ?_
  refine l_nil ?_
  refine kt_norm ?_
  refine v_seq ?_
  refine v_seq ?_
  refine v_region ?_
  refine l_val rfl (o_move rfl) ?_
  refine l_val rfl (o_len rfl hV) ?_
  refine l_val rfl (o_move rfl) ?_
  refine l_nil ?_
  refine kt_norm ?_
  refine v_block ?_
  refine v_loopS (α := Nat × Value) (fun ⟨i, v6⟩ => [(11, .int .i64 (i : Int)), (6, v6)]) (fun ⟨i, v6⟩ => [(33, Hp.own v6 31 2 (clipT lo hi (l.take i)).length ((clipT lo hi (l.take i)).flatMap eS))])  (fun ⟨i, v6⟩ => i ≤ l.length ∧ RowV v6 (clipT lo hi (l.take i)).length) (fun ⟨i, v6⟩ => l.length - i) (0, .slice none 0 0) [1, 2, 9, 10] [] ⟨Nat.zero_le _, .nil0⟩  (And.intro rfl (And.intro rfl (True.intro))) rfl (And.intro rfl (True.intro)) rfl ?_
  rintro ⟨i, v6⟩ ⟨hi_, hv6⟩
  refine v_seq ?_
  refine v_region ?_
  refine l_split rfl (o_lss rfl rfl) (fun q1 => ?_) (fun q1 => ?_)
  · have hil : i < l.length := by omega
    have hct := clip_take (lo := lo) (hi := hi) hil
    refine l_nil ?_
    refine kt_norm ?_
    refine v_seq ?_
    refine v_condT rfl ?_
    refine v_skip ?_
    refine kt_norm ?_
    refine v_seq ?_
    refine v_block ?_
    refine v_seq ?_
    refine v_region ?_
    refine l_val rfl (o_idx (i) rfl hV rfl (by first | rfl | omega) (by omega)) ?_
    refine l_val rfl (o_loadRE (c' := [_, _]) rfl (row_imm hr) (el_flat eS_len dS l (i) (by omega)) rfl) ?_
    refine l_new rfl o_alloc fun b8 => ?_
    refine l_store rfl (o_storeW (key := 8) (xs := [_, _]) rfl rfl rfl rfl rfl rfl rfl) ?_
    refine l_nil ?_
    refine kt_norm ?_
    refine v_seq ?_
    refine v_region ?_
    refine l_val rfl (o_fld rfl) ?_
    refine l_val rfl (o_load1 (key := 8) rfl rfl rfl) ?_
    refine l_val rfl (o_move rfl) ?_
    refine l_val rfl (o_max rfl rfl) ?_
    refine l_val rfl (o_fld rfl) ?_
    refine l_val rfl (o_load1 (key := 8) rfl rfl rfl) ?_
    refine l_val rfl (o_move rfl) ?_
    refine l_val rfl (o_min rfl rfl) ?_
    refine l_val rfl (o_fld rfl) ?_
    refine l_store rfl (o_store1 (key := 8) (rs := [_, _]) rfl rfl rfl rfl rfl rfl rfl) ?_
    refine l_val rfl (o_fld rfl) ?_
    refine l_store rfl (o_store1 (key := 8) (rs := [_, _]) rfl rfl rfl rfl rfl rfl rfl) ?_
    refine l_nil ?_
    refine kt_norm ?_
    refine v_sel [11, 6, 1, 2, 9, 10, 8] [8, 33] rfl rfl ?_
    refine v_seq ?_
    refine v_region ?_
    refine l_val rfl (o_fld rfl) ?_
    refine l_val rfl (o_load1 (key := 8) rfl rfl rfl) ?_
    refine l_val rfl (o_fld rfl) ?_
    refine l_val rfl (o_load1 (key := 8) rfl rfl rfl) ?_
    refine l_split rfl (o_lss rfl rfl) (fun hlt => ?_) (fun hlt => ?_)
    · have hc1 : (clipS lo hi (l.getD i dS)).fr < (clipS lo hi (l.getD i dS)).to := hlt
      refine l_nil ?_
      refine kt_norm ?_
      refine v_condT rfl ?_
      refine v_region ?_
      refine l_val rfl (o_move rfl) ?_
      refine l_val rfl (o_loadW (key := 8) rfl rfl rfl) ?_
      refine l_buildSlice (vs := [_]) (cs := [_, _]) rfl rfl rfl rfl rfl rfl fun v32 hv32 => ?_
      refine l_append 33 [8, 32] rfl rfl rfl rfl rfl rfl rfl hv32 (row_own (key := 32) rfl) (by have h1 := clipT_len lo hi (l.take i); have h2 := List.length_take (i := i) (l := l); omega) fun v33 hv33 => ?_
      refine l_val rfl (o_assign rfl) ?_
      refine l_nil ?_
      refine kb_norm ?_
      refine kt_norm ?_
      refine v_sel [11, 6, 1, 2, 9, 10] [33] rfl rfl ?_
      refine v_region ?_
      refine l_val rfl (o_addi rfl rfl ?_) ?_
      · omega
      refine l_val rfl (o_move rfl) ?_
      refine l_nil ?_
      refine kt_norm ?_
      refine ⟨(i + 1, v33), ⟨hil, by rw [hct, if_pos hc1, List.length_append]; exact hv33⟩, (by show l.length - (i + 1) < l.length - i; omega), le_app (And.intro rfl (And.intro rfl (True.intro))) [1, 2, 9, 10] rfl (And.intro (congrArg some (own_congr (by rw [hct, if_pos hc1, List.length_append]; rfl) (by rw [hct, if_pos hc1, List.flatMap_append]; simp [eS, clipS]))) (True.intro)) [] rfl⟩
    · have hc1 : ¬ (clipS lo hi (l.getD i dS)).fr < (clipS lo hi (l.getD i dS)).to := hlt
      refine l_nil ?_
      refine kt_norm ?_
      refine v_condF rfl ?_
      refine v_skip ?_
      refine kb_norm ?_
      refine kt_norm ?_
      refine v_sel [11, 6, 1, 2, 9, 10] [33] rfl rfl ?_
      refine v_region ?_
      refine l_val rfl (o_addi rfl rfl ?_) ?_
      · omega
      refine l_val rfl (o_move rfl) ?_
      refine l_nil ?_
      refine kt_norm ?_
      refine ⟨(i + 1, v6), ⟨hil, by rw [hct, if_neg hc1, List.append_nil]; exact hv6⟩, (by show l.length - (i + 1) < l.length - i; omega), le_app (And.intro rfl (And.intro rfl (True.intro))) [1, 2, 9, 10] rfl (And.intro (congrArg some (own_congr (by rw [hct, if_neg hc1, List.append_nil]) (by rw [hct, if_neg hc1, List.append_nil]))) (True.intro)) [] rfl⟩
  · skip
    refine l_nil ?_
    refine kt_norm ?_
    refine v_seq ?_
    refine v_condF rfl ?_
    refine v_exit ?_
    refine kt_exit ?_
    refine kt_exit ?_
    refine kb_eq ?_
    refine kt_norm ?_
    refine v_sel [6] [33] rfl rfl ?_
    refine v_seq ?_
    refine v_region ?_
    obtain rfl : i = l.length := by omega
    refine l_val rfl (o_move rfl) ?_
    refine l_val rfl (o_assign rfl) ?_
    refine l_nil ?_
    refine kt_norm ?_
    refine v_ret ?_
    refine ⟨[_], .cons (.tmp rfl) (ResAll.nil), ?_⟩
    exact ⟨33, congrArg some (own_congr (by rw [List.take_length]) (by rw [List.take_length]))⟩
theorem a_Sum (w : World) (v : Value) (l : List SpanT) (hn : l.length ≤ 1000000) (ho : SpOk l) (hV : RowV v l.length) (hrow : RowAt w v 2 l.length (l.flatMap eS)) :
    Calls Try.prog 21 #[v] w fun e w' => e = .returned (.int .i64 (sumS l)) ∧ Below w.heap.size w w' := by
  have hr : ∀ w', Chg (fun _ => False) w w' → RowAt w' v 2 l.length (l.flatMap eS) := fun w' h => hrow.chg h (fun h => h)
  refine calls_of (args := [v]) Try.func21 rfl Try.ntmps21 Try.results21 rfl ?_
  refine v_seq ?_
  refine v_region ?_
  refine l_val rfl (o_assign rfl) ?_
  refine l_nil ?_
  refine kt_norm ?_
  refine v_seq ?_
  refine v_seq ?_
  refine v_region ?_
  refine l_val rfl (o_move rfl) ?_
  refine l_val rfl (o_len rfl hV) ?_
  refine l_val rfl (o_move rfl) ?_
  refine l_nil ?_
  refine kt_norm ?_
  refine v_block ?_
  refine v_loopS (α := Nat) (fun i => [(7, .int .i64 (i : Int)), (2, .int .i64 (sumS (l.take i)))]) (fun i => [])  (fun i => i ≤ l.length) (fun i => l.length - i) 0 [5, 6] [] (Nat.zero_le _)  (And.intro rfl (And.intro rfl (True.intro))) rfl (True.intro) rfl ?_
  rintro i hi
  refine v_seq ?_
  refine v_region ?_
  refine l_split rfl (o_lss rfl rfl) (fun q1 => ?_) (fun q1 => ?_)
  · have hil : i < l.length := by omega
    have hb1 := spOk_getD ho hil
    have hb2 := sumS_ok (spOk_take ho i)
    have hb3 := List.length_take (i := i) (l := l)
    refine l_nil ?_
    refine kt_norm ?_
    refine v_seq ?_
    refine v_condT rfl ?_
    refine v_skip ?_
    refine kt_norm ?_
    refine v_seq ?_
    refine v_block ?_
    refine v_seq ?_
    refine v_region ?_
    refine l_val rfl (o_idx (i) rfl hV rfl (by first | rfl | omega) (by omega)) ?_
    refine l_val rfl (o_loadRE (c' := [_, _]) rfl (row_imm hr) (el_flat eS_len dS l (i) (by omega)) rfl) ?_
    refine l_new rfl o_alloc fun b4 => ?_
    refine l_store rfl (o_storeW (key := 4) (xs := [_, _]) rfl rfl rfl rfl rfl rfl rfl) ?_
    refine l_nil ?_
    refine kt_norm ?_
    refine v_region ?_
    refine l_val rfl (o_move rfl) ?_
    refine l_val rfl (o_fld rfl) ?_
    refine l_val rfl (o_load1 (key := 4) rfl rfl rfl) ?_
    refine l_val rfl (o_fld rfl) ?_
    refine l_val rfl (o_load1 (key := 4) rfl rfl rfl) ?_
    refine l_val rfl (o_subi rfl rfl ?_) ?_
    · omega
    refine l_val rfl (o_addi rfl rfl ?_) ?_
    · omega
    refine l_val rfl (o_assign rfl) ?_
    refine l_nil ?_
    refine kb_norm ?_
    refine kt_norm ?_
    refine v_sel [7, 2, 5, 6] [] rfl rfl ?_
    refine v_region ?_
    refine l_val rfl (o_addi rfl rfl ?_) ?_
    · omega
    refine l_val rfl (o_move rfl) ?_
    refine l_nil ?_
    refine kt_norm ?_
    refine ⟨i + 1, hil, by omega, le_app (And.intro rfl (And.intro (congrArg (fun q => some (Value.int .i64 q)) (sumS_take hil).symm) (True.intro))) [5, 6] rfl (True.intro) [] rfl⟩
  · skip
    refine l_nil ?_
    refine kt_norm ?_
    refine v_seq ?_
    refine v_condF rfl ?_
    refine v_exit ?_
    refine kt_exit ?_
    refine kt_exit ?_
    refine kb_eq ?_
    refine kt_norm ?_
    refine v_seq ?_
    refine v_region ?_
    obtain rfl : i = l.length := by omega
    refine l_val rfl (o_move rfl) ?_
    refine l_val rfl (o_assign rfl) ?_
    refine l_nil ?_
    refine kt_norm ?_
    refine v_ret ?_
    refine ⟨[_], .cons (.tmp rfl) (ResAll.nil), ?_⟩
    exact congrArg (Value.int .i64) (by rw [List.take_length])
theorem a_Has1 (x : Int) (b : Nat) : PredF Try.prog 46 #[.pointer (some ⟨b, 0, none⟩)] eS (fun s => decide (s.fr ≤ x) && decide (x < s.to)) (fun w => Blk w b #[.int .i64 x] 3) := by
  refine ⟨ent_of Try.func46 rfl rfl, fun w s hG => ?_⟩
  have hG' : ∀ w', Chg (fun _ => False) w w' → Blk w' b #[.int .i64 x] 3 := fun w' h => (h.block b (Blk.lt hG) (fun h => h)).trans hG
  refine calls_of (args := [.agg #[.int .i64 s.fr, .int .i64 s.to], .pointer (some ⟨b, 0, none⟩)]) Try.func46 rfl Try.ntmps46 Try.results46 rfl ?_
  refine v_seq ?_
  refine v_region ?_
  refine l_new rfl (o_box (cs := [_, _]) rfl rfl) fun b2 => ?_
  refine l_val rfl (o_assign rfl) ?_
  refine l_nil ?_
  refine kt_norm ?_
  refine v_seq ?_
  refine v_region ?_
  refine l_val rfl (o_fld rfl) ?_
  refine l_val rfl (o_load1 (key := 2) rfl rfl rfl) ?_
  refine l_val rfl (o_loadG1 rfl (fun w hg => (hG' w hg).cell 0 _ rfl)) ?_
  refine l_split rfl (o_leq rfl rfl) (fun q1 => ?_) (fun q1 => ?_)
  · skip
    refine l_val rfl (o_move rfl) ?_
    refine l_val rfl (o_loadG1 rfl (fun w hg => (hG' w hg).cell 0 _ rfl)) ?_
    refine l_val rfl (o_fld rfl) ?_
    refine l_val rfl (o_load1 (key := 2) rfl rfl rfl) ?_
    refine l_split rfl (o_lss rfl rfl) (fun q2 => ?_) (fun q2 => ?_)
    · skip
      refine l_val rfl (o_pickT rfl rfl) ?_
      refine l_val rfl (o_assign rfl) ?_
      refine l_nil ?_
      refine kt_norm ?_
      refine v_sel [3] [] rfl rfl ?_
      refine v_ret ?_
      refine ⟨[_], .cons (.tmp rfl) (ResAll.nil), ?_⟩
      exact congrArg Value.bool (by first | (rw [decide_eq_false (show ¬ s.fr ≤ x by omega)]; rfl) | (rw [decide_eq_true (show s.fr ≤ x by omega)]; first | (rw [decide_eq_true (show x < s.to by omega)]; rfl) | (rw [decide_eq_false (show ¬ x < s.to by omega)]; rfl)))
    · skip
      refine l_val rfl (o_pickT rfl rfl) ?_
      refine l_val rfl (o_assign rfl) ?_
      refine l_nil ?_
      refine kt_norm ?_
      refine v_sel [3] [] rfl rfl ?_
      refine v_ret ?_
      refine ⟨[_], .cons (.tmp rfl) (ResAll.nil), ?_⟩
      exact congrArg Value.bool (by first | (rw [decide_eq_false (show ¬ s.fr ≤ x by omega)]; rfl) | (rw [decide_eq_true (show s.fr ≤ x by omega)]; first | (rw [decide_eq_true (show x < s.to by omega)]; rfl) | (rw [decide_eq_false (show ¬ x < s.to by omega)]; rfl)))
  · skip
    refine l_val rfl (o_move rfl) ?_
    refine l_no rfl ?_
    refine l_no rfl ?_
    refine l_no rfl ?_
    refine l_no rfl ?_
    refine l_val rfl (o_pickF rfl rfl) ?_
    refine l_val rfl (o_assign rfl) ?_
    refine l_nil ?_
    refine kt_norm ?_
    refine v_sel [3] [] rfl rfl ?_
    refine v_ret ?_
    refine ⟨[_], .cons (.tmp rfl) (ResAll.nil), ?_⟩
    exact congrArg Value.bool (by first | (rw [decide_eq_false (show ¬ s.fr ≤ x by omega)]; rfl) | (rw [decide_eq_true (show s.fr ≤ x by omega)]; first | (rw [decide_eq_true (show x < s.to by omega)]; rfl) | (rw [decide_eq_false (show ¬ x < s.to by omega)]; rfl)))
theorem a_IndexS {f : Nat} {caps : Array Value} {p : SpanT → Bool} {G : World → Prop} (hp : PredF Try.prog f caps eS p G) (w : World) (v : Value) (l : List SpanT) (hn : l.length ≤ 1000000) (hV : RowV v l.length) (hrow : RowAt w v 2 l.length (l.flatMap eS)) (hG : ∀ w', Chg (fun _ => False) w w' → G w') :
    Calls Try.prog 69 #[v, .func (.func f) #[] caps] w fun e w' => e = .returned (.int .i64 (idxS p l)) ∧ Below w.heap.size w w' := by
  have hr : ∀ w', Chg (fun _ => False) w w' → RowAt w' v 2 l.length (l.flatMap eS) := fun w' h => hrow.chg h (fun h => h)
  refine calls_of (args := [v, .func (.func f) #[] caps]) Try.func69 rfl Try.ntmps69 Try.results69 rfl ?_
  refine v_seq ?_
  refine v_region ?_
  refine l_val rfl (o_assign rfl) ?_
  refine l_nil ?_
  refine kt_norm ?_
  refine v_seq ?_
  refine v_seq ?_
  refine v_region ?_
  refine l_val rfl (o_move rfl) ?_
  refine l_val rfl (o_len rfl hV) ?_
  refine l_val rfl (o_move rfl) ?_
  refine l_nil ?_
  refine kt_norm ?_
  refine v_block ?_
  refine v_loopS (α := Nat) (fun i => [(8, .int .i64 (i : Int))]) (fun i => [])  (fun i => i ≤ l.length ∧ ∀ j, j < i → p (l.getD j dS) = false) (fun i => l.length - i) 0 [0, 1, 7] [] ⟨by omega, fun j h => by omega⟩  (And.intro rfl (True.intro)) rfl (True.intro) rfl ?_
  rintro i ⟨hi, hb⟩
  refine v_seq ?_
  refine v_region ?_
  refine l_split rfl (o_lss rfl rfl) (fun q1 => ?_) (fun q1 => ?_)
  · first
    | (exfalso; assumption; done)
    | (
        refine l_nil ?_
        refine kt_norm ?_
        refine v_seq ?_
        refine v_condT rfl ?_
        refine v_skip ?_
        refine kt_norm ?_
        refine v_seq ?_
        refine v_block ?_
        refine v_seq ?_
        refine v_region ?_
        refine l_val rfl (o_move rfl) ?_
        refine l_val rfl (o_assign rfl) ?_
        refine l_nil ?_
        refine kt_norm ?_
        refine v_seq ?_
        refine v_region ?_
        refine l_val rfl (o_move rfl) ?_
        refine l_val rfl (o_move rfl) ?_
        refine l_val rfl (o_move rfl) ?_
        refine l_val rfl (o_idx (i) rfl hV rfl (by first | rfl | omega) (by omega)) ?_
        refine l_val rfl (o_loadRE (c' := [_, _]) rfl (row_imm hr) (el_flat eS_len dS l (i) (by omega)) rfl) ?_
        refine l_call (ks := []) rfl (o_callF (caps := caps) (vs := [_]) (r := .bool (p (l.getD i dS))) rfl hp.ent rfl (fun w' hg _ => hp.ans w' (l.getD i dS) (hG w' hg))) ?_
        refine lz_cases (fun q2 => ?_) (fun q2 => ?_)
        · first
          | (exfalso; assumption; done)
          | (
              refine l_nil ?_
              refine kt_norm ?_
              refine v_sel [8, 0, 1, 7, 5, 16] [] rfl rfl ?_
              refine v_condT rfl ?_
              refine v_seq ?_
              refine v_region ?_
              refine l_val rfl (o_move rfl) ?_
              refine l_val rfl (o_assign rfl) ?_
              refine l_nil ?_
              refine kt_norm ?_
              refine v_sel [4] [] rfl rfl ?_
              refine v_ret ?_
              refine kb_ret ?_
              refine kt_ret ?_
              refine kt_ret ?_
              refine kb_ret ?_
              refine kt_ret ?_
              refine ⟨[_], .cons (.tmp rfl) (ResAll.nil), ?_⟩
              first
                | exact congrArg (Value.int .i64) (idxS_yes (by omega) hb (by assumption)).symm
                | exact congrArg (Value.int .i64) (idxS_no (fun j hj => hb j (by omega))).symm)
        · first
          | (exfalso; assumption; done)
          | (
              refine l_nil ?_
              refine kt_norm ?_
              refine v_sel [8, 0, 1, 7, 5, 16] [] rfl rfl ?_
              refine v_condF rfl ?_
              refine v_skip ?_
              refine kb_norm ?_
              refine kt_norm ?_
              refine v_region ?_
              refine l_val rfl (o_addi rfl rfl ?_) ?_
              · omega
              refine l_val rfl (o_move rfl) ?_
              refine l_nil ?_
              refine kt_norm ?_
              refine ⟨i + 1, ⟨by omega, fun j hj => by rcases Nat.lt_or_eq_of_le (Nat.le_of_lt_succ hj) with h | h; exact hb j h; subst h; assumption⟩, by omega, le_app (And.intro rfl (True.intro)) [0, 1, 7] rfl (True.intro) [] rfl⟩))
  · first
    | (exfalso; assumption; done)
    | (
        refine l_nil ?_
        refine kt_norm ?_
        refine v_seq ?_
        refine v_condF rfl ?_
        refine v_exit ?_
        refine kt_exit ?_
        refine kt_exit ?_
        refine kb_eq ?_
        refine kt_norm ?_
        refine v_seq ?_
        refine v_region ?_
        refine l_val rfl (o_assign rfl) ?_
        refine l_nil ?_
        refine kt_norm ?_
        refine v_ret ?_
        refine ⟨[_], .cons (.tmp rfl) (ResAll.nil), ?_⟩
        first
          | exact congrArg (Value.int .i64) (idxS_yes (by omega) hb (by assumption)).symm
          | exact congrArg (Value.int .i64) (idxS_no (fun j hj => hb j (by omega))).symm)
theorem a_ContS {f : Nat} {caps : Array Value} {p : SpanT → Bool} {G : World → Prop} (hp : PredF Try.prog f caps eS p G) (w : World) (v : Value) (l : List SpanT) (hn : l.length ≤ 1000000) (hV : RowV v l.length) (hrow : RowAt w v 2 l.length (l.flatMap eS)) (hG : ∀ w', Chg (fun _ => False) w w' → G w') :
    Calls Try.prog 45 #[v, .func (.func f) #[] caps] w fun e w' => e = .returned (.bool (l.any p)) ∧ Below w.heap.size w w' := by
  have hr : ∀ w', Chg (fun _ => False) w w' → RowAt w' v 2 l.length (l.flatMap eS) := fun w' h => hrow.chg h (fun h => h)
  refine calls_of (args := [v, .func (.func f) #[] caps]) Try.func45 rfl Try.ntmps45 Try.results45 rfl ?_
  refine v_seq ?_
  refine v_region ?_
  refine l_val rfl (o_assign rfl) ?_
  refine l_nil ?_
  refine kt_norm ?_
  refine v_seq ?_
  refine v_region ?_
  refine l_val rfl (o_move rfl) ?_
  refine l_val rfl (o_move rfl) ?_
  refine l_call (ks := []) rfl (o_callC (vs := [_, _]) (r := .int .i64 (idxS p l)) (ent_of Try.func69 rfl rfl) rfl (fun w' hg hh => a_IndexS hp w' v l hn hV (hr w' hg) (fun w2 hc => hG w2 (hg.trans (hc.mono fun k _ h => h.elim))))) ?_
  refine l_val rfl (o_geq rfl rfl) ?_
  refine l_val rfl (o_assign rfl) ?_
  refine l_nil ?_
  refine kt_norm ?_
  refine v_sel [4] [] rfl rfl ?_
  refine v_ret ?_
  refine ⟨[_], .cons (.tmp rfl) (ResAll.nil), ?_⟩
  exact congrArg Value.bool (idxS_any p l)
theorem a_Has (w : World) (v : Value) (l : List SpanT) (x : Int) (hn : l.length ≤ 1000000) (hV : RowV v l.length) (hrow : RowAt w v 2 l.length (l.flatMap eS)) :
    Calls Try.prog 22 #[v, .int .i64 x] w fun e w' => e = .returned (.bool (hasS l x)) ∧ Below w.heap.size w w' := by
  have hr : ∀ w', Chg (fun _ => False) w w' → RowAt w' v 2 l.length (l.flatMap eS) := fun w' h => hrow.chg h (fun h => h)
  refine calls_of (args := [v, .int .i64 x]) Try.func22 rfl Try.ntmps22 Try.results22 rfl ?_
  refine v_seq ?_
  refine v_region ?_
  refine l_new rfl (o_box (cs := [_]) rfl rfl) fun b3 => ?_
  refine l_val rfl (o_assign rfl) ?_
  refine l_nil ?_
  refine kt_norm ?_
  refine v_seq ?_
  refine v_region ?_
  refine l_val rfl (o_move rfl) ?_
  refine l_val rfl (o_makeFunc (vs := [_]) rfl) ?_
  refine l_call (ks := [3]) rfl (o_callC (vs := [_, _]) (r := .bool (hasS l x)) (ent_of Try.func45 rfl rfl) rfl (fun w' hg hh => a_ContS (a_Has1 x b3) w' v l hn hV (hr w' hg) (fun w2 hc => (hc.block b3 (Blk.lt (hh 3 (by simp) _ rfl)) (fun h => h)).trans (hh 3 (by simp) _ rfl)))) ?_
  refine l_val rfl (o_assign rfl) ?_
  refine l_nil ?_
  refine kt_norm ?_
  refine v_sel [4] [] rfl rfl ?_
  refine v_ret ?_
  refine ⟨[_], .cons (.tmp rfl) (ResAll.nil), ?_⟩
  rfl
theorem a_row20 (n : Int) : Ans Try.prog 15 [.int .i64 n] (.bool (decide (-134217728 ≤ n ∧ n ≤ 134217728))) := by
  refine ans_of Try.func15 rfl Try.ntmps15 Try.results15 rfl rfl fun w => ?_
  refine v_seq ?_
  refine v_region ?_
  refine l_val rfl (o_assign rfl) ?_
  refine l_nil ?_
  refine kt_norm ?_
  refine v_seq ?_
  refine v_region ?_
  refine l_val rfl (o_move rfl) ?_
  refine l_split rfl (o_geq rfl rfl) (fun q1 => ?_) (fun q1 => ?_)
  · first
    | (exfalso; omega; done)
    | (
        refine l_val rfl (o_move rfl) ?_
        refine l_val rfl (o_move rfl) ?_
        refine l_split rfl (o_leq rfl rfl) (fun q2 => ?_) (fun q2 => ?_)
        · first
          | (exfalso; omega; done)
          | (
              refine l_val rfl (o_pickT rfl rfl) ?_
              refine l_val rfl (o_assign rfl) ?_
              refine l_nil ?_
              refine kt_norm ?_
              refine v_sel [2] [] rfl rfl ?_
              refine v_ret ?_
              refine ⟨[_], .cons (.tmp rfl) (ResAll.nil), ?_⟩
              exact congrArg Value.bool (by first | exact (decide_eq_true (by omega)).symm | exact (decide_eq_false (by omega)).symm))
        · first
          | (exfalso; omega; done)
          | (
              refine l_val rfl (o_pickT rfl rfl) ?_
              refine l_val rfl (o_assign rfl) ?_
              refine l_nil ?_
              refine kt_norm ?_
              refine v_sel [2] [] rfl rfl ?_
              refine v_ret ?_
              refine ⟨[_], .cons (.tmp rfl) (ResAll.nil), ?_⟩
              exact congrArg Value.bool (by first | exact (decide_eq_true (by omega)).symm | exact (decide_eq_false (by omega)).symm)))
  · first
    | (exfalso; omega; done)
    | (
        refine l_val rfl (o_move rfl) ?_
        refine l_no rfl ?_
        refine l_no rfl ?_
        refine l_val rfl (o_pickF rfl rfl) ?_
        refine l_val rfl (o_assign rfl) ?_
        refine l_nil ?_
        refine kt_norm ?_
        refine v_sel [2] [] rfl rfl ?_
        refine v_ret ?_
        refine ⟨[_], .cons (.tmp rfl) (ResAll.nil), ?_⟩
        exact congrArg Value.bool (by first | exact (decide_eq_true (by omega)).symm | exact (decide_eq_false (by omega)).symm))
theorem a_far (n : Int) : Ans Try.prog 19 [.int .i64 n] (.bool (decide (n > 1099511627776 ∨ n < -1099511627776))) := by
  refine ans_of Try.func19 rfl Try.ntmps19 Try.results19 rfl rfl fun w => ?_
  refine v_seq ?_
  refine v_region ?_
  refine l_val rfl (o_assign rfl) ?_
  refine l_nil ?_
  refine kt_norm ?_
  refine v_seq ?_
  refine v_region ?_
  refine l_val rfl (o_move rfl) ?_
  refine l_split rfl (o_gtr rfl rfl) (fun q1 => ?_) (fun q1 => ?_)
  · first
    | (exfalso; omega; done)
    | (
        refine l_val rfl (o_move rfl) ?_
        refine l_no rfl ?_
        refine l_no rfl ?_
        refine l_val rfl (o_pickT rfl rfl) ?_
        refine l_val rfl (o_assign rfl) ?_
        refine l_nil ?_
        refine kt_norm ?_
        refine v_sel [2] [] rfl rfl ?_
        refine v_ret ?_
        refine ⟨[_], .cons (.tmp rfl) (ResAll.nil), ?_⟩
        exact congrArg Value.bool (by first | exact (decide_eq_true (by omega)).symm | exact (decide_eq_false (by omega)).symm))
  · first
    | (exfalso; omega; done)
    | (
        refine l_val rfl (o_move rfl) ?_
        refine l_val rfl (o_move rfl) ?_
        refine l_split rfl (o_lss rfl rfl) (fun q2 => ?_) (fun q2 => ?_)
        · first
          | (exfalso; omega; done)
          | (
              refine l_val rfl (o_pickF rfl rfl) ?_
              refine l_val rfl (o_assign rfl) ?_
              refine l_nil ?_
              refine kt_norm ?_
              refine v_sel [2] [] rfl rfl ?_
              refine v_ret ?_
              refine ⟨[_], .cons (.tmp rfl) (ResAll.nil), ?_⟩
              exact congrArg Value.bool (by first | exact (decide_eq_true (by omega)).symm | exact (decide_eq_false (by omega)).symm))
        · first
          | (exfalso; omega; done)
          | (
              refine l_val rfl (o_pickF rfl rfl) ?_
              refine l_val rfl (o_assign rfl) ?_
              refine l_nil ?_
              refine kt_norm ?_
              refine v_sel [2] [] rfl rfl ?_
              refine v_ret ?_
              refine ⟨[_], .cons (.tmp rfl) (ResAll.nil), ?_⟩
              exact congrArg Value.bool (by first | exact (decide_eq_true (by omega)).symm | exact (decide_eq_false (by omega)).symm)))
theorem a_bounded20 (w : World) (v : Value) (pvs : List Value) (ps : List (List PtT)) (hv : PcsW v pvs ps) (hat : PcsAt w v pvs ps) : Calls Try.prog 14 #[v] w fun e w' => e = .returned (.bool (decide (Bn20 ps))) ∧ Below w.heap.size w w' := by
  have hVp := hv.V
  have hlen := hv.len
  have hrowP : ∀ w', Chg (fun _ => False) w w' → RowAt w' v 1 ps.length pvs := fun w' h => (hat.keep h).row
  refine calls_of (args := [v]) Try.func14 rfl Try.ntmps14 Try.results14 rfl ?_
  refine v_seq ?_
  refine v_region ?_
  refine l_val rfl (o_assign rfl) ?_
  refine l_nil ?_
  refine kt_norm ?_
  refine v_seq ?_
  refine v_seq ?_
  refine v_region ?_
  refine l_val rfl (o_assign rfl) ?_
  refine l_nil ?_
  refine kt_norm ?_
  refine v_block ?_
  refine v_loopS (α := Nat) (fun i => [(3, .int .i64 (i : Int))]) (fun i => [])  (fun i => i ≤ ps.length ∧ ∀ k, k < i → BndP (ps.getD k [])) (fun i => ps.length - i) 0 [0] [] ⟨by omega, fun k h => by omega⟩  (And.intro rfl (True.intro)) rfl (True.intro) rfl ?_
  rintro i ⟨hi, hB⟩
  refine v_seq ?_
  refine v_seq ?_
  refine v_region ?_
  refine l_val rfl (o_move rfl) ?_
  refine l_val rfl (o_move rfl) ?_
  refine l_val rfl (o_len rfl hVp) ?_
  refine l_split rfl (o_lss rfl rfl) (fun q1 => ?_) (fun q1 => ?_)
  · have hil : i < ps.length := by omega
    obtain ⟨pc, hpc⟩ : ∃ pc, ps.getD i [] = pc := ⟨_, rfl⟩
    have hVq := hv.pV i hil
    have hrowQ : ∀ w', Chg (fun _ => False) w w' → RowAt w' (pvs.getD i undef) 2 (ps.getD i []).length ((ps.getD i []).flatMap eP) := fun w' h => (hat.keep h).pc i hil
    rw [hpc] at hVq hrowQ
    refine l_nil ?_
    refine kt_norm ?_
    refine v_condT rfl ?_
    refine v_skip ?_
    refine kt_norm ?_
    refine v_seq ?_
    refine v_block ?_
    refine v_seq ?_
    refine v_seq ?_
    refine v_region ?_
    refine l_val rfl (o_move rfl) ?_
    refine l_val rfl (o_move rfl) ?_
    refine l_val rfl (o_idx (i) rfl hVp rfl (by first | rfl | omega) (by omega)) ?_
    refine l_val rfl (o_loadR1 rfl (row_imm hrowP) (el_one (by rw [hv.lenv]; exact hil))) ?_
    refine l_val rfl (o_len rfl hVq) ?_
    refine l_split rfl (o_gtr rfl rfl) (fun h16 => ?_) (fun h16 => ?_)
    · skip
      refine l_nil ?_
      refine kt_norm ?_
      refine v_sel [3, 0, 16] [] rfl rfl ?_
      refine v_condT rfl ?_
      refine v_seq ?_
      refine v_region ?_
      refine l_val rfl (o_assign rfl) ?_
      refine l_nil ?_
      refine kt_norm ?_
      refine v_ret ?_
      refine kt_ret ?_
      refine kb_ret ?_
      refine kt_ret ?_
      refine kt_ret ?_
      refine kb_ret ?_
      refine kt_ret ?_
      refine ⟨[_], .cons (.tmp rfl) (ResAll.nil), ?_⟩
      first
        | exact congrArg Value.bool (decide_eq_false fun h => by have := (h.2 i hil).1; rw [hpc] at this; omega).symm
        | exact congrArg Value.bool (decide_eq_false fun h => by have := (h.2 i hil).2 j (by rw [hpc]; exact hjl); rw [hpc] at this; exact absurd this hnr).symm
        | exact congrArg Value.bool (decide_congr ⟨fun h => ⟨by omega, fun k hk => hB k (by omega)⟩, fun h => by have := h.1; omega⟩)
    · skip
      refine l_nil ?_
      refine kt_norm ?_
      refine v_sel [3, 0, 16] [] rfl rfl ?_
      refine v_condF rfl ?_
      refine v_skip ?_
      refine kt_norm ?_
      refine v_seq ?_
      refine v_region ?_
      refine l_val rfl (o_assign rfl) ?_
      refine l_nil ?_
      refine kt_norm ?_
      refine v_block ?_
      refine v_loopS (α := Nat) (fun j => [(4, .int .i64 (j : Int))]) (fun j => [])  (fun j => j ≤ pc.length ∧ ∀ k, k < j → NearT (pc.getD k dP)) (fun j => pc.length - j) 0 [3, 0] [] ⟨by omega, fun k h => by omega⟩  (And.intro rfl (True.intro)) rfl (True.intro) rfl ?_
      rintro j ⟨hj, hN⟩
      refine v_seq ?_
      refine v_seq ?_
      refine v_region ?_
      refine l_val rfl (o_move rfl) ?_
      refine l_val rfl (o_move rfl) ?_
      refine l_val rfl (o_move rfl) ?_
      refine l_val rfl (o_idx (i) rfl hVp rfl (by first | rfl | omega) (by omega)) ?_
      refine l_val rfl (o_loadR1 rfl (row_imm hrowP) (el_one (by rw [hv.lenv]; exact hil))) ?_
      refine l_val rfl (o_len rfl hVq) ?_
      refine l_split rfl (o_lss rfl rfl) (fun q2 => ?_) (fun q2 => ?_)
      · have hjl : j < pc.length := by omega
        refine l_nil ?_
        refine kt_norm ?_
        refine v_sel [4, 3, 0, 23] [] rfl rfl ?_
        refine v_condT rfl ?_
        refine v_skip ?_
        refine kt_norm ?_
        refine v_seq ?_
        refine v_block ?_
        refine v_seq ?_
        refine v_region ?_
        refine l_val rfl (o_move rfl) ?_
        refine l_val rfl (o_move rfl) ?_
        refine l_val rfl (o_idx (i) rfl hVp rfl (by first | rfl | omega) (by omega)) ?_
        refine l_val rfl (o_loadR1 rfl (row_imm hrowP) (el_one (by rw [hv.lenv]; exact hil))) ?_
        refine l_val rfl (o_move rfl) ?_
        refine l_val rfl (o_idx (j) rfl hVq rfl (by first | rfl | omega) (by omega)) ?_
        refine l_val rfl (o_loadRE (c' := [_, _]) rfl (row_imm hrowQ) (el_flat eP_len dP pc (j) (by omega)) rfl) ?_
        refine l_ans (vs := [_]) rfl rfl (a_Near (pc.getD j dP)) ?_
        refine lz_bool (fun hnr => ?_) (fun hnr => ?_)
        · skip
          refine l_val rfl (o_not rfl rfl) ?_
          refine l_nil ?_
          refine kt_norm ?_
          refine v_sel [4, 3, 0, 34] [] rfl rfl ?_
          refine v_condF rfl ?_
          refine v_skip ?_
          refine kb_norm ?_
          refine kt_norm ?_
          refine v_region ?_
          refine l_val rfl (o_move rfl) ?_
          refine l_val rfl (o_addi rfl rfl ?_) ?_
          · omega
          refine l_val rfl (o_assign rfl) ?_
          refine l_nil ?_
          refine kt_norm ?_
          refine ⟨j + 1, ⟨hjl, fun k hk => by rcases Nat.lt_or_eq_of_le (Nat.le_of_lt_succ hk) with h | h; exact hN k h; subst h; assumption⟩, by omega, le_app (And.intro rfl (True.intro)) [3, 0] rfl (True.intro) [] rfl⟩
        · skip
          refine l_val rfl (o_not rfl rfl) ?_
          refine l_nil ?_
          refine kt_norm ?_
          refine v_sel [4, 3, 0, 34] [] rfl rfl ?_
          refine v_condT rfl ?_
          refine v_seq ?_
          refine v_region ?_
          refine l_val rfl (o_assign rfl) ?_
          refine l_nil ?_
          refine kt_norm ?_
          refine v_ret ?_
          refine kb_ret ?_
          refine kt_ret ?_
          refine kt_ret ?_
          refine kb_ret ?_
          refine kb_ret ?_
          refine kt_ret ?_
          refine kt_ret ?_
          refine kb_ret ?_
          refine kt_ret ?_
          refine ⟨[_], .cons (.tmp rfl) (ResAll.nil), ?_⟩
          first
            | exact congrArg Value.bool (decide_eq_false fun h => by have := (h.2 i hil).1; rw [hpc] at this; omega).symm
            | exact congrArg Value.bool (decide_eq_false fun h => by have := (h.2 i hil).2 j (by rw [hpc]; exact hjl); rw [hpc] at this; exact absurd this hnr).symm
            | exact congrArg Value.bool (decide_congr ⟨fun h => ⟨by omega, fun k hk => hB k (by omega)⟩, fun h => by have := h.1; omega⟩)
      · skip
        refine l_nil ?_
        refine kt_norm ?_
        refine v_sel [4, 3, 0, 23] [] rfl rfl ?_
        refine v_condF rfl ?_
        refine v_exit ?_
        refine kt_exit ?_
        refine kt_exit ?_
        refine kb_eq ?_
        refine kb_norm ?_
        refine kt_norm ?_
        refine v_region ?_
        refine l_val rfl (o_move rfl) ?_
        refine l_val rfl (o_addi rfl rfl ?_) ?_
        · omega
        refine l_val rfl (o_assign rfl) ?_
        refine l_nil ?_
        refine kt_norm ?_
        refine ⟨i + 1, ⟨hil, fun k hk => by rcases Nat.lt_or_eq_of_le (Nat.le_of_lt_succ hk) with h | h; exact hB k h; subst h; rw [hpc]; exact ⟨by omega, fun m hm => hN m (by omega)⟩⟩, by omega, le_app (And.intro rfl (True.intro)) [0] rfl (True.intro) [] rfl⟩
  · skip
    refine l_nil ?_
    refine kt_norm ?_
    refine v_condF rfl ?_
    refine v_exit ?_
    refine kt_exit ?_
    refine kt_exit ?_
    refine kb_eq ?_
    refine kt_norm ?_
    refine v_seq ?_
    refine v_region ?_
    refine l_val rfl (o_move rfl) ?_
    refine l_val rfl (o_len rfl hVp) ?_
    refine l_val rfl (o_leq rfl rfl) ?_
    refine l_val rfl (o_assign rfl) ?_
    refine l_nil ?_
    refine kt_norm ?_
    refine v_sel [2] [] rfl rfl ?_
    refine v_ret ?_
    refine ⟨[_], .cons (.tmp rfl) (ResAll.nil), ?_⟩
    first
      | exact congrArg Value.bool (decide_eq_false fun h => by have := (h.2 i hil).1; rw [hpc] at this; omega).symm
      | exact congrArg Value.bool (decide_eq_false fun h => by have := (h.2 i hil).2 j (by rw [hpc]; exact hjl); rw [hpc] at this; exact absurd this hnr).symm
      | exact congrArg Value.bool (decide_congr ⟨fun h => ⟨by omega, fun k hk => hB k (by omega)⟩, fun h => by have := h.1; omega⟩)
theorem a_all (w : World) (v : Value) (pvs : List Value) (ps : List (List PtT)) (hb : Bnd ps) (hv : PcsV v pvs ps) (hat : PcsAt w v pvs ps) :
    Calls Try.prog 18 #[v] w fun e w' => ∃ y, e = .returned y ∧ Below w.heap.size w w' ∧ OwnAt w.heap.size w' y 90 7 (edgesAll ps).length ((edgesAll ps).flatMap eE) := by
  have hVp := hv.V
  have hlen := hv.len
  have hrowP : ∀ w', Chg (fun _ => False) w w' → RowAt w' v 1 ps.length pvs := fun w' h => (hat.keep h).row
  refine calls_own (args := [v]) Try.func18 rfl Try.ntmps18 Try.results18 rfl ?_
  refine v_seq ?_
  refine v_region ?_
  refine l_val rfl (o_assign rfl) ?_
  refine l_nil ?_
  refine kt_norm ?_
  refine v_seq ?_
  refine v_region ?_
  refine l_buildSlice (vs := []) (cs := []) rfl rfl rfl rfl rfl rfl fun v5 hv5 => ?_
  refine l_val rfl (o_assign rfl) ?_
  refine l_nil ?_
  refine kt_norm ?_
  refine v_seq ?_
  refine v_seq ?_
  refine v_region ?_
  refine l_val rfl (o_assign rfl) ?_
  refine l_nil ?_
  refine kt_norm ?_
  refine v_block ?_
  refine v_ren 5 18 [] rfl rfl rfl ?_
  refine v_loopS (α := Nat × Value) (fun ⟨i, v3⟩ => [(4, .int .i64 (i : Int)), (3, v3)]) (fun ⟨i, v3⟩ => [(18, Hp.own v3 90 7 (edgesAll (ps.take i)).length ((edgesAll (ps.take i)).flatMap eE))])  (fun ⟨i, v3⟩ => i ≤ ps.length ∧ RowV v3 (edgesAll (ps.take i)).length) (fun ⟨i, v3⟩ => ps.length - i) (0, v5) [0] [] ⟨Nat.zero_le _, hv5⟩  (And.intro rfl (And.intro rfl (True.intro))) rfl (And.intro rfl (True.intro)) rfl ?_
  rintro ⟨i, v3⟩ ⟨hi, hv3⟩
  refine v_seq ?_
  refine v_seq ?_
  refine v_region ?_
  refine l_val rfl (o_move rfl) ?_
  refine l_val rfl (o_move rfl) ?_
  refine l_val rfl (o_len rfl hVp) ?_
  refine l_split rfl (o_lss rfl rfl) (fun q1 => ?_) (fun q1 => ?_)
  · have hil : i < ps.length := by omega
    obtain ⟨pc, hpc⟩ : ∃ pc, ps.getD i [] = pc := ⟨_, rfl⟩
    have hVq := hv.pV i hil
    have hnear := hv.near i hil
    have hbi := (hb.2 i hil).1
    have hrowQ : ∀ w', Chg (fun _ => False) w w' → RowAt w' (pvs.getD i undef) 2 (ps.getD i []).length ((ps.getD i []).flatMap eP) := fun w' h => (hat.keep h).pc i hil
    rw [hpc] at hVq hnear hrowQ hbi
    have hofl := edgesTo_len pc pc.length
    have hofe : (edgesTo pc pc.length).length = (edgesOf pc).length := rfl
    have hall := all_split hil 0
    rw [List.take_zero, List.append_nil] at hall
    have h320 := edgesAll_len hb
    have hsu := all_take_succ hil
    rw [hpc] at hsu
    refine l_nil ?_
    refine kt_norm ?_
    refine v_condT rfl ?_
    refine v_skip ?_
    refine kt_norm ?_
    refine v_seq ?_
    refine v_block ?_
    refine v_region ?_
    refine l_val rfl (o_move rfl) ?_
    refine l_val rfl (o_move rfl) ?_
    refine l_val rfl (o_move rfl) ?_
    refine l_val rfl (o_idx (i) rfl hVp rfl (by first | rfl | omega) (by omega)) ?_
    refine l_val rfl (o_loadR1 rfl (row_imm hrowP) (el_one (by rw [hv.lenv]; exact hil))) ?_
    refine l_gown (ks := []) (caps := #[]) (vs := [_]) rfl rfl (ent_of Try.func32 rfl rfl) rfl (fun w' hg hh => a_OfE w' (pvs.getD i undef) pc (by omega) hVq (hrowQ w' hg) hnear) fun v17 hv17 => ?_
    refine l_append 18 [17] rfl rfl rfl rfl rfl rfl rfl hv17 (row_own (key := 17) rfl) (by omega) fun v18 hv18 => ?_
    refine l_val rfl (o_assign rfl) ?_
    refine l_nil ?_
    refine kb_norm ?_
    refine kt_norm ?_
    refine v_sel [4, 3, 0] [18] rfl rfl ?_
    refine v_region ?_
    refine l_val rfl (o_move rfl) ?_
    refine l_val rfl (o_addi rfl rfl ?_) ?_
    · omega
    refine l_val rfl (o_assign rfl) ?_
    refine l_nil ?_
    refine kt_norm ?_
    refine ⟨(i + 1, v18), ⟨hil, by rw [hsu, List.length_append]; exact hv18⟩, (by show ps.length - (i + 1) < ps.length - i; omega), le_app (And.intro rfl (And.intro rfl (True.intro))) [0] rfl (And.intro (congrArg some (own_congr (by rw [hsu, List.length_append]) (by rw [hsu, List.flatMap_append]))) (True.intro)) [] rfl⟩
  · skip
    refine l_nil ?_
    refine kt_norm ?_
    refine v_condF rfl ?_
    refine v_exit ?_
    refine kt_exit ?_
    refine kt_exit ?_
    refine kb_eq ?_
    refine kt_norm ?_
    refine v_sel [3] [18] rfl rfl ?_
    refine v_seq ?_
    refine v_region ?_
    obtain rfl : i = ps.length := by omega
    refine l_val rfl (o_move rfl) ?_
    refine l_val rfl (o_assign rfl) ?_
    refine l_nil ?_
    refine kt_norm ?_
    refine v_ret ?_
    refine ⟨[_], .cons (.tmp rfl) (ResAll.nil), ?_⟩
    exact ⟨18, congrArg some (own_congr (by rw [List.take_length]) (by rw [List.take_length]))⟩
end Go.Proofs.Ytaijclimdfchfaa
