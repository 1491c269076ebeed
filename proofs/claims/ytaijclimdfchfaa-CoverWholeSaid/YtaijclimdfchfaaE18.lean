import Derived.Test.YtaijclimdfchfaaE17
/- The table of the edges of a view. Conditions: none. -/
namespace Go.Proofs.Ytaijclimdfchfaa
open Go.Proofs Go.RowKit Go.Shelf

/-! ### the edges of a view -/
def cutE (f t : Int) (e : EdgeT) : EdgeT := ⟨e.x, e.y, e.dx, e.dy, e.wi, if e.fr < f then f else e.fr, if t < e.to then t else e.to⟩
theorem cutE_fr (f t : Int) (e : EdgeT) : (cutE f t e).fr = if e.fr < f then f else e.fr := rfl
theorem cutE_to (f t : Int) (e : EdgeT) : (cutE f t e).to = if t < e.to then t else e.to := rfl
def inE (f t : Int) (e : EdgeT) : Bool := decide ((cutE f t e).fr < (cutE f t e).to)
/-- what of the first edges lies in the view -/
def viewEs (f t : Int) (l : List EdgeT) : List EdgeT := (l.map (cutE f t)).filter fun e => decide (e.fr < e.to)
theorem viewEs_snoc (f t : Int) (l : List EdgeT) (e : EdgeT) : viewEs f t (l ++ [e]) = viewEs f t l ++ (if (cutE f t e).fr < (cutE f t e).to then [cutE f t e] else []) := by
  unfold viewEs
  rw [List.map_append, List.filter_append]
  congr 1
  by_cases h : (cutE f t e).fr < (cutE f t e).to
  · rw [if_pos h, List.map_cons, List.map_nil, List.filter_cons_of_pos (by simpa using h), List.filter_nil]
  · rw [if_neg h, List.map_cons, List.map_nil, List.filter_cons_of_neg (by simpa using h), List.filter_nil]
theorem viewEs_len (f t : Int) (l : List EdgeT) : (viewEs f t l).length ≤ l.length := Nat.le_trans (List.length_filter_le _ _) (by rw [List.length_map]; exact Nat.le_refl _)
theorem take_snoc {α : Type} {l : List α} {k : Nat} {x : α} (h : l[k]? = some x) : l.take (k + 1) = l.take k ++ [x] := by
  rw [List.take_add_one, h]; rfl
theorem edgesAll_len {ps : List (List PtT)} (h : Bnd ps) : (edgesAll ps).length ≤ 320 := by
  have h1 : ∀ (q : List (List PtT)), (∀ pc ∈ q, pc.length ≤ 16) → (edgesAll q).length ≤ 16 * q.length := fun q => by
    induction q with
    | nil => intro _; exact Nat.le_refl _
    | cons pc r ih =>
      intro hq
      have h2 := ih fun x hx => hq x (List.mem_cons_of_mem _ hx)
      have h3 := hq pc List.mem_cons_self
      have h4 := edgesTo_len pc pc.length
      have e : edgesAll (pc :: r) = edgesOf pc ++ edgesAll r := by simp [edgesAll]
      rw [e, List.length_append, List.length_cons, edgesOf]
      omega
  have h5 := h1 ps fun pc hpc => by
    obtain ⟨i, hi, rfl⟩ := List.getElem_of_mem hpc
    have := (h.2 i hi).1
    rwa [List.getD_eq_getElem?_getD, List.getElem?_eq_getElem hi] at this
  have := h.1
  omega
theorem edgesAll_ok {ps : List (List PtT)} (h : Bnd ps) : ∀ e ∈ edgesAll ps, EdgeOk e ∧ Unit e := fun e he => by
  obtain ⟨pc, hpc, hm⟩ := List.mem_flatMap.1 he
  obtain ⟨i, hi, rfl⟩ := List.getElem_of_mem hpc
  have hb := h.2 i hi
  rw [List.getD_eq_getElem?_getD, List.getElem?_eq_getElem hi] at hb
  exact ⟨edgeOk_to (BndP.near hb) _ (Nat.le_refl _) e hm, unit_edgesTo _ _ e hm⟩
theorem viewEs_mem {f t : Int} {l : List EdgeT} {e : EdgeT} (h : e ∈ viewEs f t l) : ∃ e0 ∈ l, e = cutE f t e0 ∧ e.fr < e.to := by
  have := List.mem_filter.1 h
  obtain ⟨e0, h0, rfl⟩ := List.mem_map.1 this.1
  exact ⟨e0, h0, rfl, by simpa using this.2⟩

theorem viewEs_ok {f t : Int} {ps : List (List PtT)} (h : Bnd ps) (hf : -1099511627776 ≤ f ∧ f ≤ 1099511627776) : ∀ e ∈ viewEs f t (edgesAll ps), FrOk e := fun e he => by
  obtain ⟨e0, h0, rfl, _⟩ := viewEs_mem he
  have h1 := (edgesAll_ok h e0 h0).1
  have h2 := h1.fr; have h3 := h1.y; have h4 := rowOf_def e0.y
  unfold FrOk
  rw [cutE_fr]
  split <;> omega
theorem viewEs_yes {f t : Int} {l : List EdgeT} {k : Nat} {x : EdgeT} (hx : l[k]? = some x) (h : (if x.fr < f then f else x.fr) < (if t < x.to then t else x.to)) : viewEs f t (l.take (k + 1)) = viewEs f t (l.take k) ++ [cutE f t x] := by
  rw [take_snoc hx, viewEs_snoc, if_pos (by rw [cutE_fr, cutE_to]; exact h)]
theorem viewEs_no {f t : Int} {l : List EdgeT} {k : Nat} {x : EdgeT} (hx : l[k]? = some x) (h : ¬ (if x.fr < f then f else x.fr) < (if t < x.to then t else x.to)) : viewEs f t (l.take (k + 1)) = viewEs f t (l.take k) := by
  rw [take_snoc hx, viewEs_snoc, if_neg (by rw [cutE_fr, cutE_to]; exact h), List.append_nil]

theorem a_Sort (w : World) (v : Value) (l : List EdgeT) (hl : l.length ≤ 1099511627776) (hok : (Hp.own v 90 7 l.length (l.flatMap eE)).ok w) (hfr : ∀ e ∈ l, FrOk e) : Calls Try.prog 62 #[v, .func (.func 63) #[] #[]] w fun e w' => (∃ y, e = .returned y) ∧ ∃ l', SrtQ l 0 l.length l' ∧ Chg (fun b => v.ownBlock = some b) w w' ∧ (Hp.own v 90 7 l.length (l'.flatMap eE)).ok w' := by
  have hV := rowV_own hok
  refine calls_mutX (args := [v, .func (.func 63) #[] #[]]) v (fun l' => SrtQ l 0 l.length l') (fun l' => l'.flatMap eE) Try.func62 rfl Try.ntmps62 Try.results62 rfl hok ?_
  refine v_region ?_
  refine l_val rfl (o_move rfl) ?_
  refine l_val rfl (o_move rfl) ?_
  refine l_val rfl (o_len rfl hV) ?_
  refine l_val rfl (o_move rfl) ?_
  refine l_gmutX (ks := []) 1000 (fun lz => SrtQ l 0 l.length lz) (fun lz => lz.flatMap eE) (n := l.length) (caps := #[]) (vs := [_, _, _]) rfl rfl (ent_of Try.func82 rfl rfl) rfl rfl (fun w' hg hh hok2 => a_Stable w' v l hl hok2 hfr) (fun l2 y2 hS2 => ?_)
  refine l_nil ?_
  refine ⟨[], ResAll.nil, ?_⟩
  exact ⟨l2, hS2, rfl⟩
set_option maxHeartbeats 1000000 in
theorem a_Table (w : World) (a0 : Option Addr) (n0 c0 : Nat) (pvs : List Value) (ps : List (List PtT)) (X Y W H : Int) (hb : Bnd ps) (hv : PcsV (.slice a0 n0 c0) pvs ps) (hat : PcsAt w (.slice a0 n0 c0) pvs ps) (hvw : ViewOk X Y W H) :
    Calls Try.prog 43 #[.slice a0 n0 c0, .agg #[.int .i64 X, .int .i64 Y, .int .i64 W, .int .i64 H]] w fun e w' => ∃ y es, e = .returned y ∧ SrtQ (viewEs (16 * Y) (16 * (Y + H)) (edgesAll ps)) 0 (viewEs (16 * Y) (16 * (Y + H)) (edgesAll ps)).length es ∧ Below w.heap.size w w' ∧ OwnAt w.heap.size w' y 90 7 (viewEs (16 * Y) (16 * (Y + H)) (edgesAll ps)).length (es.flatMap eE) := by
  have vd := (viewOk_def X Y W H).1 hvw
  refine calls_ownX (args := [.slice a0 n0 c0, .agg #[.int .i64 X, .int .i64 Y, .int .i64 W, .int .i64 H]]) (fun es => SrtQ (viewEs (16 * Y) (16 * (Y + H)) (edgesAll ps)) 0 (viewEs (16 * Y) (16 * (Y + H)) (edgesAll ps)).length es) (fun es => es.flatMap eE) (fun _ => (viewEs (16 * Y) (16 * (Y + H)) (edgesAll ps)).length) Try.func43 rfl Try.ntmps43 Try.results43 rfl ?_
  refine v_seq ?_
  refine v_region ?_
  refine l_new rfl (o_box (cs := [_, _, _, _]) rfl rfl) fun b3 => ?_
  refine l_new rfl o_alloc fun b4 => ?_
  refine l_nil ?_
  refine kt_norm ?_
  refine v_seq ?_
  refine v_seq ?_
  refine v_region ?_
  refine l_val rfl (o_loadW (key := 3) rfl rfl rfl) ?_
  refine l_ans (vs := [_]) rfl rfl ((show Ans Try.prog _ _ (.int .i64 0) by have := a_Check X Y W H; rwa [if_pos hvw] at this)) ?_
  refine l_split rfl (o_neq rfl rfl) (fun q1 => absurd q1 (by omega)) (fun q1 => ?_)
  refine l_nil ?_
  refine kt_norm ?_
  refine v_condF rfl ?_
  refine v_skip ?_
  refine kt_norm ?_
  refine v_seq ?_
  refine v_drawZ [[], [3], [], [], [3], [], [3], [], [], [], [], [5], [6]] mixed ?_ (by kernel_rfl) (by kernel_rfl)
  refine d_val (fun _ => rfl) rfl rfl (fun _ => o_fld rfl) ?_
  refine d_val (fun _ => rfl) rfl rfl (fun _ => o_load1 (key := 3) rfl rfl rfl) ?_
  refine d_val (fun _ => rfl) rfl rfl (fun _ => o_muli rfl rfl ?_) ?_
  · omega
  refine d_val (fun _ => rfl) rfl rfl (fun _ => o_fld rfl) ?_
  refine d_val (fun _ => rfl) rfl rfl (fun _ => o_load1 (key := 3) rfl rfl rfl) ?_
  refine d_val (fun _ => rfl) rfl rfl (fun _ => o_fld rfl) ?_
  refine d_val (fun _ => rfl) rfl rfl (fun _ => o_load1 (key := 3) rfl rfl rfl) ?_
  refine d_val (fun _ => rfl) rfl rfl (fun _ => o_addi rfl rfl ?_) ?_
  · omega
  refine d_val (fun _ => rfl) rfl rfl (fun _ => o_muli rfl rfl ?_) ?_
  · omega
  refine d_new (fun _ => rfl) rfl rfl (fun _ => o_alloc) ?_
  refine d_new (fun _ => rfl) rfl rfl (fun _ => o_alloc) ?_
  refine d_store (fun _ => rfl) rfl rfl (fun _ => o_store1 (key := 5) (rs := [_]) rfl rfl rfl rfl rfl rfl rfl) ?_
  refine d_store (fun _ => rfl) rfl rfl (fun _ => o_store1 (key := 6) (rs := [_]) rfl rfl rfl rfl rfl rfl rfl) ?_
  refine d_nil (fun σ => ?_)
  refine l_nil ?_
  refine kt_norm ?_
  refine v_sel [0, 4, 5, 6] [4, 5, 6] rfl rfl ?_
  refine v_seq ?_
  refine v_seq ?_
  refine v_region ?_
  refine l_val rfl (o_move rfl) ?_
  refine l_gbox (ks := []) (caps := #[]) (vs := [_]) (T := 22) (cs := [_]) rfl rfl (ent_of Try.func54 rfl rfl) rfl (fun w' _ _ => a_edges w' a0 n0 c0) fun b21 => ?_
  refine l_nil ?_
  refine kt_norm ?_
  refine v_block ?_
  refine v_freeze 21 [4, 5, 6] rfl rfl rfl ?_
  refine v_ghost 41 90 7 ?_
  refine v_range (τ := Value × List EdgeT) rfl rfl rfl (ent_of Try.func75 rfl rfl) (a_edges1 b21 (.slice a0 n0 c0) pvs ps hv) (fun w' hg => ⟨hg.2, hat.keep hg.1⟩) (fun _ => rfl) (fun t => [(4, .box b4 28 [t.1]), (5, .box (σ 5) 3 [.int .i64 (16 * Y)]), (6, .box (σ 6) 3 [.int .i64 (16 * (Y + H))]), (41, .own t.1 90 7 t.2.length (t.2.flatMap eE))]) (fun k t => t.2 = viewEs (16 * Y) (16 * (Y + H)) ((edgesAll ps).take k) ∧ RowV t.1 t.2.length) (.slice none 0 0, []) ⟨rfl, .nil0⟩ [4, 5, 6, 41] rfl ?_ ?_
  · rintro k x ⟨va, es⟩ lp W1 Wa hx ⟨hes, hva⟩
    dsimp only at hes hva
    have hel : es.length ≤ 320 := by rw [hes]; have h1 := viewEs_len (16 * Y) (16 * (Y + H)) ((edgesAll ps).take k); have h2 := edgesAll_len hb; have h3 := List.length_take (i := k) (l := edgesAll ps); omega
    refine v_region ?_
    refine l_new rfl o_alloc fun b7 => ?_
    refine l_store rfl (o_storeW (key := 7) (xs := [_, _, _, _, _, _, _]) rfl rfl rfl rfl rfl rfl rfl) ?_
    refine l_nil ?_
    refine ⟨rfl, rfl, rfl, rfl, fun W2 Wb => ?_⟩
    refine v_block ?_
    refine v_seq ?_
    refine v_drawZ [[], [7], [5], [], [], [7], [6], [], [], [7], [], [7]] mixed ?_ (by kernel_rfl) (by kernel_rfl)
    refine d_val (fun _ => rfl) rfl rfl (fun _ => o_fld rfl) ?_
    refine d_val (fun _ => rfl) rfl rfl (fun _ => o_load1 (key := 7) rfl rfl rfl) ?_
    refine d_val (fun _ => rfl) rfl rfl (fun _ => o_load1 (key := 5) rfl rfl rfl) ?_
    refine d_val (fun _ => rfl) rfl rfl (fun _ => o_max rfl rfl) ?_
    refine d_val (fun _ => rfl) rfl rfl (fun _ => o_fld rfl) ?_
    refine d_val (fun _ => rfl) rfl rfl (fun _ => o_load1 (key := 7) rfl rfl rfl) ?_
    refine d_val (fun _ => rfl) rfl rfl (fun _ => o_load1 (key := 6) rfl rfl rfl) ?_
    refine d_val (fun _ => rfl) rfl rfl (fun _ => o_min rfl rfl) ?_
    refine d_val (fun _ => rfl) rfl rfl (fun _ => o_fld rfl) ?_
    refine d_store (fun _ => rfl) rfl rfl (fun _ => o_store1 (key := 7) (rs := [_, _, _, _, _, _, _]) rfl rfl rfl rfl rfl rfl rfl) ?_
    refine d_val (fun _ => rfl) rfl rfl (fun _ => o_fld rfl) ?_
    refine d_store (fun _ => rfl) rfl rfl (fun _ => o_store1 (key := 7) (rs := [_, _, _, _, _, _, _]) rfl rfl rfl rfl rfl rfl rfl) ?_
    refine d_nil (fun σ => ?_)
    refine l_nil ?_
    refine kt_norm ?_
    refine v_sel [0, 4, 5, 6, 7] [4, 5, 6, 7, 41] rfl rfl ?_
    refine v_seq ?_
    refine v_region ?_
    refine l_val rfl (o_fld rfl) ?_
    refine l_val rfl (o_load1 (key := 7) rfl rfl rfl) ?_
    refine l_val rfl (o_fld rfl) ?_
    refine l_val rfl (o_load1 (key := 7) rfl rfl rfl) ?_
    refine l_split rfl (o_lss rfl rfl) (fun hlt => ?_) (fun hlt => ?_)
    · skip
      refine l_nil ?_
      refine kt_norm ?_
      refine v_condT rfl ?_
      refine v_region ?_
      refine l_val rfl (o_load1 (key := 4) rfl rfl rfl) ?_
      refine l_val rfl (o_loadW (key := 7) rfl rfl rfl) ?_
      refine l_buildSlice (vs := [_]) (cs := [_, _, _, _, _, _, _]) rfl rfl rfl rfl rfl rfl fun v40 hv40 => ?_
      refine l_append 41 [4, 5, 6, 7, 40] rfl rfl rfl rfl rfl rfl rfl hv40 (row_own (key := 40) rfl) (by show es.length + 1 ≤ _; omega) fun v41 hv41 => ?_
      refine l_store rfl (o_store1 (key := 4) (rs := [_]) rfl rfl (rowV_cells hv41) rfl rfl (rowV_one hv41) rfl) ?_
      refine l_nil ?_
      refine kb_norm ?_
      exact ⟨rfl, (v41, es ++ [cutE (16 * Y) (16 * (Y + H)) x]), ⟨by show es ++ [cutE (16 * Y) (16 * (Y + H)) x] = _; rw [viewEs_yes hx hlt, hes], by rw [List.length_append]; exact hv41⟩, ⟨fun _ _ h => (by cases h), leL_ok _ (And.intro rfl (And.intro rfl (And.intro rfl (And.intro (congrArg some (own_congr (by simp) (by simp [eE, cutE]))) True.intro)))), rfl, rfl, rfl⟩⟩
    · skip
      refine l_nil ?_
      refine kt_norm ?_
      refine v_condF rfl ?_
      refine v_skip ?_
      refine kb_norm ?_
      exact ⟨rfl, (va, es), ⟨by show es = _; rw [viewEs_no hx hlt, hes], hva⟩, ⟨fun _ _ h => (by cases h), leL_ok _ (And.intro rfl (And.intro rfl (And.intro rfl (And.intro rfl True.intro)))), rfl, rfl, rfl⟩⟩
  · rintro ⟨va, es⟩ D ⟨hes, hva⟩
    dsimp only at hes hva
    rw [List.take_length] at hes
    have hfe : ∀ e ∈ es, FrOk e := by rw [hes]; exact viewEs_ok hb (by omega)
    have hel : es.length ≤ 320 := by rw [hes]; have h1 := viewEs_len (16 * Y) (16 * (Y + H)) (edgesAll ps); have h2 := edgesAll_len hb; omega
    refine kb_norm ?_
    refine kt_norm ?_
    refine v_sel [4] [4, 41] rfl rfl ?_
    refine v_seq ?_
    refine v_region ?_
    refine l_val rfl (o_load1 (key := 4) rfl rfl rfl) ?_
    refine l_gmutX (ks := []) 41 (fun lz => SrtQ es 0 es.length lz) (fun lz => lz.flatMap eE) (n := es.length) (caps := #[]) (vs := [_, _]) rfl rfl (ent_of Try.func62 rfl rfl) rfl rfl (fun w' hg hh hok2 => a_Sort w' va es (by omega) hok2 hfe) (fun l2 y2 hS2 => ?_)
    refine l_nil ?_
    refine kt_norm ?_
    refine v_seq ?_
    refine v_region ?_
    refine l_val rfl (o_load1 (key := 4) rfl rfl rfl) ?_
    refine l_store rfl (o_store1 (key := 4) (rs := [_]) rfl rfl (rowV_cells hva) rfl rfl (rowV_one hva) rfl) ?_
    refine l_nil ?_
    refine kt_norm ?_
    refine v_ret ?_
    refine ⟨[_], .cons (.cell1 (key := 4) rfl rfl) (ResAll.nil), ?_⟩
    subst hes
    exact ⟨l2, hS2, 41, rfl⟩
theorem a_TableN (w : World) (v : Value) (X Y W H : Int) (hvw : ¬ ViewOk X Y W H) :
    Calls Try.prog 43 #[v, .agg #[.int .i64 X, .int .i64 Y, .int .i64 W, .int .i64 H]] w fun e w' => ∃ y, e = .returned y ∧ Below w.heap.size w w' ∧ OwnAt w.heap.size w' y 90 7 0 [] := by
  refine calls_own (args := [v, .agg #[.int .i64 X, .int .i64 Y, .int .i64 W, .int .i64 H]]) Try.func43 rfl Try.ntmps43 Try.results43 rfl ?_
  refine v_ghost 1000 90 7 ?_
  refine v_seq ?_
  refine v_region ?_
  refine l_new rfl (o_box (cs := [_, _, _, _]) rfl rfl) fun b3 => ?_
  refine l_new rfl o_alloc fun b4 => ?_
  refine l_nil ?_
  refine kt_norm ?_
  refine v_seq ?_
  refine v_seq ?_
  refine v_region ?_
  refine l_val rfl (o_loadW (key := 3) rfl rfl rfl) ?_
  refine l_ans (vs := [_]) rfl rfl ((show Ans Try.prog _ _ (.int .i64 190) by have := a_Check X Y W H; rwa [if_neg hvw] at this)) ?_
  refine l_split rfl (o_neq rfl rfl) (fun q1 => ?_) (fun q1 => absurd (show _ by omega) q1)
  refine l_nil ?_
  refine kt_norm ?_
  refine v_condT rfl ?_
  refine v_seq ?_
  refine v_region ?_
  refine l_store rfl (o_store1 (key := 4) (rs := [_]) rfl rfl rfl rfl rfl rfl rfl) ?_
  refine l_nil ?_
  refine kt_norm ?_
  refine v_sel [4] [4, 1000] rfl rfl ?_
  refine v_ret ?_
  refine kt_ret ?_
  refine ⟨[_], .cons (.cell1 (key := 4) rfl rfl) (ResAll.nil), ?_⟩
  exact ⟨1000, rfl⟩
end Go.Proofs.Ytaijclimdfchfaa
