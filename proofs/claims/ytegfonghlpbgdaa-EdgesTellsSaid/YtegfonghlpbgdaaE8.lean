import Derived.Test.YtegfonghlpbgdaaE7
/- Each row crosses as many edges of any corners down as up. Conditions: none. -/
namespace Go.Proofs.Ytegfonghlpbgdaa
open Go.Proofs Go.RowKit Go.Shelf

/-! ### each row is crossed as often down as up -/
def windSum (l : List EdgeT) : Int := (l.map (·.wi)).sum
theorem windSum_append (a b : List EdgeT) : windSum (a ++ b) = windSum a + windSum b := by simp [windSum]
theorem windSum_succ {l : List EdgeT} {i : Nat} (h : i < l.length) : windSum (l.take (i + 1)) = windSum (l.take i) + (l.getD i dE).wi := by
  rw [take_succ' h, windSum_append]; simp [windSum]
def Unit (e : EdgeT) : Prop := e.wi = 1 ∨ e.wi = -1
theorem unit_edge (a b : PtT) : Unit (edgeOf a b) := by
  by_cases h : b.y < a.y
  · rw [edgeOf_lt h]; exact .inr rfl
  · rw [edgeOf_ge h]; exact .inl rfl
theorem unit_edgesTo (pc : List PtT) (j : Nat) : ∀ e ∈ edgesTo pc j, Unit e := fun e he => by
  obtain ⟨k, _, hk⟩ := List.mem_flatMap.1 he
  unfold edgesAt at hk
  split at hk
  · rw [List.mem_singleton.1 hk]; exact unit_edge _ _
  · cases hk
theorem windSum_bound {l : List EdgeT} (h : ∀ e ∈ l, Unit e) : -(l.length : Int) ≤ windSum l ∧ windSum l ≤ l.length := by
  induction l with
  | nil => simp [windSum]
  | cons e r ih =>
    have h1 := ih fun x hx => h x (List.mem_cons_of_mem _ hx)
    have h2 := h e List.mem_cons_self
    have h3 : windSum (e :: r) = e.wi + windSum r := by simp [windSum]
    rw [h3, List.length_cons]
    unfold Unit at h2
    omega
theorem windSum_par {l : List EdgeT} (h : ∀ e ∈ l, Unit e) : windSum l % 2 = (l.length : Int) % 2 := by
  induction l with
  | nil => simp [windSum]
  | cons e r ih =>
    have h1 := ih fun x hx => h x (List.mem_cons_of_mem _ hx)
    have h2 := h e List.mem_cons_self
    have h3 : windSum (e :: r) = e.wi + windSum r := by simp [windSum]
    rw [h3, List.length_cons]
    unfold Unit at h2
    omega
theorem mem_live {r : Int} {l : List EdgeT} {e : EdgeT} (h : e ∈ liveT r l) : e ∈ l ∧ e.fr ≤ r ∧ r < e.to := by
  have := List.mem_filter.1 h
  refine ⟨this.1, ?_⟩
  have h2 := this.2
  simp only [Bool.not_eq_true', Bool.or_eq_false_iff, decide_eq_false_iff_not] at h2
  omega
theorem live_append (r : Int) (a b : List EdgeT) : liveT r (a ++ b) = liveT r a ++ liveT r b := List.filter_append ..
theorem live_one_yes {r : Int} {e : EdgeT} (h : e.fr ≤ r ∧ r < e.to) : liveT r [e] = [e] := by
  unfold liveT
  rw [List.filter_cons_of_pos, List.filter_nil]
  simp only [Bool.not_eq_true', Bool.or_eq_false_iff, decide_eq_false_iff_not]
  omega
theorem live_one_no {r : Int} {e : EdgeT} (h : ¬ (e.fr ≤ r ∧ r < e.to)) : liveT r [e] = [] := by
  unfold liveT
  rw [List.filter_cons_of_neg, List.filter_nil]
  simp only [Bool.not_eq_true', Bool.or_eq_false_iff, decide_eq_false_iff_not]
  omega
def above (r : Int) (p : PtT) : Int := if r < rowOf p.y then 1 else 0
theorem above_def (r : Int) (p : PtT) : (r < rowOf p.y ∧ above r p = 1) ∨ (¬ r < rowOf p.y ∧ above r p = 0) := by
  unfold above; split
  · exact .inl ⟨by assumption, rfl⟩
  · exact .inr ⟨by assumption, rfl⟩
theorem wind_edge (r : Int) (a b : PtT) : windSum (liveT r (if (edgeOf a b).fr < (edgeOf a b).to then [edgeOf a b] else [])) = above r b - above r a := by
  have ha := above_def r a
  have hb := above_def r b
  have h1 := rowOf_def a.y
  have h2 := rowOf_def b.y
  have e0 : windSum (liveT r []) = 0 := rfl
  have e1 : ∀ e : EdgeT, windSum [e] = e.wi := fun e => by simp [windSum]
  have e2 : windSum [] = 0 := rfl
  by_cases h : b.y < a.y
  · rw [edgeOf_lt h]
    dsimp only
    split
    · by_cases hl : rowOf b.y ≤ r ∧ r < rowOf a.y
      · rw [live_one_yes hl, e1]; dsimp only; omega
      · rw [live_one_no hl, e2]; omega
    · rw [e0]; omega
  · rw [edgeOf_ge h]
    dsimp only
    split
    · by_cases hl : rowOf a.y ≤ r ∧ r < rowOf b.y
      · rw [live_one_yes hl, e1]; dsimp only; omega
      · rw [live_one_no hl, e2]; omega
    · rw [e0]; omega
theorem wind_to (r : Int) (pc : List PtT) : ∀ j, j ≤ pc.length → windSum (liveT r (edgesTo pc j)) = above r (pc.getD (j % pc.length) dP) - above r (pc.getD 0 dP)
  | 0, _ => by
    rw [Nat.zero_mod]
    have : windSum (liveT r (edgesTo pc 0)) = 0 := rfl
    omega
  | j + 1, h => by
    have ih := wind_to r pc j (by omega)
    rw [Nat.mod_eq_of_lt (by omega)] at ih
    have h1 := wind_edge r (pc.getD j dP) (pc.getD ((j + 1) % pc.length) dP)
    rw [edgesTo_succ, live_append, windSum_append, ih, edgesAt, h1]
    omega
theorem wind_zero (r : Int) (pc : List PtT) : windSum (liveT r (edgesOf pc)) = 0 := by
  have := wind_to r pc pc.length (Nat.le_refl _)
  rw [Nat.mod_self] at this
  rw [edgesOf, this]; omega
theorem unit_live (r : Int) (pc : List PtT) : ∀ e ∈ liveT r (edgesOf pc), Unit e := fun e he => unit_edgesTo pc _ e (mem_live he).1
theorem live_even (r : Int) (pc : List PtT) : ((liveT r (edgesOf pc)).length : Int) % 2 = 0 := by
  rw [← windSum_par (unit_live r pc), wind_zero]; rfl
theorem live_len (r : Int) (pc : List PtT) : (liveT r (edgesOf pc)).length ≤ pc.length := Nat.le_trans (List.length_filter_le _ _) (edgesTo_len pc _)
theorem live_take_bound (r : Int) (pc : List PtT) (i : Nat) : -(pc.length : Int) ≤ windSum ((liveT r (edgesOf pc)).take i) ∧ windSum ((liveT r (edgesOf pc)).take i) ≤ pc.length := by
  have := windSum_bound (l := (liveT r (edgesOf pc)).take i) fun e he => unit_live r pc e (List.mem_of_mem_take he)
  have h2 := live_len r pc
  have h3 := List.length_take_le i (liveT r (edgesOf pc))
  have h4 : ((liveT r (edgesOf pc)).take i).length ≤ (liveT r (edgesOf pc)).length := by rw [List.length_take]; omega
  omega
theorem pcsW_one {v pv : Value} {pc : List PtT} (h : RowV v 1) (hV : RowV pv pc.length) : PcsW v [pv] [pc] :=
  ⟨h, rfl, (show 1 ≤ 9223372036854775807 by omega), fun i hi => by (obtain rfl : i = 0 := by simpa using hi); exact hV⟩
theorem pcsAt_one {w : World} {v pv : Value} {pc : List PtT} (h : RowAt w v 1 1 [pv]) (hrow : RowAt w pv 2 pc.length (pc.flatMap eP)) : PcsAt w v [pv] [pc] :=
  ⟨h, fun i hi => by (obtain rfl : i = 0 := by simpa using hi); exact hrow⟩
theorem bnd_one {pc : List PtT} : Bnd [pc] ↔ BndP pc :=
  ⟨fun h => h.2 0 (by simp), fun h => ⟨by simp, fun i hi => by (obtain rfl : i = 0 := by simpa using hi); exact h⟩⟩

theorem a_EdgesWind (w : World) (v : Value) (pc : List PtT) (r : Int) (hV : RowV v pc.length) (hrow : RowAt w v 2 pc.length (pc.flatMap eP)) : Calls Try.prog 4 #[v, .int .i64 r] w fun e w' => e = .returned (.bool true) ∧ Below w.heap.size w w' := by
  have hr : ∀ w', Chg (fun _ => False) w w' → RowAt w' v 2 pc.length (pc.flatMap eP) := fun w' h => hrow.chg h (fun h => h)
  obtain ⟨a0, c0, rfl⟩ := hV.sl
  refine calls_of (args := [.slice a0 pc.length c0, .int .i64 r]) Try.func4 rfl Try.ntmps4 Try.results4 rfl ?_
  refine v_seq ?_
  refine v_region ?_
  refine l_val rfl (o_assign rfl) ?_
  refine l_nil ?_
  refine kt_norm ?_
  refine v_seq ?_
  refine v_seq ?_
  refine v_region ?_
  refine l_val rfl (o_move rfl) ?_
  refine l_buildSlice (vs := [_]) (cs := [_]) rfl rfl rfl rfl rfl rfl fun v9 hv9 => ?_
  refine l_call (ks := [9]) rfl (o_callC (vs := [_]) (r := .bool (decide (Bnd [pc]))) (ent_of Try.func15 rfl rfl) rfl (fun w' hg hh => a_bounded w' v9 [.slice a0 pc.length c0] [pc] (pcsW_one hv9 hV) (pcsAt_one (rowAt_own (hh 9 (by simp) _ rfl)) (hr w' hg)))) ?_
  refine lz_bool (fun hbb => ?_) (fun hbb => ?_)
  · have hb : BndP pc := bnd_one.1 hbb
    refine l_val rfl (o_not rfl rfl) ?_
    refine l_val rfl (o_move rfl) ?_
    refine l_val rfl (o_move rfl) ?_
    refine l_ans (vs := [_]) rfl rfl (a_row _) ?_
    refine lz_bool (fun q1 => ?_) (fun q1 => ?_)
    · skip
      refine l_val rfl (o_not rfl rfl) ?_
      refine l_val rfl (o_pickF rfl rfl) ?_
      refine l_val rfl (o_move rfl) ?_
      refine l_ans (vs := []) rfl rfl (a_shown) ?_
      refine l_val rfl (o_not rfl rfl) ?_
      refine l_val rfl (o_pickF rfl rfl) ?_
      refine l_nil ?_
      refine kt_norm ?_
      refine v_sel [0, 1, 20] [] rfl rfl ?_
      refine v_condF rfl ?_
      refine v_skip ?_
      refine kt_norm ?_
      refine v_seq ?_
      refine v_region ?_
      refine l_val rfl (o_move rfl) ?_
      refine l_gown (ks := []) (caps := #[]) (vs := [_]) rfl rfl (ent_of Try.func12 rfl rfl) rfl (fun w' hg _ => a_OfE w' (.slice a0 pc.length c0) pc (by have := hb.1; omega) hV (hr w' hg) hb.near) fun y hy => ?_
      refine l_val rfl (o_move rfl) ?_
      refine l_gown (ks := [23]) (caps := #[]) (vs := [_, _]) rfl rfl (ent_of Try.func17 rfl rfl) rfl (fun w' hg hh => a_Live w' y (edgesOf pc) r (by have := edgesTo_len pc pc.length; show (edgesTo pc pc.length).length ≤ _; have := hb.1; omega) hy (rowAt_own (hh 23 (by simp) _ rfl))) fun z hz => ?_
      refine l_val rfl (o_assign rfl) ?_
      refine l_nil ?_
      refine kt_norm ?_
      refine v_sel [5] [25] rfl rfl ?_
      refine v_seq ?_
      refine v_region ?_
      refine l_val rfl (o_assign rfl) ?_
      refine l_nil ?_
      refine kt_norm ?_
      refine v_seq ?_
      refine v_seq ?_
      refine v_region ?_
      refine l_val rfl (o_assign rfl) ?_
      refine l_nil ?_
      refine kt_norm ?_
      refine v_block ?_
      refine v_loopS (α := Nat) (fun i => [(7, .int .i64 (i : Int)), (6, .int .i64 (windSum ((liveT r (edgesOf pc)).take i)))]) (fun i => [])  (fun i => i ≤ (liveT r (edgesOf pc)).length) (fun i => (liveT r (edgesOf pc)).length - i) 0 [5] [25] (Nat.zero_le _)  (And.intro rfl (And.intro rfl (True.intro))) rfl (True.intro) rfl ?_
      rintro i hi
      refine v_seq ?_
      refine v_seq ?_
      refine v_region ?_
      refine l_val rfl (o_move rfl) ?_
      refine l_val rfl (o_move rfl) ?_
      refine l_val rfl (o_len rfl hz) ?_
      refine l_split rfl (o_lss rfl rfl) (fun q2 => ?_) (fun q2 => ?_)
      · have hil : i < (liveT r (edgesOf pc)).length := by omega
        refine l_nil ?_
        refine kt_norm ?_
        refine v_condT rfl ?_
        refine v_skip ?_
        refine kt_norm ?_
        refine v_seq ?_
        refine v_block ?_
        refine v_region ?_
        refine l_val rfl (o_move rfl) ?_
        refine l_val rfl (o_move rfl) ?_
        refine l_val rfl (o_move rfl) ?_
        refine l_val rfl (o_idx (i) rfl hz rfl (by first | rfl | omega) (by omega)) ?_
        refine l_val rfl (o_fld rfl) ?_
        refine l_val rfl (o_loadRF (f := 4) rfl (row_own (key := 25) rfl) (el_flat eE_len dE (liveT r (edgesOf pc)) (i) (by omega)) rfl) ?_
        have hB := live_take_bound r pc i
        have hB2 := live_take_bound r pc (i + 1)
        rw [windSum_succ hil] at hB2
        have hb1 := hb.1
        refine l_val rfl (o_addi rfl rfl ?_) ?_
        · omega
        refine l_val rfl (o_assign rfl) ?_
        refine l_nil ?_
        refine kb_norm ?_
        refine kt_norm ?_
        refine v_sel [7, 6, 5] [25] rfl rfl ?_
        refine v_region ?_
        refine l_val rfl (o_move rfl) ?_
        have hLl := live_len r pc
        have hb1 := hb.1
        refine l_val rfl (o_addi rfl rfl ?_) ?_
        · omega
        refine l_val rfl (o_assign rfl) ?_
        refine l_nil ?_
        refine kt_norm ?_
        refine ⟨i + 1, hil, by omega, le_app (And.intro rfl (And.intro (congrArg (fun q => some (Value.int .i64 q)) (windSum_succ hil).symm) (True.intro))) [5] rfl (True.intro) [25] rfl⟩
      · skip
        refine l_nil ?_
        refine kt_norm ?_
        refine v_condF rfl ?_
        refine v_exit ?_
        refine kt_exit ?_
        refine kt_exit ?_
        refine kb_eq ?_
        refine kt_norm ?_
        refine v_seq ?_
        refine v_region ?_
        refine l_val rfl (o_move rfl) ?_
        have hz0 : windSum ((liveT r (edgesOf pc)).take i) = 0 := by rw [List.take_of_length_le (by omega)]; exact wind_zero r pc
        have hpar := live_even r pc
        refine l_split rfl (o_eql rfl rfl) (fun q3 => ?_) (fun q3 => absurd (show _ by omega) q3)
        refine l_val rfl (o_move rfl) ?_
        refine l_val rfl (o_move rfl) ?_
        refine l_val rfl (o_len rfl hz) ?_
        refine l_val rfl (o_remn rfl rfl ?_) ?_
        · omega
        refine l_split rfl (o_eql rfl rfl) (fun q4 => ?_) (fun q4 => absurd (show _ by omega) q4)
        refine l_val rfl (o_pickT rfl rfl) ?_
        refine l_val rfl (o_assign rfl) ?_
        refine l_nil ?_
        refine kt_norm ?_
        refine v_sel [4] [] rfl rfl ?_
        refine v_ret ?_
        refine ⟨[_], .cons (.tmp rfl) (ResAll.nil), ?_⟩
        rfl
    · skip
      refine l_val rfl (o_not rfl rfl) ?_
      refine l_val rfl (o_pickF rfl rfl) ?_
      refine l_val rfl (o_move rfl) ?_
      refine l_no rfl ?_
      refine l_no rfl ?_
      refine l_val rfl (o_pickT rfl rfl) ?_
      refine l_nil ?_
      refine kt_norm ?_
      refine v_sel [0, 1, 20] [] rfl rfl ?_
      refine v_condT rfl ?_
      refine v_seq ?_
      refine v_region ?_
      refine l_ans (vs := []) rfl rfl (a_shown) ?_
      refine l_val rfl (o_assign rfl) ?_
      refine l_nil ?_
      refine kt_norm ?_
      refine v_ret ?_
      refine kt_ret ?_
      refine ⟨[_], .cons (.tmp rfl) (ResAll.nil), ?_⟩
      rfl
  · skip
    refine l_val rfl (o_not rfl rfl) ?_
    refine l_val rfl (o_move rfl) ?_
    refine l_no rfl ?_
    refine l_no rfl ?_
    refine l_no rfl ?_
    refine l_val rfl (o_pickT rfl rfl) ?_
    refine l_val rfl (o_move rfl) ?_
    refine l_no rfl ?_
    refine l_no rfl ?_
    refine l_val rfl (o_pickT rfl rfl) ?_
    refine l_nil ?_
    refine kt_norm ?_
    refine v_sel [0, 1, 20] [] rfl rfl ?_
    refine v_condT rfl ?_
    refine v_seq ?_
    refine v_region ?_
    refine l_ans (vs := []) rfl rfl (a_shown) ?_
    refine l_val rfl (o_assign rfl) ?_
    refine l_nil ?_
    refine kt_norm ?_
    refine v_ret ?_
    refine kt_ret ?_
    refine ⟨[_], .cons (.tmp rfl) (ResAll.nil), ?_⟩
    rfl
end Go.Proofs.Ytegfonghlpbgdaa
