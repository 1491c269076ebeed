import Derived.Test.YtaijclimdfchfaaE7
/- Each row crosses as many edges of any corners down as up. Conditions: none. -/
namespace Go.Proofs.Ytaijclimdfchfaa
open Go.Proofs Go.RowKit Go.Shelf

/-! ### each row is crossed as often down as up -/
def windSum (l : List EdgeT) : Int := (l.map (·.wi)).sum
theorem windSum_append (a b : List EdgeT) : windSum (a ++ b) = windSum a + windSum b := by simp [windSum]
theorem windSum_succ {l : List EdgeT} {i : Nat} (h : i < l.length) : windSum (l.take (i + 1)) = windSum (l.take i) + (l.getD i dE).wi := by
  rw [take_succ' h, windSum_append]; simp [windSum]
def Unit (e : EdgeT) : Prop := e.wi = 1 ∨ e.wi = -1
theorem unit_edge (a b : PtT) : Unit (edgeOf a b) := by
  by_cases h : b.y < a.y
  · rw [edgeOf_lt h]; exact .inr rfl
  · rw [edgeOf_ge h]; exact .inl rfl
theorem unit_edgesTo (pc : List PtT) (j : Nat) : ∀ e ∈ edgesTo pc j, Unit e := fun e he => by
  obtain ⟨k, _, hk⟩ := List.mem_flatMap.1 he
  unfold edgesAt at hk
  split at hk
  · rw [List.mem_singleton.1 hk]; exact unit_edge _ _
  · cases hk
theorem windSum_bound {l : List EdgeT} (h : ∀ e ∈ l, Unit e) : -(l.length : Int) ≤ windSum l ∧ windSum l ≤ l.length := by
  induction l with
  | nil => simp [windSum]
  | cons e r ih =>
    have h1 := ih fun x hx => h x (List.mem_cons_of_mem _ hx)
    have h2 := h e List.mem_cons_self
    have h3 : windSum (e :: r) = e.wi + windSum r := by simp [windSum]
    rw [h3, List.length_cons]
    unfold Unit at h2
    omega
theorem windSum_par {l : List EdgeT} (h : ∀ e ∈ l, Unit e) : windSum l % 2 = (l.length : Int) % 2 := by
  induction l with
  | nil => simp [windSum]
  | cons e r ih =>
    have h1 := ih fun x hx => h x (List.mem_cons_of_mem _ hx)
    have h2 := h e List.mem_cons_self
    have h3 : windSum (e :: r) = e.wi + windSum r := by simp [windSum]
    rw [h3, List.length_cons]
    unfold Unit at h2
    omega
theorem mem_live {r : Int} {l : List EdgeT} {e : EdgeT} (h : e ∈ liveT r l) : e ∈ l ∧ e.fr ≤ r ∧ r < e.to := by
  have := List.mem_filter.1 h
  refine ⟨this.1, ?_⟩
  have h2 := this.2
  simp only [Bool.not_eq_true', Bool.or_eq_false_iff, decide_eq_false_iff_not] at h2
  omega
theorem live_append (r : Int) (a b : List EdgeT) : liveT r (a ++ b) = liveT r a ++ liveT r b := List.filter_append ..
theorem live_one_yes {r : Int} {e : EdgeT} (h : e.fr ≤ r ∧ r < e.to) : liveT r [e] = [e] := by
  unfold liveT
  rw [List.filter_cons_of_pos, List.filter_nil]
  simp only [Bool.not_eq_true', Bool.or_eq_false_iff, decide_eq_false_iff_not]
  omega
theorem live_one_no {r : Int} {e : EdgeT} (h : ¬ (e.fr ≤ r ∧ r < e.to)) : liveT r [e] = [] := by
  unfold liveT
  rw [List.filter_cons_of_neg, List.filter_nil]
  simp only [Bool.not_eq_true', Bool.or_eq_false_iff, decide_eq_false_iff_not]
  omega
def above (r : Int) (p : PtT) : Int := if r < rowOf p.y then 1 else 0
theorem above_def (r : Int) (p : PtT) : (r < rowOf p.y ∧ above r p = 1) ∨ (¬ r < rowOf p.y ∧ above r p = 0) := by
  unfold above; split
  · exact .inl ⟨by assumption, rfl⟩
  · exact .inr ⟨by assumption, rfl⟩
theorem wind_edge (r : Int) (a b : PtT) : windSum (liveT r (if (edgeOf a b).fr < (edgeOf a b).to then [edgeOf a b] else [])) = above r b - above r a := by
  have ha := above_def r a
  have hb := above_def r b
  have h1 := rowOf_def a.y
  have h2 := rowOf_def b.y
  have e0 : windSum (liveT r []) = 0 := rfl
  have e1 : ∀ e : EdgeT, windSum [e] = e.wi := fun e => by simp [windSum]
  have e2 : windSum [] = 0 := rfl
  by_cases h : b.y < a.y
  · rw [edgeOf_lt h]
    dsimp only
    split
    · by_cases hl : rowOf b.y ≤ r ∧ r < rowOf a.y
      · rw [live_one_yes hl, e1]; dsimp only; omega
      · rw [live_one_no hl, e2]; omega
    · rw [e0]; omega
  · rw [edgeOf_ge h]
    dsimp only
    split
    · by_cases hl : rowOf a.y ≤ r ∧ r < rowOf b.y
      · rw [live_one_yes hl, e1]; dsimp only; omega
      · rw [live_one_no hl, e2]; omega
    · rw [e0]; omega
theorem wind_to (r : Int) (pc : List PtT) : ∀ j, j ≤ pc.length → windSum (liveT r (edgesTo pc j)) = above r (pc.getD (j % pc.length) dP) - above r (pc.getD 0 dP)
  | 0, _ => by
    rw [Nat.zero_mod]
    have : windSum (liveT r (edgesTo pc 0)) = 0 := rfl
    omega
  | j + 1, h => by
    have ih := wind_to r pc j (by omega)
    rw [Nat.mod_eq_of_lt (by omega)] at ih
    have h1 := wind_edge r (pc.getD j dP) (pc.getD ((j + 1) % pc.length) dP)
    rw [edgesTo_succ, live_append, windSum_append, ih, edgesAt, h1]
    omega
theorem wind_zero (r : Int) (pc : List PtT) : windSum (liveT r (edgesOf pc)) = 0 := by
  have := wind_to r pc pc.length (Nat.le_refl _)
  rw [Nat.mod_self] at this
  rw [edgesOf, this]; omega
theorem unit_live (r : Int) (pc : List PtT) : ∀ e ∈ liveT r (edgesOf pc), Unit e := fun e he => unit_edgesTo pc _ e (mem_live he).1
theorem live_even (r : Int) (pc : List PtT) : ((liveT r (edgesOf pc)).length : Int) % 2 = 0 := by
  rw [← windSum_par (unit_live r pc), wind_zero]; rfl
theorem live_len (r : Int) (pc : List PtT) : (liveT r (edgesOf pc)).length ≤ pc.length := Nat.le_trans (List.length_filter_le _ _) (edgesTo_len pc _)
theorem live_take_bound (r : Int) (pc : List PtT) (i : Nat) : -(pc.length : Int) ≤ windSum ((liveT r (edgesOf pc)).take i) ∧ windSum ((liveT r (edgesOf pc)).take i) ≤ pc.length := by
  have := windSum_bound (l := (liveT r (edgesOf pc)).take i) fun e he => unit_live r pc e (List.mem_of_mem_take he)
  have h2 := live_len r pc
  have h3 := List.length_take_le i (liveT r (edgesOf pc))
  have h4 : ((liveT r (edgesOf pc)).take i).length ≤ (liveT r (edgesOf pc)).length := by rw [List.length_take]; omega
  omega
theorem pcsW_one {v pv : Value} {pc : List PtT} (h : RowV v 1) (hV : RowV pv pc.length) : PcsW v [pv] [pc] :=
  ⟨h, rfl, (show 1 ≤ 9223372036854775807 by omega), fun i hi => by (obtain rfl : i = 0 := by simpa using hi); exact hV⟩
theorem pcsAt_one {w : World} {v pv : Value} {pc : List PtT} (h : RowAt w v 1 1 [pv]) (hrow : RowAt w pv 2 pc.length (pc.flatMap eP)) : PcsAt w v [pv] [pc] :=
  ⟨h, fun i hi => by (obtain rfl : i = 0 := by simpa using hi); exact hrow⟩
theorem bnd_one {pc : List PtT} : Bnd [pc] ↔ BndP pc :=
  ⟨fun h => h.2 0 (by simp), fun h => ⟨by simp, fun i hi => by (obtain rfl : i = 0 := by simpa using hi); exact h⟩⟩


end Go.Proofs.Ytaijclimdfchfaa
