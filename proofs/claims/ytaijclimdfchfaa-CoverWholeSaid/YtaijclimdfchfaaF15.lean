import Derived.Test.YtaijclimdfchfaaF14
/- Covers of boxes. Conditions: none. -/
namespace Go.Proofs.Ytaijclimdfchfaa
open Go.Proofs Go.RowKit Go.Shelf

/-! #### boxes -/
def boxP (p q : PtT) : List PtT := [p, ⟨q.x, p.y⟩, q, ⟨p.x, q.y⟩]
def oneE (a b : PtT) : List EdgeT := if (edgeOf a b).fr < (edgeOf a b).to then [edgeOf a b] else []
theorem edges_box (p q : PtT) : edgesAll [boxP p q] = oneE p ⟨q.x, p.y⟩ ++ (oneE ⟨q.x, p.y⟩ q ++ (oneE q ⟨p.x, q.y⟩ ++ oneE ⟨p.x, q.y⟩ p)) := by
  have e : ∀ a b c d : PtT, edgesAll [[a, b, c, d]] = oneE a b ++ (oneE b c ++ (oneE c d ++ oneE d a)) := fun a b c d => by
    simp [edgesAll, edgesOf, edgesTo, edgesAt, oneE, List.range_succ]
  exact e _ _ _ _
theorem oneE_flat {a b : PtT} (h : a.y = b.y) : oneE a b = [] := by
  unfold oneE
  rw [edgeOf_ge (by omega)]
  exact if_neg (by dsimp only; rw [h]; omega)
theorem oneE_up (x ya yb r : Int) : crs r (liveT r (oneE ⟨x, ya⟩ ⟨x, yb⟩)) = if min ya yb ≤ 16 * r + 8 ∧ 16 * r + 8 < max ya yb then [(x, if yb < ya then -1 else 1)] else [] := by
  have r1 := rowOf_def ya
  have r2 := rowOf_def yb
  unfold oneE
  by_cases h : yb < ya
  · rw [edgeOf_lt h, if_pos h]
    dsimp only
    by_cases hl : rowOf yb ≤ r ∧ r < rowOf ya
    · rw [if_pos (by omega), if_pos (by omega), live_one_yes hl]
      simp [crs, atE]
    · rw [if_neg (show ¬ (min ya yb ≤ 16 * r + 8 ∧ 16 * r + 8 < max ya yb) by omega)]
      split
      · rw [live_one_no hl]; rfl
      · rfl
  · rw [edgeOf_ge h, if_neg h]
    dsimp only
    by_cases hl : rowOf ya ≤ r ∧ r < rowOf yb
    · rw [if_pos (by omega), if_pos (by omega), live_one_yes hl]
      simp [crs, atE]
    · rw [if_neg (show ¬ (min ya yb ≤ 16 * r + 8 ∧ 16 * r + 8 < max ya yb) by omega)]
      split
      · rw [live_one_no hl]; rfl
      · rfl
theorem crs_app (r : Int) (a b : List EdgeT) : crs r (a ++ b) = crs r a ++ crs r b := by simp [crs]
theorem crs_box (p q : PtT) (r : Int) : crs r (liveT r (edgesAll [boxP p q])) = if min p.y q.y ≤ 16 * r + 8 ∧ 16 * r + 8 < max p.y q.y then [(q.x, if q.y < p.y then -1 else 1), (p.x, -(if q.y < p.y then -1 else 1))] else [] := by
  rw [edges_box, oneE_flat (a := p) (b := ⟨q.x, p.y⟩) rfl, oneE_flat (a := q) (b := ⟨p.x, q.y⟩) rfl, List.nil_append, List.nil_append, live_append, crs_app]
  have h1 := oneE_up q.x p.y q.y r
  have h2 := oneE_up p.x q.y p.y r
  rw [show (⟨q.x, q.y⟩ : PtT) = q from rfl] at h1
  rw [show (⟨p.x, p.y⟩ : PtT) = p from rfl] at h2
  rw [h1, h2]
  have hc2 : (min q.y p.y ≤ 16 * r + 8 ∧ 16 * r + 8 < max q.y p.y) ↔ (min p.y q.y ≤ 16 * r + 8 ∧ 16 * r + 8 < max p.y q.y) := by omega
  by_cases hc : min p.y q.y ≤ 16 * r + 8 ∧ 16 * r + 8 < max p.y q.y
  · rw [if_pos hc, if_pos hc, if_pos (hc2.2 hc)]
    by_cases hq : q.y < p.y
    · rw [if_pos hq, if_neg (show ¬ p.y < q.y by omega)]; rfl
    · rw [if_neg hq, if_pos (show p.y < q.y by omega)]; rfl
  · rw [if_neg hc, if_neg hc, if_neg (fun h => hc (hc2.1 h))]; rfl
theorem rowS_two {a b u : Int} (hu : u = 1 ∨ u = -1) : rowS [(a, u), (b, -u)] = if a < b then [⟨a, b⟩] else if b < a then [⟨b, a⟩] else [] := by
  rcases Int.lt_trichotomy a b with h | h | h
  · rw [if_pos h]
    have hk : keysOf [(a, u), (b, -u)] = [a, b] := by
      show insU b (insU a []) = _
      simp [insU, h]
    have s1 : sumAt [(a, u), (b, -u)] a = u := by simp [sumAt, sumF]; omega
    have s2 : sumAt [(a, u), (b, -u)] b = -u := by simp [sumAt, sumF]; omega
    have e : rowS [(a, u), (b, -u)] = (stepR [(a, u), (b, -u)] (stepR [(a, u), (b, -u)] (0, 0, []) a) b).2.2 := by
      unfold rowS rowTo; rw [hk]; rfl
    rw [e, stepR0 (s := (0, 0, [])) rfl, s1, stepR1 (by simp; omega) (by rw [s2]; simp; omega)]
    rfl
  · subst h
    rw [if_neg (by omega), if_neg (by omega)]
    have hk : keysOf [(a, u), (a, -u)] = [a] := by
      show insU a (insU a []) = _
      simp [insU]
    have e : rowS [(a, u), (a, -u)] = (stepR [(a, u), (a, -u)] (0, 0, []) a).2.2 := by
      unfold rowS rowTo; rw [hk]; rfl
    rw [e, stepR0 (s := (0, 0, [])) rfl]
  · rw [if_neg (by omega), if_pos h]
    have hk : keysOf [(a, u), (b, -u)] = [b, a] := by
      show insU b (insU a []) = _
      simp [insU, show ¬ a < b by omega, show ¬ a = b by omega]
    have s1 : sumAt [(a, u), (b, -u)] a = u := by simp [sumAt, sumF]; omega
    have s2 : sumAt [(a, u), (b, -u)] b = -u := by simp [sumAt, sumF]; omega
    have e : rowS [(a, u), (b, -u)] = (stepR [(a, u), (b, -u)] (stepR [(a, u), (b, -u)] (0, 0, []) b) a).2.2 := by
      unfold rowS rowTo; rw [hk]; rfl
    rw [e, stepR0 (s := (0, 0, [])) rfl, s2, stepR1 (by simp; omega) (by rw [s1]; simp; omega)]
    rfl
theorem rowS_nil : rowS [] = [] := rfl
/-- how much of a pixel's width a box has -/
def bxW (p q : PtT) (lo : Int) : Int := max 0 (min (max p.x q.x) (lo + 256) - max (min p.x q.x) lo)
theorem meas_box (p q : PtT) (r lo : Int) : sumF (lenC lo (lo + 256)) (rowS (crs r (liveT r (edgesAll [boxP p q])))) = if min p.y q.y ≤ 16 * r + 8 ∧ 16 * r + 8 < max p.y q.y then bxW p q lo else 0 := by
  rw [crs_box]
  by_cases hc : min p.y q.y ≤ 16 * r + 8 ∧ 16 * r + 8 < max p.y q.y
  · rw [if_pos hc, if_pos hc, rowS_two (by split <;> omega)]
    unfold bxW
    by_cases h1 : q.x < p.x
    · rw [if_pos h1]
      have d := lenC_def lo (lo + 256) ⟨q.x, p.x⟩
      dsimp only at d
      simp only [sumF]
      by_cases h2 : max lo q.x < min (lo + 256) p.x
      · have := d.1 h2; omega
      · have := d.2 h2; omega
    · rw [if_neg h1]
      by_cases h3 : p.x < q.x
      · rw [if_pos h3]
        have d := lenC_def lo (lo + 256) ⟨p.x, q.x⟩
        dsimp only at d
        simp only [sumF]
        by_cases h2 : max lo p.x < min (lo + 256) q.x
        · have := d.1 h2; omega
        · have := d.2 h2; omega
      · rw [if_neg h3]
        simp only [sumF]
        omega
  · rw [if_neg hc, if_neg hc, rowS_nil]; rfl
/-- of the rows of a pixel, those that a box has -/
def bxN (p q : PtT) (y : Int) : Nat → Int
  | 0 => 0
  | k + 1 => bxN p q y k + if min p.y q.y ≤ 256 * y + 16 * k + 8 ∧ 256 * y + 16 * k + 8 < max p.y q.y then 1 else 0
theorem bxN_bound (p q : PtT) (y : Int) : ∀ k, 0 ≤ bxN p q y k ∧ bxN p q y k ≤ k
  | 0 => ⟨Int.le_refl _, Int.le_refl _⟩
  | k + 1 => by have := bxN_bound p q y k; rw [bxN]; split <;> omega
theorem bxN_yes {p q : PtT} {y : Int} {k : Nat} (h : min p.y q.y ≤ 256 * y + 16 * k + 8 ∧ 256 * y + 16 * k + 8 < max p.y q.y) : bxN p q y (k + 1) = bxN p q y k + 1 := by rw [bxN, if_pos h]
theorem bxN_no {p q : PtT} {y : Int} {k : Nat} (h : ¬ (min p.y q.y ≤ 256 * y + 16 * k + 8 ∧ 256 * y + 16 * k + 8 < max p.y q.y)) : bxN p q y (k + 1) = bxN p q y k := by rw [bxN, if_neg h, Int.add_zero]
theorem bxW_bound (p q : PtT) (lo : Int) : 0 ≤ bxW p q lo ∧ bxW p q lo ≤ 256 := by unfold bxW; omega
theorem covK_box (p q : PtT) (c y : Int) : ∀ k, covK [boxP p q] c y k = bxN p q y k * bxW p q (256 * c)
  | 0 => by simp [covK, bxN]
  | k + 1 => by
    rw [covK, bxN, covK_box p q c y k, meas_box, Int.add_mul]
    congr 1
    rw [show 16 * (16 * y + (k : Int)) + 8 = 256 * y + 16 * k + 8 by omega]
    split <;> simp
theorem cov_box (p q : PtT) (c y : Int) : covA [boxP p q] c y = bxN p q y 16 * bxW p q (256 * c) := covK_box p q c y 16
theorem bxN_all {p q : PtT} {y : Int} : ∀ {k : Nat}, k ≤ 16 → (min p.y q.y ≤ 256 * y ∧ 256 * y + 256 ≤ max p.y q.y) → bxN p q y k = k
  | 0, _, _ => rfl
  | k + 1, hk, h => by rw [bxN_yes (by omega), bxN_all (by omega) h]; omega
theorem bxN_none {p q : PtT} {y : Int} : ∀ {k : Nat}, k ≤ 16 → 256 * y + 256 ≤ min p.y q.y → bxN p q y k = 0
  | 0, _, _ => rfl
  | k + 1, hk, h => by rw [bxN_no (by omega), bxN_none (by omega) h]

theorem o_assignE {C : Cx} {s : St} {d : Option Nat} {x : Operand} {ty : TypeId} {pos : String} {aft : Array Edge} {gd : Option (Nat × Bool)} {k : IntKind} {q q' : Int} (h : ev C s x = some (.int k q)) (e : q = q') : OpV C s ⟨d, .assign x, ty, pos, aft, gd⟩ [] (.int k q') := by subst e; exact o_assign h
theorem atT_img' {X Y : Int} {n h i j : Nat} {ps : List (List PtT)} (hv : ViewOk X Y (n : Int) (h : Int)) (hi : i < n) (hj : j < h) : atT n h (pixT (tabT X Y (n : Int) (h : Int) ps) X Y n h) (i : Int) (j : Int) = valT (covA ps (X + i) (Y + j)) := by
  have := atT_img (ps := ps) hv (x := X + i) (y := Y + j) (by omega) (by omega)
  rwa [show X + (i : Int) - X = i by omega, show Y + (j : Int) - Y = j by omega] at this
theorem box_near {p q : PtT} (hp : NearT p) (hq : NearT q) : ∀ x ∈ boxP p q, NearT x := by
  intro x hx
  unfold NearT at *
  simp only [boxP, List.mem_cons, List.not_mem_nil, or_false] at hx
  rcases hx with rfl | rfl | rfl | rfl <;> first | omega | (dsimp only; omega)
theorem box_bnd {p q : PtT} (hp : NearT p) (hq : NearT q) : Bnd [boxP p q] :=
  ⟨by simp, fun i hi => by
    obtain rfl : i = 0 := by simpa using hi
    refine ⟨by simp [boxP], fun m hm => ?_⟩
    have : ([boxP p q].getD 0 []).getD m dP ∈ boxP p q := by
      show (boxP p q).getD m dP ∈ _
      rw [List.getD_eq_getElem?_getD, List.getElem?_eq_getElem (show m < (boxP p q).length from hm)]; exact List.getElem_mem _
    exact box_near hp hq _ this⟩
theorem valT_full : valT 4096 = 255 := by decide
theorem valT_none : valT 0 = 0 := by decide
theorem a_CovB (w : World) (v u : Value) (p q : PtT) (X Y : Int) (n h : Nat) (hp : NearT p) (hq : NearT q) (hvw : ViewOk X Y (n : Int) (h : Int)) (hV : RowV v 1) (hU : RowV u 4) (hr : RowAt w v 1 1 [u]) (h1 : RowAt w u 2 4 [.int .i64 p.x, .int .i64 p.y, .int .i64 q.x, .int .i64 p.y, .int .i64 q.x, .int .i64 q.y, .int .i64 p.x, .int .i64 q.y]) :
    Calls Try.prog 26 #[v, .agg #[.int .i64 X, .int .i64 Y, .int .i64 (n : Int), .int .i64 (h : Int)]] w fun e w' => ∃ y, e = .returned (.tuple #[.agg #[.int .i64 (n : Int), .int .i64 (h : Int), y], .int .i64 0]) ∧ Below w.heap.size w w' ∧ OwnAt w.heap.size w' y 5 1 (pixT (tabT X Y (n : Int) (h : Int) [boxP p q]) X Y n h).length (iU (pixT (tabT X Y (n : Int) (h : Int) [boxP p q]) X Y n h)) :=
  a_cover w v [u] [boxP p q] X Y n h (box_bnd hp hq) (pcsV_oneC hV (pc := boxP p q) hU (by simp [boxP]) (box_near hp hq)) (pcsAt_one hr h1) hvw
set_option maxHeartbeats 2000000 in
theorem a_CoverBoxes (w : World) (p q : PtT) (X Y W H : Int) (hX : -32768 ≤ X ∧ X < 32768) (hY : -32768 ≤ Y ∧ Y < 32768) (hW : 0 ≤ W ∧ W < 256) (hH : 0 ≤ H ∧ H < 256) :
    Calls Try.prog 8 #[.int .i16 X, .int .i16 Y, .int .u8 W, .int .u8 H, .agg #[.int .i64 p.x, .int .i64 p.y], .agg #[.int .i64 q.x, .int .i64 q.y]] w fun e w' => e = .returned (.bool true) ∧ Below w.heap.size w w' := by
  obtain ⟨n, hnA⟩ : ∃ k : Nat, (k : Int) = 1 + W % 12 := ⟨(1 + W % 12).toNat, by omega⟩
  obtain ⟨h, hhA⟩ : ∃ k : Nat, (k : Int) = 1 + H % 8 := ⟨(1 + H % 8).toNat, by omega⟩
  have hVA : Ans Try.prog 25 [.int .i16 X, .int .i16 Y, .int .u8 W, .int .u8 H] (.agg #[.int .i64 X, .int .i64 Y, .int .i64 (n : Int), .int .i64 (h : Int)]) := by rw [hnA, hhA]; exact a_view21 _ _ _ _ (by omega) (by omega) (by omega) (by omega)
  have hvA : ViewOk X Y (n : Int) (h : Int) := (viewOk_def _ _ _ _).2 (by omega)
  refine calls_of (args := [.int .i16 X, .int .i16 Y, .int .u8 W, .int .u8 H, .agg #[.int .i64 p.x, .int .i64 p.y], .agg #[.int .i64 q.x, .int .i64 q.y]]) Try.func8 rfl Try.ntmps8 Try.results8 rfl ?_
  refine v_seq ?_
  refine v_region ?_
  refine l_new rfl (o_box (cs := [_, _]) rfl rfl) fun b10 => ?_
  refine l_new rfl (o_box (cs := [_, _]) rfl rfl) fun b11 => ?_
  refine l_val rfl (o_assign rfl) ?_
  refine l_nil ?_
  refine kt_norm ?_
  refine v_seq ?_
  refine v_seq ?_
  refine v_region ?_
  refine l_val rfl (o_loadW (key := 10) rfl rfl rfl) ?_
  refine l_ans (vs := [_]) rfl rfl (a_Near p) ?_
  refine lz_bool (fun hnp => ?_) (fun hnp => ?_)
  · skip
    refine l_val rfl (o_not rfl rfl) ?_
    refine l_val rfl (o_move rfl) ?_
    refine l_val rfl (o_loadW (key := 11) rfl rfl rfl) ?_
    refine l_ans (vs := [_]) rfl rfl (a_Near q) ?_
    refine lz_bool (fun hnq => ?_) (fun hnq => ?_)
    · have hnp1 := hnp
      have hnq1 := hnq
      unfold NearT at hnp1 hnq1
      refine l_val rfl (o_not rfl rfl) ?_
      refine l_val rfl (o_pickF rfl rfl) ?_
      refine l_val rfl (o_move rfl) ?_
      refine l_ans (vs := []) rfl rfl (a_shown21) ?_
      refine l_val rfl (o_not rfl rfl) ?_
      refine l_val rfl (o_pickF rfl rfl) ?_
      refine l_nil ?_
      refine kt_norm ?_
      refine v_sel [0, 1, 2, 3, 10, 11, 34] [10, 11] rfl rfl ?_
      refine v_condF rfl ?_
      refine v_skip ?_
      refine kt_norm ?_
      refine v_seq ?_
      refine v_region ?_
      refine l_val rfl (o_move rfl) ?_
      refine l_val rfl (o_move rfl) ?_
      refine l_val rfl (o_move rfl) ?_
      refine l_val rfl (o_move rfl) ?_
      refine l_ans (vs := [_, _, _, _]) rfl rfl (hVA) ?_
      refine l_new rfl o_alloc fun b13 => ?_
      refine l_store rfl (o_storeW (key := 13) (xs := [_, _, _, _]) rfl rfl rfl rfl rfl rfl rfl) ?_
      refine l_nil ?_
      refine kt_norm ?_
      refine v_sel [10, 11, 13] [10, 11, 13] rfl rfl ?_
      refine v_seq ?_
      refine v_region ?_
      refine l_val rfl (o_loadW (key := 10) rfl rfl rfl) ?_
      refine l_val rfl (o_fld rfl) ?_
      refine l_val rfl (o_load1 (key := 11) rfl rfl rfl) ?_
      refine l_val rfl (o_fld rfl) ?_
      refine l_val rfl (o_load1 (key := 10) rfl rfl rfl) ?_
      refine l_val rfl (o_build (vs := [_, _]) (cs := [_, _]) rfl rfl) ?_
      refine l_val rfl (o_loadW (key := 11) rfl rfl rfl) ?_
      refine l_val rfl (o_fld rfl) ?_
      refine l_val rfl (o_load1 (key := 10) rfl rfl rfl) ?_
      refine l_val rfl (o_fld rfl) ?_
      refine l_val rfl (o_load1 (key := 11) rfl rfl rfl) ?_
      refine l_val rfl (o_build (vs := [_, _]) (cs := [_, _]) rfl rfl) ?_
      refine l_buildSlice (vs := [_, _, _, _]) (cs := [_, _, _, _, _, _, _, _]) rfl rfl rfl rfl rfl rfl fun v54 hv54 => ?_
      obtain ⟨a54, c54, rfl⟩ := hv54.sl
      refine l_buildSlice (vs := [_]) (cs := [_]) rfl rfl rfl rfl rfl rfl fun v55 hv55 => ?_
      refine l_val rfl (o_loadW (key := 13) rfl rfl rfl) ?_
      refine l_gownF (fun y => .tuple #[.agg #[.int .i64 (n : Int), .int .i64 (h : Int), y], .int .i64 0]) (ks := [55, 54]) (caps := #[]) (vs := [_, _]) rfl rfl (ent_of Try.func26 rfl rfl) rfl (fun w' hg hh => a_CovB w' v55 _ p q X Y n h hnp hnq hvA hv55 hv54 (rowAt_own (hh 55 (by simp) _ rfl)) (rowAt_own (hh 54 (by simp) _ rfl))) fun pa hpa => ?_
      obtain ⟨apa, cpa, rfl⟩ := hpa.sl
      refine l_val rfl (o_move rfl) ?_
      refine l_val rfl (o_extract rfl rfl) ?_
      refine l_val rfl (o_extract rfl rfl) ?_
      refine l_new rfl o_alloc fun b14 => ?_
      refine l_store rfl (o_storeW (key := 14) (xs := [_, _, _]) rfl rfl rfl rfl rfl rfl rfl) ?_
      refine l_val rfl (o_assign rfl) ?_
      refine l_nil ?_
      refine kt_norm ?_
      refine v_sel [10, 11, 13, 14, 15] [10, 11, 13, 14, 54, 55, 57] rfl rfl ?_
      refine v_seq ?_
      refine v_seq ?_
      refine v_region ?_
      have hpv0 := hpa
      have hpl : ((pixT (tabT X Y (n : Int) (h : Int) [boxP p q]) X Y n h)).length = n * h := pix_len2
      have hpc : ((((pixT (tabT X Y (n : Int) (h : Int) [boxP p q]) X Y n h)).length : Nat) : Int) = (n : Int) * h := by rw [hpl, Int.natCast_mul]
      have hnh : (n : Int) * h ≤ 256 * 256 := Int.mul_le_mul (by omega) (by omega) (by omega) (by omega)
      have hnh0 : 0 ≤ (n : Int) * h := Int.mul_nonneg (by omega) (by omega)
      refine l_val rfl (o_move rfl) ?_
      refine l_split rfl (o_neq rfl rfl) (fun q1 => absurd q1 (by omega)) (fun q1 => ?_)
      refine l_val rfl (o_move rfl) ?_
      refine l_val rfl (o_fld rfl) ?_
      refine l_val rfl (o_load1 (key := 14) rfl rfl rfl) ?_
      refine l_val rfl (o_len rfl hpv0) ?_
      refine l_val rfl (o_fld rfl) ?_
      refine l_val rfl (o_load1 (key := 13) rfl rfl rfl) ?_
      refine l_val rfl (o_fld rfl) ?_
      refine l_val rfl (o_load1 (key := 13) rfl rfl rfl) ?_
      refine l_val rfl (o_muli rfl rfl ?_) ?_
      · omega
      refine l_split rfl (o_neq rfl rfl) (fun q2 => absurd q2 (by omega)) (fun q2 => ?_)
      refine l_val rfl (o_pickF rfl rfl) ?_
      refine l_nil ?_
      refine kt_norm ?_
      refine v_sel [10, 11, 13, 14, 72] [10, 11, 13, 14, 54, 55, 57] rfl rfl ?_
      refine v_condF rfl ?_
      refine v_skip ?_
      refine kt_norm ?_
      refine v_seq ?_
      refine v_seq ?_
      refine v_region ?_
      refine l_val rfl (o_assign rfl) ?_
      refine l_nil ?_
      refine kt_norm ?_
      refine v_block ?_
      refine v_loopS (α := Nat) (fun j => [(16, .int .i64 (j : Int))]) (fun j => [])  (fun j => j ≤ h) (fun j => h - j) 0 [10, 11, 13, 14] [10, 11, 13, 14, 54, 55, 57] (Nat.zero_le _)  (And.intro rfl (True.intro)) rfl (True.intro) rfl ?_
      rintro j hj
      refine v_seq ?_
      refine v_seq ?_
      refine v_region ?_
      refine l_val rfl (o_move rfl) ?_
      refine l_val rfl (o_fld rfl) ?_
      refine l_val rfl (o_load1 (key := 13) rfl rfl rfl) ?_
      refine l_split rfl (o_lss rfl rfl) (fun q3 => ?_) (fun q3 => ?_)
      · have hjl : j < h := by omega
        refine l_nil ?_
        refine kt_norm ?_
        refine v_condT rfl ?_
        refine v_skip ?_
        refine kt_norm ?_
        refine v_seq ?_
        refine v_block ?_
        refine v_seq ?_
        refine v_region ?_
        refine l_val rfl (o_assign rfl) ?_
        refine l_nil ?_
        refine kt_norm ?_
        refine v_seq ?_
        refine v_seq ?_
        refine v_region ?_
        refine l_val rfl (o_assign rfl) ?_
        refine l_nil ?_
        refine kt_norm ?_
        refine v_block ?_
        refine v_loopS (α := Nat) (fun k => [(18, .int .i64 (k : Int)), (17, .int .i64 (bxN p q (Y + (j : Int)) k))]) (fun k => [])  (fun k => k ≤ 16) (fun k => 16 - k) 0 [16, 10, 11, 13, 14] [10, 11, 13, 14, 54, 55, 57] (Nat.zero_le _)  (And.intro rfl (And.intro rfl (True.intro))) rfl (True.intro) rfl ?_
        rintro k hk
        refine v_seq ?_
        refine v_seq ?_
        refine v_region ?_
        refine l_val rfl (o_move rfl) ?_
        refine l_split rfl (o_lss rfl rfl) (fun q4 => ?_) (fun q4 => ?_)
        · have hbk := bxN_bound p q (Y + (j : Int)) k
          refine l_nil ?_
          refine kt_norm ?_
          refine v_condT rfl ?_
          refine v_skip ?_
          refine kt_norm ?_
          refine v_seq ?_
          refine v_block ?_
          refine v_seq ?_
          refine v_region ?_
          refine l_val rfl (o_fld rfl) ?_
          refine l_val rfl (o_load1 (key := 13) rfl rfl rfl) ?_
          refine l_val rfl (o_move rfl) ?_
          refine l_val rfl (o_addi rfl rfl ?_) ?_
          · omega
          refine l_val rfl (o_muli rfl rfl ?_) ?_
          · omega
          refine l_val rfl (o_move rfl) ?_
          refine l_val rfl (o_muli rfl rfl ?_) ?_
          · omega
          refine l_val rfl (o_addi rfl rfl ?_) ?_
          · omega
          refine l_val rfl (o_addi rfl rfl ?_) ?_
          · omega
          refine l_val rfl (o_assign rfl) ?_
          refine l_nil ?_
          refine kt_norm ?_
          refine v_sel [18, 17, 16, 10, 11, 13, 14, 19] [10, 11, 13, 14, 54, 55, 57] rfl rfl ?_
          refine v_seq ?_
          refine v_region ?_
          refine l_val rfl (o_move rfl) ?_
          refine l_val rfl (o_fld rfl) ?_
          refine l_val rfl (o_load1 (key := 10) rfl rfl rfl) ?_
          refine l_val rfl (o_fld rfl) ?_
          refine l_val rfl (o_load1 (key := 11) rfl rfl rfl) ?_
          refine l_val rfl (o_min rfl rfl) ?_
          refine l_split rfl (o_geq rfl rfl) (fun h156 => ?_) (fun h156 => ?_)
          · skip
            refine l_val rfl (o_move rfl) ?_
            refine l_val rfl (o_move rfl) ?_
            refine l_val rfl (o_fld rfl) ?_
            refine l_val rfl (o_load1 (key := 10) rfl rfl rfl) ?_
            refine l_val rfl (o_fld rfl) ?_
            refine l_val rfl (o_load1 (key := 11) rfl rfl rfl) ?_
            refine l_val rfl (o_max rfl rfl) ?_
            refine l_split rfl (o_lss rfl rfl) (fun h1514 => ?_) (fun h1514 => ?_)
            · skip
              refine l_val rfl (o_pickT rfl rfl) ?_
              refine l_nil ?_
              refine kt_norm ?_
              refine v_sel [18, 17, 16, 10, 11, 13, 14, 100, 101, 102, 103, 104, 105, 106, 107] [10, 11, 13, 14, 54, 55, 57] rfl rfl ?_
              refine v_condT rfl ?_
              refine v_region ?_
              refine l_val rfl (o_move rfl) ?_
              refine l_val rfl (o_addi rfl rfl ?_) ?_
              · omega
              refine l_val rfl (o_assign rfl) ?_
              refine l_nil ?_
              refine kb_norm ?_
              refine kt_norm ?_
              refine v_region ?_
              refine l_val rfl (o_move rfl) ?_
              refine l_val rfl (o_addi rfl rfl ?_) ?_
              · omega
              refine l_val rfl (o_assign rfl) ?_
              refine l_nil ?_
              refine kt_norm ?_
              refine ⟨k + 1, by omega, by omega, le_app (And.intro rfl (And.intro (congrArg (fun z => some (Value.int .i64 z)) (bxN_yes ⟨by split at h156 <;> omega, by split at h1514 <;> omega⟩).symm) (True.intro))) [16, 10, 11, 13, 14] rfl (True.intro) [10, 11, 13, 14, 54, 55, 57] rfl⟩
            · skip
              refine l_val rfl (o_pickT rfl rfl) ?_
              refine l_nil ?_
              refine kt_norm ?_
              refine v_sel [18, 17, 16, 10, 11, 13, 14, 100, 101, 102, 103, 104, 105, 106, 107] [10, 11, 13, 14, 54, 55, 57] rfl rfl ?_
              refine v_condF rfl ?_
              refine v_skip ?_
              refine kb_norm ?_
              refine kt_norm ?_
              refine v_region ?_
              refine l_val rfl (o_move rfl) ?_
              refine l_val rfl (o_addi rfl rfl ?_) ?_
              · omega
              refine l_val rfl (o_assign rfl) ?_
              refine l_nil ?_
              refine kt_norm ?_
              refine ⟨k + 1, by omega, by omega, le_app (And.intro rfl (And.intro (congrArg (fun z => some (Value.int .i64 z)) (bxN_no (fun hh => by split at h1514 <;> omega)).symm) (True.intro))) [16, 10, 11, 13, 14] rfl (True.intro) [10, 11, 13, 14, 54, 55, 57] rfl⟩
          · skip
            refine l_val rfl (o_move rfl) ?_
            refine l_no rfl ?_
            refine l_no rfl ?_
            refine l_no rfl ?_
            refine l_no rfl ?_
            refine l_no rfl ?_
            refine l_no rfl ?_
            refine l_no rfl ?_
            refine l_val rfl (o_pickF rfl rfl) ?_
            refine l_nil ?_
            refine kt_norm ?_
            refine v_sel [18, 17, 16, 10, 11, 13, 14, 100, 101, 102, 103, 104, 105, 106, 107] [10, 11, 13, 14, 54, 55, 57] rfl rfl ?_
            refine v_condF rfl ?_
            refine v_skip ?_
            refine kb_norm ?_
            refine kt_norm ?_
            refine v_region ?_
            refine l_val rfl (o_move rfl) ?_
            refine l_val rfl (o_addi rfl rfl ?_) ?_
            · omega
            refine l_val rfl (o_assign rfl) ?_
            refine l_nil ?_
            refine kt_norm ?_
            refine ⟨k + 1, by omega, by omega, le_app (And.intro rfl (And.intro (congrArg (fun z => some (Value.int .i64 z)) (bxN_no (fun hh => by split at h156 <;> omega)).symm) (True.intro))) [16, 10, 11, 13, 14] rfl (True.intro) [10, 11, 13, 14, 54, 55, 57] rfl⟩
        · skip
          refine l_nil ?_
          refine kt_norm ?_
          refine v_condF rfl ?_
          refine v_exit ?_
          refine kt_exit ?_
          refine kt_exit ?_
          refine kb_eq ?_
          refine kt_norm ?_
          refine v_seq ?_
          refine v_region ?_
          obtain rfl : k = 16 := by omega
          refine l_val rfl (o_assign rfl) ?_
          refine l_nil ?_
          refine kt_norm ?_
          refine v_block ?_
          refine v_loopS (α := Nat) (fun i => [(20, .int .i64 (i : Int))]) (fun i => [])  (fun i => i ≤ n) (fun i => n - i) 0 [17, 16, 10, 11, 13, 14] [10, 11, 13, 14, 54, 55, 57] (Nat.zero_le _)  (And.intro rfl (True.intro)) rfl (True.intro) rfl ?_
          rintro i hi
          refine v_seq ?_
          refine v_seq ?_
          refine v_region ?_
          refine l_val rfl (o_move rfl) ?_
          refine l_val rfl (o_fld rfl) ?_
          refine l_val rfl (o_load1 (key := 13) rfl rfl rfl) ?_
          refine l_split rfl (o_lss rfl rfl) (fun q5 => ?_) (fun q5 => ?_)
          · have hil : i < n := by omega
            have hbw := bxW_bound p q (256 * (X + (i : Int)))
            have hbn := bxN_bound p q (Y + (j : Int)) 16
            have hmul : bxN p q (Y + (j : Int)) 16 * bxW p q (256 * (X + (i : Int))) ≤ 16 * 256 := Int.mul_le_mul hbn.2 hbw.2 hbw.1 (by omega)
            have hmul0 : 0 ≤ bxN p q (Y + (j : Int)) 16 * bxW p q (256 * (X + (i : Int))) := Int.mul_nonneg hbn.1 hbw.1
            have hat := atT_img' (ps := [boxP p q]) hvA hil hjl
            rw [cov_box] at hat
            refine l_nil ?_
            refine kt_norm ?_
            refine v_condT rfl ?_
            refine v_skip ?_
            refine kt_norm ?_
            refine v_seq ?_
            refine v_block ?_
            refine v_seq ?_
            refine v_region ?_
            refine l_val rfl (o_fld rfl) ?_
            refine l_val rfl (o_load1 (key := 13) rfl rfl rfl) ?_
            refine l_val rfl (o_move rfl) ?_
            refine l_val rfl (o_addi rfl rfl ?_) ?_
            · omega
            refine l_val rfl (o_muli rfl rfl ?_) ?_
            · omega
            refine l_val rfl (o_assign rfl) ?_
            refine l_nil ?_
            refine kt_norm ?_
            refine v_sel [20, 17, 16, 10, 11, 13, 14, 21] [10, 11, 13, 14, 54, 55, 57] rfl rfl ?_
            refine v_seq ?_
            refine v_region ?_
            refine l_val rfl (o_fld rfl) ?_
            refine l_val rfl (o_load1 (key := 10) rfl rfl rfl) ?_
            refine l_val rfl (o_fld rfl) ?_
            refine l_val rfl (o_load1 (key := 11) rfl rfl rfl) ?_
            refine l_val rfl (o_max rfl rfl) ?_
            refine l_val rfl (o_move rfl) ?_
            refine l_val rfl (o_addi rfl rfl ?_) ?_
            · omega
            refine l_val rfl (o_min rfl rfl) ?_
            refine l_val rfl (o_fld rfl) ?_
            refine l_val rfl (o_load1 (key := 10) rfl rfl rfl) ?_
            refine l_val rfl (o_fld rfl) ?_
            refine l_val rfl (o_load1 (key := 11) rfl rfl rfl) ?_
            refine l_val rfl (o_min rfl rfl) ?_
            refine l_val rfl (o_move rfl) ?_
            refine l_val rfl (o_max rfl rfl) ?_
            refine l_val rfl (o_subi rfl rfl ?_) ?_
            · omega
            refine l_val rfl (o_max rfl rfl) ?_
            refine l_val rfl (o_assignE (q' := bxW p q (256 * (X + (i : Int)))) rfl (by unfold bxW; (repeat' split) <;> omega)) ?_
            refine l_nil ?_
            refine kt_norm ?_
            refine v_sel [20, 17, 16, 10, 11, 13, 14, 22] [10, 11, 13, 14, 54, 55, 57] rfl rfl ?_
            refine v_seq ?_
            refine v_region ?_
            refine l_val rfl (o_loadW (key := 14) rfl rfl rfl) ?_
            refine l_val rfl (o_move rfl) ?_
            refine l_val rfl (o_move rfl) ?_
            refine l_call (ks := [57]) rfl (o_callC (vs := [_, _, _]) (r := .int .u8 (atT n h (pixT (tabT X Y (n : Int) (h : Int) [boxP p q]) X Y n h) (i : Int) (j : Int))) (ent_of Try.func27 rfl rfl) rfl (fun w' hg hh => a_AtC w' (.slice apa (pixT (tabT X Y (n : Int) (h : Int) [boxP p q]) X Y n h).length cpa) n h (pixT (tabT X Y (n : Int) (h : Int) [boxP p q]) X Y n h) (i : Int) (j : Int) (nh_le (by omega) (by omega)) pix_len2 hpa (rowAt_own (hh 57 (by simp) _ rfl)))) ?_
            refine l_val rfl (o_move rfl) ?_
            refine l_val rfl (o_move rfl) ?_
            refine l_val rfl (o_muli rfl rfl ?_) ?_
            · omega
            refine l_ans (vs := [_]) rfl rfl (a_Value _) ?_
            refine l_split rfl (o_neq rfl rfl) (fun q6 => absurd q6 (by omega)) (fun q6 => ?_)
            refine l_nil ?_
            refine kt_norm ?_
            refine v_sel [20, 17, 16, 10, 11, 13, 14, 146] [10, 11, 13, 14, 54, 55, 57] rfl rfl ?_
            refine v_condF rfl ?_
            refine v_skip ?_
            refine kb_norm ?_
            refine kt_norm ?_
            refine v_region ?_
            refine l_val rfl (o_move rfl) ?_
            refine l_val rfl (o_addi rfl rfl ?_) ?_
            · omega
            refine l_val rfl (o_assign rfl) ?_
            refine l_nil ?_
            refine kt_norm ?_
            refine ⟨i + 1, by omega, by omega, le_app (And.intro rfl (True.intro)) [17, 16, 10, 11, 13, 14] rfl (True.intro) [10, 11, 13, 14, 54, 55, 57] rfl⟩
          · skip
            refine l_nil ?_
            refine kt_norm ?_
            refine v_condF rfl ?_
            refine v_exit ?_
            refine kt_exit ?_
            refine kt_exit ?_
            refine kb_eq ?_
            refine kb_norm ?_
            refine kt_norm ?_
            refine v_sel [16, 10, 11, 13, 14] [10, 11, 13, 14, 54, 55, 57] rfl rfl ?_
            refine v_region ?_
            refine l_val rfl (o_move rfl) ?_
            refine l_val rfl (o_addi rfl rfl ?_) ?_
            · omega
            refine l_val rfl (o_assign rfl) ?_
            refine l_nil ?_
            refine kt_norm ?_
            refine ⟨j + 1, by omega, by omega, le_app (And.intro rfl (True.intro)) [10, 11, 13, 14] rfl (True.intro) [10, 11, 13, 14, 54, 55, 57] rfl⟩
      · skip
        refine l_nil ?_
        refine kt_norm ?_
        refine v_condF rfl ?_
        refine v_exit ?_
        refine kt_exit ?_
        refine kt_exit ?_
        refine kb_eq ?_
        refine kt_norm ?_
        refine v_sel [] [14, 54, 55, 57] rfl rfl ?_
        refine v_seq ?_
        refine v_region ?_
        refine l_val rfl (o_assign rfl) ?_
        refine l_nil ?_
        refine kt_norm ?_
        refine v_ret ?_
        refine ⟨[_], .cons (.tmp rfl) (ResAll.nil), ?_⟩
        rfl
    · skip
      refine l_val rfl (o_not rfl rfl) ?_
      refine l_val rfl (o_pickF rfl rfl) ?_
      refine l_val rfl (o_move rfl) ?_
      refine l_no rfl ?_
      refine l_no rfl ?_
      refine l_val rfl (o_pickT rfl rfl) ?_
      refine l_nil ?_
      refine kt_norm ?_
      refine v_sel [0, 1, 2, 3, 10, 11, 34] [10, 11] rfl rfl ?_
      refine v_condT rfl ?_
      refine v_seq ?_
      refine v_region ?_
      refine l_ans (vs := []) rfl rfl (a_shown21) ?_
      refine l_val rfl (o_assign rfl) ?_
      refine l_nil ?_
      refine kt_norm ?_
      refine v_sel [12] [] rfl rfl ?_
      refine v_ret ?_
      refine kt_ret ?_
      refine ⟨[_], .cons (.tmp rfl) (ResAll.nil), ?_⟩
      rfl
  · skip
    refine l_val rfl (o_not rfl rfl) ?_
    refine l_val rfl (o_move rfl) ?_
    refine l_no rfl ?_
    refine l_no rfl ?_
    refine l_no rfl ?_
    refine l_val rfl (o_pickT rfl rfl) ?_
    refine l_val rfl (o_move rfl) ?_
    refine l_no rfl ?_
    refine l_no rfl ?_
    refine l_val rfl (o_pickT rfl rfl) ?_
    refine l_nil ?_
    refine kt_norm ?_
    refine v_sel [0, 1, 2, 3, 10, 11, 34] [10, 11] rfl rfl ?_
    refine v_condT rfl ?_
    refine v_seq ?_
    refine v_region ?_
    refine l_ans (vs := []) rfl rfl (a_shown21) ?_
    refine l_val rfl (o_assign rfl) ?_
    refine l_nil ?_
    refine kt_norm ?_
    refine v_sel [12] [] rfl rfl ?_
    refine v_ret ?_
    refine kt_ret ?_
    refine ⟨[_], .cons (.tmp rfl) (ResAll.nil), ?_⟩
    rfl
end Go.Proofs.Ytaijclimdfchfaa
