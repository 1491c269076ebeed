import Derived.Test.YtaijclimdfchfaaF12
/- A pixel is what the spans of its rows measure, whatever the view. Conditions: none. -/
namespace Go.Proofs.Ytaijclimdfchfaa
open Go.Proofs Go.RowKit Go.Shelf

theorem wf_u8 {a : Int} (h : (Lit.int .u8 a).wf = true) : 0 ≤ a ∧ a < 256 := by
  simp only [Lit.wf, Bool.and_eq_true, decide_eq_true_eq] at h
  have e1 : IntKind.u8.min = 0 := by decide
  have e2 : IntKind.u8.max = 255 := by decide
  omega
/-- what the spans of the 16 rows of a pixel measure of it -/
def covK (ps : List (List PtT)) (c y : Int) : Nat → Int
  | 0 => 0
  | k + 1 => covK ps c y k + sumF (lenC (256 * c) (256 * c + 256)) (rowS (crs (16 * y + k) (liveT (16 * y + k) (edgesAll ps))))
def covA (ps : List (List PtT)) (c y : Int) : Int := covK ps c y 16
theorem live_cut_yes {f t r : Int} {e : EdgeT} (hf : f ≤ r) (ht : r < t) (h : e.fr ≤ r ∧ r < e.to) : (cutE f t e).fr ≤ r ∧ r < (cutE f t e).to := by
  rw [cutE_fr, cutE_to]; constructor <;> split <;> omega
theorem live_view {f t r : Int} (hf : f ≤ r) (ht : r < t) : ∀ l : List EdgeT, crs r (liveT r (viewEs f t l)) = crs r (liveT r l)
  | [] => rfl
  | e :: l => by
    have ih := live_view hf ht l
    have e1 : viewEs f t (e :: l) = (if (cutE f t e).fr < (cutE f t e).to then [cutE f t e] else []) ++ viewEs f t l := by
      have h1 : e :: l = [e] ++ l := rfl
      unfold viewEs
      rw [h1, List.map_append, List.filter_append]
      congr 1
      by_cases hc : (cutE f t e).fr < (cutE f t e).to <;> simp [hc]
    have e2 : liveT r (e :: l) = liveT r [e] ++ liveT r l := live_append r [e] l
    have c1 : ∀ a b : List EdgeT, crs r (a ++ b) = crs r a ++ crs r b := fun a b => by simp [crs]
    rw [e1, live_append, e2, c1, c1, ih]
    congr 1
    by_cases hl : e.fr ≤ r ∧ r < e.to
    · have h2 := live_cut_yes hf ht hl
      rw [if_pos (by omega), live_one_yes h2, live_one_yes hl]; rfl
    · rw [live_one_no hl]
      split
      · rename_i hc
        rw [live_one_no (e := cutE f t e)]
        rw [cutE_fr, cutE_to] at *
        intro ⟨h3, h4⟩
        apply hl
        constructor
        · split at h3 <;> omega
        · split at h4 <;> omega
      · rfl
theorem row_tab {X Y W H r : Int} {ps : List (List PtT)} (hv : ViewOk X Y W H) (h1 : 16 * Y ≤ r) (h2 : r < 16 * (Y + H)) : rowS (crs r (liveT r (tabT X Y W H ps))) = rowS (crs r (liveT r (edgesAll ps))) := by
  unfold tabT
  rw [if_pos hv, ← live_view h1 h2 (edgesAll ps)]
  exact (rowS_perm (List.Perm.map _ (List.Perm.filter _ (stSort_perm _)))).symm
theorem cov_row {X Y : Int} {n h : Nat} {ps : List (List PtT)} (hv : ViewOk X Y (n : Int) (h : Int)) {j : Nat} (hj : j < h) (p : Nat) : ∀ k, k ≤ 16 → rowSum (tabT X Y (n : Int) (h : Int) ps) X p (16 * (Y + j)) k = covK ps (X + p) (Y + j) k
  | 0, _ => rfl
  | k + 1, hk => by
    rw [rowSum, covK, cov_row hv hj p k (by omega)]
    congr 1
    unfold measT
    rw [row_tab hv (by omega) (by omega)]
    unfold pxC
    rw [show X * 256 + 256 * (p : Int) = 256 * (X + p) by omega]
theorem pixT_get {T : List EdgeT} {X Y : Int} {n : Nat} : ∀ (h j i : Nat), i < n → j < h → (pixT T X Y n h).getD (j * n + i) 0 = valT (rowSum T X i (16 * (Y + j)) 16)
  | 0, j, i, _, hj => absurd hj (by omega)
  | h + 1, j, i, hi, hj => by
    have hl := pixT_len T X Y n h
    rw [pixT, List.getD_eq_getElem?_getD, List.getElem?_append]
    by_cases e : j = h
    · subst e
      rw [if_neg (by omega), hl, show j * n + i - j * n = i by omega]
      simp [pixRow, hi]
    · have h1 : (j + 1) * n ≤ h * n := Nat.mul_le_mul_right n (by omega)
      rw [Nat.succ_mul] at h1
      rw [if_pos (by omega), ← List.getD_eq_getElem?_getD]
      exact pixT_get h j i hi (by omega)
theorem atT_img {X Y x y : Int} {n h : Nat} {ps : List (List PtT)} (hv : ViewOk X Y (n : Int) (h : Int)) (hx : X ≤ x ∧ x < X + n) (hy : Y ≤ y ∧ y < Y + h) : atT n h (pixT (tabT X Y (n : Int) (h : Int) ps) X Y n h) (x - X) (y - Y) = valT (covA ps x y) := by
  obtain ⟨i, hi⟩ : ∃ i : Nat, (i : Int) = x - X := ⟨(x - X).toNat, by omega⟩
  obtain ⟨j, hj⟩ : ∃ j : Nat, (j : Int) = y - Y := ⟨(y - Y).toNat, by omega⟩
  unfold atT
  rw [if_pos (by omega), ← hi, ← hj, show (((j : Int) * n + i).toNat) = j * n + i by rw [← Int.natCast_mul]; omega, pixT_get h j i (by omega) (by omega), cov_row hv (by omega) i 16 (Nat.le_refl _)]
  unfold covA
  rw [show X + (i : Int) = x by omega, show Y + (j : Int) = y by omega]
theorem pix_len2 {T : List EdgeT} {X Y : Int} {n h : Nat} : (pixT T X Y n h).length = n * h := by rw [pixT_len, Nat.mul_comm]
theorem nh_le {n h : Nat} (h1 : n ≤ 256) (h2 : h ≤ 256) : n * h ≤ 65536 := Nat.le_trans (Nat.mul_le_mul h1 h2) (by decide)
set_option maxHeartbeats 2000000 in
theorem a_CoverViews (w : World) (v : Value) (pvs : List Value) (ps : List (List PtT)) (X Y W H dx dy W2 H2 : Int) (hv : PcsW v pvs ps) (hat : PcsAt w v pvs ps) (hX : -32768 ≤ X ∧ X < 32768) (hY : -32768 ≤ Y ∧ Y < 32768) (hW : 0 ≤ W ∧ W < 256) (hH : 0 ≤ H ∧ H < 256) (hdx : 0 ≤ dx ∧ dx < 256) (hdy : 0 ≤ dy ∧ dy < 256) (hW2 : 0 ≤ W2 ∧ W2 < 256) (hH2 : 0 ≤ H2 ∧ H2 < 256) :
    Calls Try.prog 6 #[v, .int .i16 X, .int .i16 Y, .int .u8 W, .int .u8 H, .int .u8 dx, .int .u8 dy, .int .u8 W2, .int .u8 H2] w fun e w' => e = .returned (.bool true) ∧ Below w.heap.size w w' := by
  have hVp := hv.V
  have hlen := hv.len
  have hrowP : ∀ w', Chg (fun _ => False) w w' → RowAt w' v 1 ps.length pvs := fun w' h => (hat.keep h).row
  obtain ⟨n, hnA⟩ : ∃ k : Nat, (k : Int) = 1 + W % 12 := ⟨(1 + W % 12).toNat, by omega⟩
  obtain ⟨h, hhA⟩ : ∃ k : Nat, (k : Int) = 1 + H % 8 := ⟨(1 + H % 8).toNat, by omega⟩
  have hVA : Ans Try.prog 25 [.int .i16 X, .int .i16 Y, .int .u8 W, .int .u8 H] (.agg #[.int .i64 X, .int .i64 Y, .int .i64 (n : Int), .int .i64 (h : Int)]) := by rw [hnA, hhA]; exact a_view21 _ _ _ _ (by omega) (by omega) (by omega) (by omega)
  obtain ⟨m, hnB⟩ : ∃ k : Nat, (k : Int) = 1 + W2 % 12 := ⟨(1 + W2 % 12).toNat, by omega⟩
  obtain ⟨k, hhB⟩ : ∃ k : Nat, (k : Int) = 1 + H2 % 8 := ⟨(1 + H2 % 8).toNat, by omega⟩
  have hVB : Ans Try.prog 25 [.int .i16 0, .int .i16 0, .int .u8 W2, .int .u8 H2] (.agg #[.int .i64 0, .int .i64 0, .int .i64 (m : Int), .int .i64 (k : Int)]) := by rw [hnB, hhB]; exact a_view21 _ _ _ _ (by omega) (by omega) (by omega) (by omega)
  have hvA : ViewOk X Y (n : Int) (h : Int) := (viewOk_def _ _ _ _).2 (by omega)
  have hvB : ViewOk (X + dx % 12) (Y + dy % 8) (m : Int) (k : Int) := (viewOk_def _ _ _ _).2 (by omega)
  refine calls_of (args := [v, .int .i16 X, .int .i16 Y, .int .u8 W, .int .u8 H, .int .u8 dx, .int .u8 dy, .int .u8 W2, .int .u8 H2]) Try.func6 rfl Try.ntmps6 Try.results6 rfl ?_
  refine v_seq ?_
  refine v_region ?_
  refine l_val rfl (o_assign rfl) ?_
  refine l_nil ?_
  refine kt_norm ?_
  refine v_seq ?_
  refine v_seq ?_
  refine v_region ?_
  refine l_val rfl (o_move rfl) ?_
  refine l_call (ks := []) rfl (o_callC (vs := [_]) (r := .bool (decide (Bn21 ps))) (ent_of Try.func23 rfl rfl) rfl (fun w' hg hh => a_bounded21 w' _ pvs ps hv (hat.keep hg))) ?_
  refine lz_bool (fun hbb => ?_) (fun hbb => ?_)
  · have hb := hbb.bnd
    have hvp := hb.pcsV hv
    refine l_val rfl (o_not rfl rfl) ?_
    refine l_val rfl (o_move rfl) ?_
    refine l_ans (vs := []) rfl rfl (a_shown21) ?_
    refine l_val rfl (o_not rfl rfl) ?_
    refine l_val rfl (o_pickF rfl rfl) ?_
    refine l_nil ?_
    refine kt_norm ?_
    refine v_sel [0, 1, 2, 3, 4, 5, 6, 7, 8, 33] [] rfl rfl ?_
    refine v_condF rfl ?_
    refine v_skip ?_
    refine kt_norm ?_
    refine v_seq ?_
    refine v_region ?_
    refine l_val rfl (o_move rfl) ?_
    refine l_val rfl (o_move rfl) ?_
    refine l_val rfl (o_move rfl) ?_
    refine l_val rfl (o_move rfl) ?_
    refine l_ans (vs := [_, _, _, _]) rfl rfl (hVA) ?_
    refine l_new rfl o_alloc fun b19 => ?_
    refine l_store rfl (o_storeW (key := 19) (xs := [_, _, _, _]) rfl rfl rfl rfl rfl rfl rfl) ?_
    refine l_nil ?_
    refine kt_norm ?_
    refine v_sel [0, 5, 6, 7, 8, 19] [19] rfl rfl ?_
    refine v_seq ?_
    refine v_region ?_
    refine l_val rfl (o_move rfl) ?_
    refine l_val rfl (o_move rfl) ?_
    refine l_ans (vs := [_, _, _, _]) rfl rfl (hVB) ?_
    refine l_new rfl o_alloc fun b20 => ?_
    refine l_store rfl (o_storeW (key := 20) (xs := [_, _, _, _]) rfl rfl rfl rfl rfl rfl rfl) ?_
    refine l_nil ?_
    refine kt_norm ?_
    refine v_seq ?_
    refine v_region ?_
    refine l_val rfl (o_fld rfl) ?_
    refine l_val rfl (o_load1 (key := 19) rfl rfl rfl) ?_
    refine l_val rfl (o_move rfl) ?_
    refine l_val rfl (o_convi rfl ?_) ?_
    · omega
    refine l_val rfl (o_remn rfl rfl ?_) ?_
    · omega
    refine l_val rfl (o_addi rfl rfl ?_) ?_
    · omega
    refine l_val rfl (o_fld rfl) ?_
    refine l_store rfl (o_store1 (key := 20) (rs := [_, _, _, _]) rfl rfl rfl rfl rfl rfl rfl) ?_
    refine l_nil ?_
    refine kt_norm ?_
    refine v_sel [0, 6, 19, 20] [19, 20] rfl rfl ?_
    refine v_seq ?_
    refine v_region ?_
    refine l_val rfl (o_fld rfl) ?_
    refine l_val rfl (o_load1 (key := 19) rfl rfl rfl) ?_
    refine l_val rfl (o_move rfl) ?_
    refine l_val rfl (o_convi rfl ?_) ?_
    · omega
    refine l_val rfl (o_remn rfl rfl ?_) ?_
    · omega
    refine l_val rfl (o_addi rfl rfl ?_) ?_
    · omega
    refine l_val rfl (o_fld rfl) ?_
    refine l_store rfl (o_store1 (key := 20) (rs := [_, _, _, _]) rfl rfl rfl rfl rfl rfl rfl) ?_
    refine l_nil ?_
    refine kt_norm ?_
    refine v_sel [0, 19, 20] [19, 20] rfl rfl ?_
    refine v_seq ?_
    refine v_region ?_
    refine l_val rfl (o_move rfl) ?_
    refine l_val rfl (o_loadW (key := 19) rfl rfl rfl) ?_
    refine l_gownF (fun y => .tuple #[.agg #[.int .i64 (n : Int), .int .i64 (h : Int), y], .int .i64 0]) (ks := []) (caps := #[]) (vs := [_, _]) rfl rfl (ent_of Try.func26 rfl rfl) rfl (fun w' hg hh => a_cover w' v pvs ps X Y n h hb hvp (hat.keep hg) hvA) fun pa hpa => ?_
    obtain ⟨apa, cpa, rfl⟩ := hpa.sl
    refine l_val rfl (o_move rfl) ?_
    refine l_val rfl (o_extract rfl rfl) ?_
    refine l_val rfl (o_extract rfl rfl) ?_
    refine l_new rfl o_alloc fun b21 => ?_
    refine l_store rfl (o_storeW (key := 21) (xs := [_, _, _]) rfl rfl rfl rfl rfl rfl rfl) ?_
    refine l_val rfl (o_assign rfl) ?_
    refine l_nil ?_
    refine kt_norm ?_
    refine v_sel [0, 19, 20, 21, 22] [19, 20, 21, 60] rfl rfl ?_
    refine v_seq ?_
    refine v_region ?_
    skip
    refine l_val rfl (o_move rfl) ?_
    refine l_val rfl (o_loadW (key := 20) rfl rfl rfl) ?_
    refine l_gownF (fun y => .tuple #[.agg #[.int .i64 (m : Int), .int .i64 (k : Int), y], .int .i64 0]) (ks := []) (caps := #[]) (vs := [_, _]) rfl rfl (ent_of Try.func26 rfl rfl) rfl (fun w' hg hh => a_cover w' v pvs ps (X + dx % 12) (Y + dy % 8) m k hb hvp (hat.keep hg) hvB) fun pb hpb => ?_
    obtain ⟨apb, cpb, rfl⟩ := hpb.sl
    refine l_val rfl (o_move rfl) ?_
    refine l_val rfl (o_extract rfl rfl) ?_
    refine l_val rfl (o_extract rfl rfl) ?_
    refine l_new rfl o_alloc fun b23 => ?_
    refine l_store rfl (o_storeW (key := 23) (xs := [_, _, _]) rfl rfl rfl rfl rfl rfl rfl) ?_
    refine l_val rfl (o_assign rfl) ?_
    refine l_nil ?_
    refine kt_norm ?_
    refine v_sel [19, 20, 21, 22, 23, 24] [19, 20, 21, 23, 60, 66] rfl rfl ?_
    refine v_seq ?_
    refine v_seq ?_
    refine v_region ?_
    skip
    refine l_val rfl (o_move rfl) ?_
    refine l_split rfl (o_neq rfl rfl) (fun q1 => absurd q1 (by omega)) (fun q1 => ?_)
    refine l_val rfl (o_move rfl) ?_
    refine l_val rfl (o_move rfl) ?_
    refine l_split rfl (o_neq rfl rfl) (fun q2 => absurd q2 (by omega)) (fun q2 => ?_)
    refine l_val rfl (o_pickF rfl rfl) ?_
    refine l_nil ?_
    refine kt_norm ?_
    refine v_sel [19, 20, 21, 23, 74] [19, 20, 21, 23, 60, 66] rfl rfl ?_
    refine v_condF rfl ?_
    refine v_skip ?_
    refine kt_norm ?_
    refine v_seq ?_
    refine v_seq ?_
    refine v_region ?_
    refine l_val rfl (o_fld rfl) ?_
    refine l_val rfl (o_load1 (key := 20) rfl rfl rfl) ?_
    refine l_val rfl (o_assign rfl) ?_
    refine l_nil ?_
    refine kt_norm ?_
    refine v_block ?_
    refine v_loopS (α := Int) (fun x => [(25, .int .i64 x)]) (fun x => [])  (fun x => (X + dx % 12) ≤ x ∧ x ≤ 100000) (fun x => (X + n - x).toNat) (X + dx % 12) [19, 20, 21, 23] [19, 20, 21, 23, 60, 66] ⟨Int.le_refl _, by omega⟩  (And.intro rfl (True.intro)) rfl (True.intro) rfl ?_
    rintro x ⟨hx1, hx2⟩
    refine v_seq ?_
    refine v_seq ?_
    refine v_region ?_
    refine l_val rfl (o_move rfl) ?_
    refine l_val rfl (o_fld rfl) ?_
    refine l_val rfl (o_load1 (key := 19) rfl rfl rfl) ?_
    refine l_val rfl (o_fld rfl) ?_
    refine l_val rfl (o_load1 (key := 19) rfl rfl rfl) ?_
    refine l_val rfl (o_addi rfl rfl ?_) ?_
    · omega
    refine l_split rfl (o_lss rfl rfl) (fun q3 => ?_) (fun q3 => ?_)
    · skip
      refine l_val rfl (o_move rfl) ?_
      refine l_val rfl (o_move rfl) ?_
      refine l_val rfl (o_fld rfl) ?_
      refine l_val rfl (o_load1 (key := 20) rfl rfl rfl) ?_
      refine l_val rfl (o_fld rfl) ?_
      refine l_val rfl (o_load1 (key := 20) rfl rfl rfl) ?_
      refine l_val rfl (o_addi rfl rfl ?_) ?_
      · omega
      refine l_split rfl (o_lss rfl rfl) (fun q4 => ?_) (fun q4 => ?_)
      · skip
        refine l_val rfl (o_pickT rfl rfl) ?_
        refine l_nil ?_
        refine kt_norm ?_
        refine v_sel [25, 19, 20, 21, 23, 85, 86, 87, 88, 89, 90, 91, 92] [19, 20, 21, 23, 60, 66] rfl rfl ?_
        refine v_condT rfl ?_
        refine v_skip ?_
        refine kt_norm ?_
        refine v_seq ?_
        refine v_block ?_
        refine v_seq ?_
        refine v_region ?_
        refine l_val rfl (o_fld rfl) ?_
        refine l_val rfl (o_load1 (key := 20) rfl rfl rfl) ?_
        refine l_val rfl (o_assign rfl) ?_
        refine l_nil ?_
        refine kt_norm ?_
        refine v_block ?_
        refine v_loopS (α := Int) (fun y => [(26, .int .i64 y)]) (fun y => [])  (fun y => (Y + dy % 8) ≤ y ∧ y ≤ 100000) (fun y => (Y + h - y).toNat) (Y + dy % 8) [25, 19, 20, 21, 23, 85, 86, 87, 88, 89, 90, 91] [19, 20, 21, 23, 60, 66] ⟨Int.le_refl _, by omega⟩  (And.intro rfl (True.intro)) rfl (True.intro) rfl ?_
        rintro y ⟨hy1, hy2⟩
        refine v_seq ?_
        refine v_seq ?_
        refine v_region ?_
        refine l_val rfl (o_move rfl) ?_
        refine l_val rfl (o_fld rfl) ?_
        refine l_val rfl (o_load1 (key := 19) rfl rfl rfl) ?_
        refine l_val rfl (o_fld rfl) ?_
        refine l_val rfl (o_load1 (key := 19) rfl rfl rfl) ?_
        refine l_val rfl (o_addi rfl rfl ?_) ?_
        · omega
        refine l_split rfl (o_lss rfl rfl) (fun q5 => ?_) (fun q5 => ?_)
        · skip
          refine l_val rfl (o_move rfl) ?_
          refine l_val rfl (o_move rfl) ?_
          refine l_val rfl (o_fld rfl) ?_
          refine l_val rfl (o_load1 (key := 20) rfl rfl rfl) ?_
          refine l_val rfl (o_fld rfl) ?_
          refine l_val rfl (o_load1 (key := 20) rfl rfl rfl) ?_
          refine l_val rfl (o_addi rfl rfl ?_) ?_
          · omega
          refine l_split rfl (o_lss rfl rfl) (fun q6 => ?_) (fun q6 => ?_)
          · skip
            refine l_val rfl (o_pickT rfl rfl) ?_
            refine l_nil ?_
            refine kt_norm ?_
            refine v_sel [26, 25, 19, 20, 21, 23, 85, 86, 87, 88, 89, 90, 91, 105, 106, 107, 108, 109, 110, 111, 112] [19, 20, 21, 23, 60, 66] rfl rfl ?_
            refine v_condT rfl ?_
            refine v_skip ?_
            refine kt_norm ?_
            refine v_seq ?_
            refine v_block ?_
            refine v_seq ?_
            refine v_drawW [] [[21], [], [], [19], [], [], [], [19], [], [60], [23], [], [], [20], [], [], [], [20], [], [66], []] mixed ?_ (by kernel_rfl) (by kernel_rfl)
            refine d_val (fun _ => rfl) rfl rfl (fun σ17 => o_loadW (key := 21) rfl rfl rfl) ?_
            refine d_val (fun _ => rfl) rfl rfl (fun σ17 => o_move rfl) ?_
            refine d_val (fun _ => rfl) rfl rfl (fun σ17 => o_fld rfl) ?_
            refine d_val (fun _ => rfl) rfl rfl (fun σ17 => o_load1 (key := 19) rfl rfl rfl) ?_
            refine d_val (fun _ => rfl) rfl rfl (fun σ17 => o_subi rfl rfl ?_) ?_
            · omega
            refine d_val (fun _ => rfl) rfl rfl (fun σ17 => o_move rfl) ?_
            refine d_val (fun _ => rfl) rfl rfl (fun σ17 => o_fld rfl) ?_
            refine d_val (fun _ => rfl) rfl rfl (fun σ17 => o_load1 (key := 19) rfl rfl rfl) ?_
            refine d_val (fun _ => rfl) rfl rfl (fun σ17 => o_subi rfl rfl ?_) ?_
            · omega
            refine d_gcall (y := .int .u8 (atT n h (pixT (tabT X Y (n : Int) (h : Int) ps) X Y n h) (x - X) (y - Y))) (caps := #[]) (fun _ => rfl) (fun _ => rfl) (ent_of Try.func27 rfl rfl) (vs := fun _ => [_, _, _]) (fun _ => rfl) (fun σ17 w' hg hh => a_AtC w' (.slice apa (pixT (tabT X Y (n : Int) (h : Int) ps) X Y n h).length cpa) n h (pixT (tabT X Y (n : Int) (h : Int) ps) X Y n h) (x - X) (y - Y) (nh_le (by omega) (by omega)) pix_len2 hpa (rowAt_own (hh 60 (by simp) _ rfl))) ?_
            refine d_val (fun _ => rfl) rfl rfl (fun σ17 => o_loadW (key := 23) rfl rfl rfl) ?_
            refine d_val (fun _ => rfl) rfl rfl (fun σ17 => o_move rfl) ?_
            refine d_val (fun _ => rfl) rfl rfl (fun σ17 => o_fld rfl) ?_
            refine d_val (fun _ => rfl) rfl rfl (fun σ17 => o_load1 (key := 20) rfl rfl rfl) ?_
            refine d_val (fun _ => rfl) rfl rfl (fun σ17 => o_subi rfl rfl ?_) ?_
            · omega
            refine d_val (fun _ => rfl) rfl rfl (fun σ17 => o_move rfl) ?_
            refine d_val (fun _ => rfl) rfl rfl (fun σ17 => o_fld rfl) ?_
            refine d_val (fun _ => rfl) rfl rfl (fun σ17 => o_load1 (key := 20) rfl rfl rfl) ?_
            refine d_val (fun _ => rfl) rfl rfl (fun σ17 => o_subi rfl rfl ?_) ?_
            · omega
            refine d_gcall (y := .int .u8 (atT m k (pixT (tabT (X + dx % 12) (Y + dy % 8) (m : Int) (k : Int) ps) (X + dx % 12) (Y + dy % 8) m k) (x - (X + dx % 12)) (y - (Y + dy % 8)))) (caps := #[]) (fun _ => rfl) (fun _ => rfl) (ent_of Try.func27 rfl rfl) (vs := fun _ => [_, _, _]) (fun _ => rfl) (fun σ17 w' hg hh => a_AtC w' (.slice apb (pixT (tabT (X + dx % 12) (Y + dy % 8) (m : Int) (k : Int) ps) (X + dx % 12) (Y + dy % 8) m k).length cpb) m k (pixT (tabT (X + dx % 12) (Y + dy % 8) (m : Int) (k : Int) ps) (X + dx % 12) (Y + dy % 8) m k) (x - (X + dx % 12)) (y - (Y + dy % 8)) (nh_le (by omega) (by omega)) pix_len2 hpb (rowAt_own (hh 66 (by simp) _ rfl))) ?_
            have e1 := atT_img (ps := ps) hvA (x := x) (y := y) (by omega) (by omega)
            have e2 := atT_img (ps := ps) hvB (x := x) (y := y) (by omega) (by omega)
            refine d_neq (fun _ => rfl) (fun _ => rfl) (fun _ => rfl) (fun q7 => absurd q7 (by omega)) (fun q7 => ?_)
            refine d_nil (fun σ17 => ?_)
            refine l_nil ?_
            refine kt_norm ?_
            refine v_sel [26, 25, 19, 20, 21, 23, 85, 86, 87, 88, 89, 90, 91, 105, 106, 107, 108, 109, 110, 111, 135] [19, 20, 21, 23, 60, 66] rfl rfl ?_
            refine v_condF rfl ?_
            refine v_skip ?_
            refine kb_norm ?_
            refine kt_norm ?_
            refine v_region ?_
            refine l_val rfl (o_move rfl) ?_
            refine l_val rfl (o_addi rfl rfl ?_) ?_
            · omega
            refine l_val rfl (o_assign rfl) ?_
            refine l_nil ?_
            refine kt_norm ?_
            refine ⟨y + 1, ⟨by omega, by omega⟩, (by show (Y + h - (y + 1)).toNat < (Y + h - y).toNat; omega), le_app (And.intro rfl (True.intro)) [25, 19, 20, 21, 23, 85, 86, 87, 88, 89, 90, 91] rfl (True.intro) [19, 20, 21, 23, 60, 66] rfl⟩
          · skip
            refine l_val rfl (o_pickT rfl rfl) ?_
            refine l_nil ?_
            refine kt_norm ?_
            refine v_sel [26, 25, 19, 20, 21, 23, 85, 86, 87, 88, 89, 90, 91, 105, 106, 107, 108, 109, 110, 111, 112] [19, 20, 21, 23, 60, 66] rfl rfl ?_
            refine v_condF rfl ?_
            refine v_exit ?_
            refine kt_exit ?_
            refine kt_exit ?_
            refine kb_eq ?_
            refine kb_norm ?_
            refine kt_norm ?_
            refine v_region ?_
            refine l_val rfl (o_move rfl) ?_
            refine l_val rfl (o_addi rfl rfl ?_) ?_
            · omega
            refine l_val rfl (o_assign rfl) ?_
            refine l_nil ?_
            refine kt_norm ?_
            refine ⟨x + 1, ⟨by omega, by omega⟩, (by show (X + n - (x + 1)).toNat < (X + n - x).toNat; omega), le_app (And.intro rfl (True.intro)) [19, 20, 21, 23] rfl (True.intro) [19, 20, 21, 23, 60, 66] rfl⟩
        · skip
          refine l_val rfl (o_move rfl) ?_
          refine l_no rfl ?_
          refine l_no rfl ?_
          refine l_no rfl ?_
          refine l_no rfl ?_
          refine l_no rfl ?_
          refine l_no rfl ?_
          refine l_no rfl ?_
          refine l_val rfl (o_pickF rfl rfl) ?_
          refine l_nil ?_
          refine kt_norm ?_
          refine v_sel [26, 25, 19, 20, 21, 23, 85, 86, 87, 88, 89, 90, 91, 105, 106, 107, 108, 109, 110, 111, 112] [19, 20, 21, 23, 60, 66] rfl rfl ?_
          refine v_condF rfl ?_
          refine v_exit ?_
          refine kt_exit ?_
          refine kt_exit ?_
          refine kb_eq ?_
          refine kb_norm ?_
          refine kt_norm ?_
          refine v_region ?_
          refine l_val rfl (o_move rfl) ?_
          refine l_val rfl (o_addi rfl rfl ?_) ?_
          · omega
          refine l_val rfl (o_assign rfl) ?_
          refine l_nil ?_
          refine kt_norm ?_
          refine ⟨x + 1, ⟨by omega, by omega⟩, (by show (X + n - (x + 1)).toNat < (X + n - x).toNat; omega), le_app (And.intro rfl (True.intro)) [19, 20, 21, 23] rfl (True.intro) [19, 20, 21, 23, 60, 66] rfl⟩
      · skip
        refine l_val rfl (o_pickT rfl rfl) ?_
        refine l_nil ?_
        refine kt_norm ?_
        refine v_sel [25, 19, 20, 21, 23, 85, 86, 87, 88, 89, 90, 91, 92] [19, 20, 21, 23, 60, 66] rfl rfl ?_
        refine v_condF rfl ?_
        refine v_exit ?_
        refine kt_exit ?_
        refine kt_exit ?_
        refine kb_eq ?_
        refine kt_norm ?_
        refine v_sel [] [21, 23, 60, 66] rfl rfl ?_
        refine v_seq ?_
        refine v_region ?_
        refine l_val rfl (o_assign rfl) ?_
        refine l_nil ?_
        refine kt_norm ?_
        refine v_ret ?_
        refine ⟨[_], .cons (.tmp rfl) (ResAll.nil), ?_⟩
        rfl
    · skip
      refine l_val rfl (o_move rfl) ?_
      refine l_no rfl ?_
      refine l_no rfl ?_
      refine l_no rfl ?_
      refine l_no rfl ?_
      refine l_no rfl ?_
      refine l_no rfl ?_
      refine l_no rfl ?_
      refine l_val rfl (o_pickF rfl rfl) ?_
      refine l_nil ?_
      refine kt_norm ?_
      refine v_sel [25, 19, 20, 21, 23, 85, 86, 87, 88, 89, 90, 91, 92] [19, 20, 21, 23, 60, 66] rfl rfl ?_
      refine v_condF rfl ?_
      refine v_exit ?_
      refine kt_exit ?_
      refine kt_exit ?_
      refine kb_eq ?_
      refine kt_norm ?_
      refine v_sel [] [21, 23, 60, 66] rfl rfl ?_
      refine v_seq ?_
      refine v_region ?_
      refine l_val rfl (o_assign rfl) ?_
      refine l_nil ?_
      refine kt_norm ?_
      refine v_ret ?_
      refine ⟨[_], .cons (.tmp rfl) (ResAll.nil), ?_⟩
      rfl
  · skip
    refine l_val rfl (o_not rfl rfl) ?_
    refine l_val rfl (o_move rfl) ?_
    refine l_no rfl ?_
    refine l_no rfl ?_
    refine l_val rfl (o_pickT rfl rfl) ?_
    refine l_nil ?_
    refine kt_norm ?_
    refine v_sel [0, 1, 2, 3, 4, 5, 6, 7, 8, 33] [] rfl rfl ?_
    refine v_condT rfl ?_
    refine v_seq ?_
    refine v_region ?_
    refine l_ans (vs := []) rfl rfl (a_shown21) ?_
    refine l_val rfl (o_assign rfl) ?_
    refine l_nil ?_
    refine kt_norm ?_
    refine v_sel [18] [] rfl rfl ?_
    refine v_ret ?_
    refine kt_ret ?_
    refine ⟨[_], .cons (.tmp rfl) (ResAll.nil), ?_⟩
    rfl
end Go.Proofs.Ytaijclimdfchfaa
