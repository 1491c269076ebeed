import Derived.Test.YtaijclimdfchfaaF15
/- A pixel that a piece covers whole has all; one that it does not touch has none. Conditions: none. -/
namespace Go.Proofs.Ytaijclimdfchfaa
open Go.Proofs Go.RowKit Go.Shelf

theorem box_in {p q : PtT} {c y : Int} (h1 : p.x ≤ 256 * c) (h2 : 256 * c + 256 ≤ q.x) (h3 : p.y ≤ 256 * y) (h4 : 256 * y + 256 ≤ q.y) : covA [boxP p q] c y = 4096 := by
  rw [cov_box, bxN_all (Nat.le_refl _) (by omega)]
  have : bxW p q (256 * c) = 256 := by unfold bxW; omega
  rw [this]; rfl
theorem box_outx {p q : PtT} {c y : Int} (h1 : 256 * c + 256 ≤ p.x) (h2 : p.x ≤ q.x) : covA [boxP p q] c y = 0 := by
  have : bxW p q (256 * c) = 0 := by unfold bxW; omega
  rw [cov_box, this, Int.mul_zero]
theorem box_outy {p q : PtT} {c y : Int} (h1 : 256 * y + 256 ≤ p.y) (h2 : p.y ≤ q.y) : covA [boxP p q] c y = 0 := by
  rw [cov_box, bxN_none (Nat.le_refl _) (by omega), Int.zero_mul]
set_option maxHeartbeats 2000000 in
theorem a_CoverWhole (w : World) (X Y W H bx by_ : Int) (hX : -32768 ≤ X ∧ X < 32768) (hY : -32768 ≤ Y ∧ Y < 32768) (hW : 0 ≤ W ∧ W < 256) (hH : 0 ≤ H ∧ H < 256) (hbx : 0 ≤ bx ∧ bx < 256) (hby : 0 ≤ by_ ∧ by_ < 256) :
    Calls Try.prog 7 #[.int .i16 X, .int .i16 Y, .int .u8 W, .int .u8 H, .int .u8 bx, .int .u8 by_] w fun e w' => e = .returned (.bool true) ∧ Below w.heap.size w w' := by
  obtain ⟨n, hnA⟩ : ∃ k : Nat, (k : Int) = 1 + W % 12 := ⟨(1 + W % 12).toNat, by omega⟩
  obtain ⟨h, hhA⟩ : ∃ k : Nat, (k : Int) = 1 + H % 8 := ⟨(1 + H % 8).toNat, by omega⟩
  have hVA : Ans Try.prog 25 [.int .i16 X, .int .i16 Y, .int .u8 W, .int .u8 H] (.agg #[.int .i64 X, .int .i64 Y, .int .i64 (n : Int), .int .i64 (h : Int)]) := by rw [hnA, hhA]; exact a_view21 _ _ _ _ (by omega) (by omega) (by omega) (by omega)
  have hvA : ViewOk X Y (n : Int) (h : Int) := (viewOk_def _ _ _ _).2 (by omega)
  have m1 := Int.emod_nonneg bx (show (n : Int) + 1 ≠ 0 by omega)
  have m2 := Int.emod_lt_of_pos bx (show 0 < (n : Int) + 1 by omega)
  have m3 := Int.emod_nonneg by_ (show (h : Int) + 1 ≠ 0 by omega)
  have m4 := Int.emod_lt_of_pos by_ (show 0 < (h : Int) + 1 by omega)
  obtain ⟨P_, hP⟩ : ∃ P_ : PtT, P_ = (⟨256 * (X + bx % ((n : Int) + 1)), 256 * (Y + by_ % ((h : Int) + 1))⟩ : PtT) := ⟨_, rfl⟩
  obtain ⟨Q_, hQ⟩ : ∃ Q_ : PtT, Q_ = (⟨256 * (X + n + 3), 256 * (Y + h + 3)⟩ : PtT) := ⟨_, rfl⟩
  have hPx : P_.x = 256 * (X + bx % ((n : Int) + 1)) := by rw [hP]
  have hPy : P_.y = 256 * (Y + by_ % ((h : Int) + 1)) := by rw [hP]
  have hQx : Q_.x = 256 * (X + n + 3) := by rw [hQ]
  have hQy : Q_.y = 256 * (Y + h + 3) := by rw [hQ]
  have hnP : NearT P_ := by unfold NearT; omega
  have hnQ : NearT Q_ := by unfold NearT; omega
  refine calls_of (args := [.int .i16 X, .int .i16 Y, .int .u8 W, .int .u8 H, .int .u8 bx, .int .u8 by_]) Try.func7 rfl Try.ntmps7 Try.results7 rfl ?_
  refine v_seq ?_
  refine v_region ?_
  refine l_val rfl (o_assign rfl) ?_
  refine l_nil ?_
  refine kt_norm ?_
  refine v_seq ?_
  refine v_region ?_
  refine l_val rfl (o_move rfl) ?_
  refine l_val rfl (o_move rfl) ?_
  refine l_val rfl (o_move rfl) ?_
  refine l_val rfl (o_move rfl) ?_
  refine l_ans (vs := [_, _, _, _]) rfl rfl (hVA) ?_
  refine l_new rfl o_alloc fun b13 => ?_
  refine l_store rfl (o_storeW (key := 13) (xs := [_, _, _, _]) rfl rfl rfl rfl rfl rfl rfl) ?_
  refine l_nil ?_
  refine kt_norm ?_
  refine v_sel [4, 5, 13] [13] rfl rfl ?_
  refine v_seq ?_
  refine v_drawZ [[], [13], [], [], [], [13], [], [], [], [], [], [13], [], [], [], [13], [], [], [], [], [], [], [14]] mixed ?_ (by kernel_rfl) (by kernel_rfl)
  refine d_val (fun _ => rfl) rfl rfl (fun _ => o_fld rfl) ?_
  refine d_val (fun _ => rfl) rfl rfl (fun _ => o_load1 (key := 13) rfl rfl rfl) ?_
  refine d_val (fun _ => rfl) rfl rfl (fun _ => o_move rfl) ?_
  refine d_val (fun _ => rfl) rfl rfl (fun _ => o_convi rfl ?_) ?_
  · omega
  refine d_val (fun _ => rfl) rfl rfl (fun _ => o_fld rfl) ?_
  refine d_val (fun _ => rfl) rfl rfl (fun _ => o_load1 (key := 13) rfl rfl rfl) ?_
  refine d_val (fun _ => rfl) rfl rfl (fun _ => o_addi rfl rfl ?_) ?_
  · omega
  refine d_val (fun _ => rfl) rfl rfl (fun _ => o_remn rfl rfl ?_) ?_
  · omega
  refine d_val (fun _ => rfl) rfl rfl (fun _ => o_addi rfl rfl ?_) ?_
  · omega
  refine d_val (fun _ => rfl) rfl rfl (fun _ => o_muli rfl rfl ?_) ?_
  · omega
  refine d_val (fun _ => rfl) rfl rfl (fun _ => o_fld rfl) ?_
  refine d_val (fun _ => rfl) rfl rfl (fun _ => o_load1 (key := 13) rfl rfl rfl) ?_
  refine d_val (fun _ => rfl) rfl rfl (fun _ => o_move rfl) ?_
  refine d_val (fun _ => rfl) rfl rfl (fun _ => o_convi rfl ?_) ?_
  · omega
  refine d_val (fun _ => rfl) rfl rfl (fun _ => o_fld rfl) ?_
  refine d_val (fun _ => rfl) rfl rfl (fun _ => o_load1 (key := 13) rfl rfl rfl) ?_
  refine d_val (fun _ => rfl) rfl rfl (fun _ => o_addi rfl rfl ?_) ?_
  · omega
  refine d_val (fun _ => rfl) rfl rfl (fun _ => o_remn rfl rfl ?_) ?_
  · omega
  refine d_val (fun _ => rfl) rfl rfl (fun _ => o_addi rfl rfl ?_) ?_
  · omega
  refine d_val (fun _ => rfl) rfl rfl (fun _ => o_muli rfl rfl ?_) ?_
  · omega
  refine d_val (fun _ => rfl) rfl rfl (fun _ => o_build (vs := [_, _]) (cs := [_, _]) rfl rfl) ?_
  refine d_new (fun _ => rfl) rfl rfl (fun _ => o_alloc) ?_
  refine d_store (fun _ => rfl) rfl rfl (fun _ => o_storeW (key := 14) (xs := [_, _]) rfl rfl rfl rfl rfl rfl rfl) ?_
  refine d_nil (fun σ => ?_)
  refine l_nil ?_
  refine kt_norm ?_
  refine v_sel [13, 14] [13, 14] rfl rfl ?_
  refine v_seq ?_
  refine v_region ?_
  refine l_val rfl (o_fld rfl) ?_
  refine l_val rfl (o_load1 (key := 13) rfl rfl rfl) ?_
  refine l_val rfl (o_fld rfl) ?_
  refine l_val rfl (o_load1 (key := 13) rfl rfl rfl) ?_
  refine l_val rfl (o_addi rfl rfl ?_) ?_
  · omega
  refine l_val rfl (o_addi rfl rfl ?_) ?_
  · omega
  refine l_val rfl (o_muli rfl rfl ?_) ?_
  · omega
  refine l_val rfl (o_fld rfl) ?_
  refine l_val rfl (o_load1 (key := 13) rfl rfl rfl) ?_
  refine l_val rfl (o_fld rfl) ?_
  refine l_val rfl (o_load1 (key := 13) rfl rfl rfl) ?_
  refine l_val rfl (o_addi rfl rfl ?_) ?_
  · omega
  refine l_val rfl (o_addi rfl rfl ?_) ?_
  · omega
  refine l_val rfl (o_muli rfl rfl ?_) ?_
  · omega
  refine l_val rfl (o_build (vs := [_, _]) (cs := [_, _]) rfl rfl) ?_
  refine l_new rfl o_alloc fun b15 => ?_
  refine l_store rfl (o_storeW (key := 15) (xs := [_, _]) rfl rfl rfl rfl rfl rfl rfl) ?_
  refine l_nil ?_
  refine kt_norm ?_
  refine v_sel [13, 14, 15] [13, 14, 15] rfl rfl ?_
  refine v_seq ?_
  refine v_region ?_
  refine l_val rfl (o_loadW (key := 14) rfl rfl rfl) ?_
  refine l_val rfl (o_fld rfl) ?_
  refine l_val rfl (o_load1 (key := 15) rfl rfl rfl) ?_
  refine l_val rfl (o_fld rfl) ?_
  refine l_val rfl (o_load1 (key := 14) rfl rfl rfl) ?_
  refine l_val rfl (o_build (vs := [_, _]) (cs := [_, _]) rfl rfl) ?_
  refine l_val rfl (o_loadW (key := 15) rfl rfl rfl) ?_
  refine l_val rfl (o_fld rfl) ?_
  refine l_val rfl (o_load1 (key := 14) rfl rfl rfl) ?_
  refine l_val rfl (o_fld rfl) ?_
  refine l_val rfl (o_load1 (key := 15) rfl rfl rfl) ?_
  refine l_val rfl (o_build (vs := [_, _]) (cs := [_, _]) rfl rfl) ?_
  refine l_buildSlice (vs := [_, _, _, _]) (cs := [_, _, _, _, _, _, _, _]) rfl rfl rfl rfl rfl rfl fun v75 hv75 => ?_
  obtain ⟨a75, c75, rfl⟩ := hv75.sl
  refine l_buildSlice (vs := [_]) (cs := [_]) rfl rfl rfl rfl rfl rfl fun v76 hv76 => ?_
  refine l_val rfl (o_loadW (key := 13) rfl rfl rfl) ?_
  refine l_gownF (fun y => .tuple #[.agg #[.int .i64 (n : Int), .int .i64 (h : Int), y], .int .i64 0]) (ks := [76, 75]) (caps := #[]) (vs := [_, _]) rfl rfl (ent_of Try.func26 rfl rfl) rfl (fun w' hg hh => a_CovB w' v76 _ P_ Q_ X Y n h hnP hnQ hvA hv76 hv75 (rowAt_own (hh 76 (by simp) _ rfl)) (by have h1 := (rowAt_own (hh 75 (by simp) _ rfl)); rw [← hPx, ← hPy, ← hQx, ← hQy] at h1; exact h1)) fun pa hpa => ?_
  obtain ⟨apa, cpa, rfl⟩ := hpa.sl
  refine l_val rfl (o_move rfl) ?_
  refine l_val rfl (o_extract rfl rfl) ?_
  refine l_val rfl (o_extract rfl rfl) ?_
  refine l_new rfl o_alloc fun b16 => ?_
  refine l_store rfl (o_storeW (key := 16) (xs := [_, _, _]) rfl rfl rfl rfl rfl rfl rfl) ?_
  refine l_val rfl (o_assign rfl) ?_
  refine l_nil ?_
  refine kt_norm ?_
  refine v_sel [13, 14, 16, 17] [13, 14, 16, 75, 76, 78] rfl rfl ?_
  refine v_seq ?_
  refine v_seq ?_
  refine v_region ?_
  have hpv0 := hpa
  have hpl : ((pixT (tabT X Y (n : Int) (h : Int) [boxP P_ Q_]) X Y n h)).length = n * h := pix_len2
  have hpc : ((((pixT (tabT X Y (n : Int) (h : Int) [boxP P_ Q_]) X Y n h)).length : Nat) : Int) = (n : Int) * h := by rw [hpl, Int.natCast_mul]
  have hnh : (n : Int) * h ≤ 256 * 256 := Int.mul_le_mul (by omega) (by omega) (by omega) (by omega)
  have hnh0 : 0 ≤ (n : Int) * h := Int.mul_nonneg (by omega) (by omega)
  refine l_val rfl (o_move rfl) ?_
  refine l_split rfl (o_neq rfl rfl) (fun q1 => absurd q1 (by omega)) (fun q1 => ?_)
  refine l_val rfl (o_move rfl) ?_
  refine l_val rfl (o_fld rfl) ?_
  refine l_val rfl (o_load1 (key := 16) rfl rfl rfl) ?_
  refine l_val rfl (o_len rfl hpv0) ?_
  refine l_val rfl (o_fld rfl) ?_
  refine l_val rfl (o_load1 (key := 13) rfl rfl rfl) ?_
  refine l_val rfl (o_fld rfl) ?_
  refine l_val rfl (o_load1 (key := 13) rfl rfl rfl) ?_
  refine l_val rfl (o_muli rfl rfl ?_) ?_
  · omega
  refine l_split rfl (o_neq rfl rfl) (fun q2 => absurd q2 (by omega)) (fun q2 => ?_)
  refine l_val rfl (o_pickF rfl rfl) ?_
  refine l_val rfl (o_move rfl) ?_
  refine l_ans (vs := []) rfl rfl (a_shown21) ?_
  refine l_val rfl (o_not rfl rfl) ?_
  refine l_val rfl (o_pickF rfl rfl) ?_
  refine l_nil ?_
  refine kt_norm ?_
  refine v_sel [13, 14, 16, 97] [13, 14, 16, 75, 76, 78] rfl rfl ?_
  refine v_condF rfl ?_
  refine v_skip ?_
  refine kt_norm ?_
  refine v_seq ?_
  refine v_seq ?_
  refine v_region ?_
  refine l_val rfl (o_assign rfl) ?_
  refine l_nil ?_
  refine kt_norm ?_
  refine v_block ?_
  refine v_loopS (α := Nat) (fun i => [(18, .int .i64 (i : Int))]) (fun i => [])  (fun i => i ≤ n) (fun i => n - i) 0 [13, 14, 16] [13, 14, 16, 75, 76, 78] (Nat.zero_le _)  (And.intro rfl (True.intro)) rfl (True.intro) rfl ?_
  rintro i hi
  refine v_seq ?_
  refine v_seq ?_
  refine v_region ?_
  refine l_val rfl (o_move rfl) ?_
  refine l_val rfl (o_fld rfl) ?_
  refine l_val rfl (o_load1 (key := 13) rfl rfl rfl) ?_
  refine l_split rfl (o_lss rfl rfl) (fun q3 => ?_) (fun q3 => ?_)
  · have hil : i < n := by omega
    refine l_nil ?_
    refine kt_norm ?_
    refine v_condT rfl ?_
    refine v_skip ?_
    refine kt_norm ?_
    refine v_seq ?_
    refine v_block ?_
    refine v_seq ?_
    refine v_region ?_
    refine l_val rfl (o_assign rfl) ?_
    refine l_nil ?_
    refine kt_norm ?_
    refine v_block ?_
    refine v_loopS (α := Nat) (fun j => [(19, .int .i64 (j : Int))]) (fun j => [])  (fun j => j ≤ h) (fun j => h - j) 0 [18, 13, 14, 16] [13, 14, 16, 75, 76, 78] (Nat.zero_le _)  (And.intro rfl (True.intro)) rfl (True.intro) rfl ?_
    rintro j hj
    refine v_seq ?_
    refine v_seq ?_
    refine v_region ?_
    refine l_val rfl (o_move rfl) ?_
    refine l_val rfl (o_fld rfl) ?_
    refine l_val rfl (o_load1 (key := 13) rfl rfl rfl) ?_
    refine l_split rfl (o_lss rfl rfl) (fun q4 => ?_) (fun q4 => ?_)
    · have hjl : j < h := by omega
      have hat := atT_img' (ps := [boxP P_ Q_]) hvA hil hjl
      refine l_nil ?_
      refine kt_norm ?_
      refine v_condT rfl ?_
      refine v_skip ?_
      refine kt_norm ?_
      refine v_seq ?_
      refine v_block ?_
      refine v_seq ?_
      refine v_region ?_
      refine l_val rfl (o_fld rfl) ?_
      refine l_val rfl (o_load1 (key := 13) rfl rfl rfl) ?_
      refine l_val rfl (o_move rfl) ?_
      refine l_val rfl (o_addi rfl rfl ?_) ?_
      · omega
      refine l_val rfl (o_muli rfl rfl ?_) ?_
      · omega
      refine l_val rfl (o_fld rfl) ?_
      refine l_val rfl (o_load1 (key := 14) rfl rfl rfl) ?_
      refine l_split rfl (o_geq rfl rfl) (fun q5 => ?_) (fun q5 => ?_)
      · skip
        refine l_val rfl (o_move rfl) ?_
        refine l_val rfl (o_fld rfl) ?_
        refine l_val rfl (o_load1 (key := 13) rfl rfl rfl) ?_
        refine l_val rfl (o_move rfl) ?_
        refine l_val rfl (o_addi rfl rfl ?_) ?_
        · omega
        refine l_val rfl (o_muli rfl rfl ?_) ?_
        · omega
        refine l_val rfl (o_fld rfl) ?_
        refine l_val rfl (o_load1 (key := 14) rfl rfl rfl) ?_
        refine l_split rfl (o_geq rfl rfl) (fun q6 => ?_) (fun q6 => ?_)
        · skip
          refine l_val rfl (o_pickT rfl rfl) ?_
          refine l_val rfl (o_assign rfl) ?_
          refine l_nil ?_
          refine kt_norm ?_
          refine v_sel [19, 18, 13, 14, 16, 119, 120, 121, 122, 123, 124, 125, 126, 20] [13, 14, 16, 75, 76, 78] rfl rfl ?_
          refine v_seq ?_
          refine v_region ?_
          have hat2 : atT n h (pixT (tabT X Y (n : Int) (h : Int) [boxP P_ Q_]) X Y n h) (i : Int) (j : Int) = 255 := by rw [hat, box_in (by rw [hPx]; omega) (by rw [hQx]; omega) (by rw [hPy]; omega) (by rw [hQy]; omega)]; exact valT_full
          refine l_val rfl (o_move rfl) ?_
          refine l_val rfl (o_loadW (key := 16) rfl rfl rfl) ?_
          refine l_val rfl (o_move rfl) ?_
          refine l_val rfl (o_move rfl) ?_
          refine l_call (ks := [78]) rfl (o_callC (vs := [_, _, _]) (r := .int .u8 (atT n h (pixT (tabT X Y (n : Int) (h : Int) [boxP P_ Q_]) X Y n h) (i : Int) (j : Int))) (ent_of Try.func27 rfl rfl) rfl (fun w' hg hh => a_AtC w' (.slice apa (pixT (tabT X Y (n : Int) (h : Int) [boxP P_ Q_]) X Y n h).length cpa) n h (pixT (tabT X Y (n : Int) (h : Int) [boxP P_ Q_]) X Y n h) (i : Int) (j : Int) (nh_le (by omega) (by omega)) pix_len2 hpa (rowAt_own (hh 78 (by simp) _ rfl)))) ?_
          refine l_split rfl (o_eql rfl rfl) (fun q7 => ?_) (fun q7 => absurd (show _ by omega) q7)
          refine l_val rfl (o_neqb rfl rfl rfl) ?_
          refine l_val rfl (o_move rfl) ?_
          refine l_val rfl (o_move rfl) ?_
          refine l_val rfl (o_not rfl rfl) ?_
          refine l_val rfl (o_move rfl) ?_
          refine l_no rfl ?_
          refine l_no rfl ?_
          refine l_no rfl ?_
          refine l_no rfl ?_
          refine l_no rfl ?_
          refine l_val rfl (o_pickF rfl rfl) ?_
          refine l_val rfl (o_pickF rfl rfl) ?_
          refine l_nil ?_
          refine kt_norm ?_
          refine v_sel [19, 18, 13, 14, 16, 119, 120, 121, 122, 123, 124, 125, 126, 136, 137, 138, 139, 140, 141, 142, 143, 144, 145] [13, 14, 16, 75, 76, 78] rfl rfl ?_
          refine v_condF rfl ?_
          refine v_skip ?_
          refine kb_norm ?_
          refine kt_norm ?_
          refine v_region ?_
          refine l_val rfl (o_move rfl) ?_
          refine l_val rfl (o_addi rfl rfl ?_) ?_
          · omega
          refine l_val rfl (o_assign rfl) ?_
          refine l_nil ?_
          refine kt_norm ?_
          refine ⟨j + 1, by omega, by omega, le_app (And.intro rfl (True.intro)) [18, 13, 14, 16] rfl (True.intro) [13, 14, 16, 75, 76, 78] rfl⟩
        · skip
          refine l_val rfl (o_pickT rfl rfl) ?_
          refine l_val rfl (o_assign rfl) ?_
          refine l_nil ?_
          refine kt_norm ?_
          refine v_sel [19, 18, 13, 14, 16, 119, 120, 121, 122, 123, 124, 125, 126, 20] [13, 14, 16, 75, 76, 78] rfl rfl ?_
          refine v_seq ?_
          refine v_region ?_
          have hat2 : atT n h (pixT (tabT X Y (n : Int) (h : Int) [boxP P_ Q_]) X Y n h) (i : Int) (j : Int) = 0 := by rw [hat, box_outy (by rw [hPy]; omega) (by rw [hPy, hQy]; omega)]; exact valT_none
          refine l_val rfl (o_move rfl) ?_
          refine l_val rfl (o_loadW (key := 16) rfl rfl rfl) ?_
          refine l_val rfl (o_move rfl) ?_
          refine l_val rfl (o_move rfl) ?_
          refine l_call (ks := [78]) rfl (o_callC (vs := [_, _, _]) (r := .int .u8 (atT n h (pixT (tabT X Y (n : Int) (h : Int) [boxP P_ Q_]) X Y n h) (i : Int) (j : Int))) (ent_of Try.func27 rfl rfl) rfl (fun w' hg hh => a_AtC w' (.slice apa (pixT (tabT X Y (n : Int) (h : Int) [boxP P_ Q_]) X Y n h).length cpa) n h (pixT (tabT X Y (n : Int) (h : Int) [boxP P_ Q_]) X Y n h) (i : Int) (j : Int) (nh_le (by omega) (by omega)) pix_len2 hpa (rowAt_own (hh 78 (by simp) _ rfl)))) ?_
          refine l_split rfl (o_eql rfl rfl) (fun q8 => absurd q8 (by omega)) (fun q8 => ?_)
          refine l_val rfl (o_neqb rfl rfl rfl) ?_
          refine l_val rfl (o_move rfl) ?_
          refine l_val rfl (o_move rfl) ?_
          refine l_val rfl (o_not rfl rfl) ?_
          refine l_val rfl (o_move rfl) ?_
          refine l_val rfl (o_loadW (key := 16) rfl rfl rfl) ?_
          refine l_val rfl (o_move rfl) ?_
          refine l_val rfl (o_move rfl) ?_
          refine l_call (ks := [78]) rfl (o_callC (vs := [_, _, _]) (r := .int .u8 (atT n h (pixT (tabT X Y (n : Int) (h : Int) [boxP P_ Q_]) X Y n h) (i : Int) (j : Int))) (ent_of Try.func27 rfl rfl) rfl (fun w' hg hh => a_AtC w' (.slice apa (pixT (tabT X Y (n : Int) (h : Int) [boxP P_ Q_]) X Y n h).length cpa) n h (pixT (tabT X Y (n : Int) (h : Int) [boxP P_ Q_]) X Y n h) (i : Int) (j : Int) (nh_le (by omega) (by omega)) pix_len2 hpa (rowAt_own (hh 78 (by simp) _ rfl)))) ?_
          refine l_split rfl (o_neq rfl rfl) (fun q9 => absurd q9 (by omega)) (fun q9 => ?_)
          refine l_val rfl (o_pickT rfl rfl) ?_
          refine l_val rfl (o_pickF rfl rfl) ?_
          refine l_nil ?_
          refine kt_norm ?_
          refine v_sel [19, 18, 13, 14, 16, 119, 120, 121, 122, 123, 124, 125, 126, 136, 137, 138, 139, 140, 141, 142, 143, 144, 145] [13, 14, 16, 75, 76, 78] rfl rfl ?_
          refine v_condF rfl ?_
          refine v_skip ?_
          refine kb_norm ?_
          refine kt_norm ?_
          refine v_region ?_
          refine l_val rfl (o_move rfl) ?_
          refine l_val rfl (o_addi rfl rfl ?_) ?_
          · omega
          refine l_val rfl (o_assign rfl) ?_
          refine l_nil ?_
          refine kt_norm ?_
          refine ⟨j + 1, by omega, by omega, le_app (And.intro rfl (True.intro)) [18, 13, 14, 16] rfl (True.intro) [13, 14, 16, 75, 76, 78] rfl⟩
      · skip
        refine l_val rfl (o_move rfl) ?_
        refine l_no rfl ?_
        refine l_no rfl ?_
        refine l_no rfl ?_
        refine l_no rfl ?_
        refine l_no rfl ?_
        refine l_no rfl ?_
        refine l_no rfl ?_
        refine l_no rfl ?_
        refine l_val rfl (o_pickF rfl rfl) ?_
        refine l_val rfl (o_assign rfl) ?_
        refine l_nil ?_
        refine kt_norm ?_
        refine v_sel [19, 18, 13, 14, 16, 119, 120, 121, 122, 123, 124, 125, 126, 20] [13, 14, 16, 75, 76, 78] rfl rfl ?_
        refine v_seq ?_
        refine v_region ?_
        have hat2 : atT n h (pixT (tabT X Y (n : Int) (h : Int) [boxP P_ Q_]) X Y n h) (i : Int) (j : Int) = 0 := by rw [hat, box_outx (by rw [hPx]; omega) (by rw [hPx, hQx]; omega)]; exact valT_none
        refine l_val rfl (o_move rfl) ?_
        refine l_val rfl (o_loadW (key := 16) rfl rfl rfl) ?_
        refine l_val rfl (o_move rfl) ?_
        refine l_val rfl (o_move rfl) ?_
        refine l_call (ks := [78]) rfl (o_callC (vs := [_, _, _]) (r := .int .u8 (atT n h (pixT (tabT X Y (n : Int) (h : Int) [boxP P_ Q_]) X Y n h) (i : Int) (j : Int))) (ent_of Try.func27 rfl rfl) rfl (fun w' hg hh => a_AtC w' (.slice apa (pixT (tabT X Y (n : Int) (h : Int) [boxP P_ Q_]) X Y n h).length cpa) n h (pixT (tabT X Y (n : Int) (h : Int) [boxP P_ Q_]) X Y n h) (i : Int) (j : Int) (nh_le (by omega) (by omega)) pix_len2 hpa (rowAt_own (hh 78 (by simp) _ rfl)))) ?_
        refine l_split rfl (o_eql rfl rfl) (fun q10 => absurd q10 (by omega)) (fun q10 => ?_)
        refine l_val rfl (o_neqb rfl rfl rfl) ?_
        refine l_val rfl (o_move rfl) ?_
        refine l_val rfl (o_move rfl) ?_
        refine l_val rfl (o_not rfl rfl) ?_
        refine l_val rfl (o_move rfl) ?_
        refine l_val rfl (o_loadW (key := 16) rfl rfl rfl) ?_
        refine l_val rfl (o_move rfl) ?_
        refine l_val rfl (o_move rfl) ?_
        refine l_call (ks := [78]) rfl (o_callC (vs := [_, _, _]) (r := .int .u8 (atT n h (pixT (tabT X Y (n : Int) (h : Int) [boxP P_ Q_]) X Y n h) (i : Int) (j : Int))) (ent_of Try.func27 rfl rfl) rfl (fun w' hg hh => a_AtC w' (.slice apa (pixT (tabT X Y (n : Int) (h : Int) [boxP P_ Q_]) X Y n h).length cpa) n h (pixT (tabT X Y (n : Int) (h : Int) [boxP P_ Q_]) X Y n h) (i : Int) (j : Int) (nh_le (by omega) (by omega)) pix_len2 hpa (rowAt_own (hh 78 (by simp) _ rfl)))) ?_
        refine l_split rfl (o_neq rfl rfl) (fun q11 => absurd q11 (by omega)) (fun q11 => ?_)
        refine l_val rfl (o_pickT rfl rfl) ?_
        refine l_val rfl (o_pickF rfl rfl) ?_
        refine l_nil ?_
        refine kt_norm ?_
        refine v_sel [19, 18, 13, 14, 16, 119, 120, 121, 122, 123, 124, 125, 126, 136, 137, 138, 139, 140, 141, 142, 143, 144, 145] [13, 14, 16, 75, 76, 78] rfl rfl ?_
        refine v_condF rfl ?_
        refine v_skip ?_
        refine kb_norm ?_
        refine kt_norm ?_
        refine v_region ?_
        refine l_val rfl (o_move rfl) ?_
        refine l_val rfl (o_addi rfl rfl ?_) ?_
        · omega
        refine l_val rfl (o_assign rfl) ?_
        refine l_nil ?_
        refine kt_norm ?_
        refine ⟨j + 1, by omega, by omega, le_app (And.intro rfl (True.intro)) [18, 13, 14, 16] rfl (True.intro) [13, 14, 16, 75, 76, 78] rfl⟩
    · skip
      refine l_nil ?_
      refine kt_norm ?_
      refine v_condF rfl ?_
      refine v_exit ?_
      refine kt_exit ?_
      refine kt_exit ?_
      refine kb_eq ?_
      refine kb_norm ?_
      refine kt_norm ?_
      refine v_region ?_
      refine l_val rfl (o_move rfl) ?_
      refine l_val rfl (o_addi rfl rfl ?_) ?_
      · omega
      refine l_val rfl (o_assign rfl) ?_
      refine l_nil ?_
      refine kt_norm ?_
      refine ⟨i + 1, by omega, by omega, le_app (And.intro rfl (True.intro)) [13, 14, 16] rfl (True.intro) [13, 14, 16, 75, 76, 78] rfl⟩
  · skip
    refine l_nil ?_
    refine kt_norm ?_
    refine v_condF rfl ?_
    refine v_exit ?_
    refine kt_exit ?_
    refine kt_exit ?_
    refine kb_eq ?_
    refine kt_norm ?_
    refine v_sel [] [16, 75, 76, 78] rfl rfl ?_
    refine v_seq ?_
    refine v_region ?_
    refine l_val rfl (o_assign rfl) ?_
    refine l_nil ?_
    refine kt_norm ?_
    refine v_ret ?_
    refine ⟨[_], .cons (.tmp rfl) (ResAll.nil), ?_⟩
    rfl
end Go.Proofs.Ytaijclimdfchfaa
