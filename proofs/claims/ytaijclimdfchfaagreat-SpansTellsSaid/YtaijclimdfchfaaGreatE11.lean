import Derived.Test.YtaijclimdfchfaaGreatE10
/- The numbers of 128 bits of the document, and where an edge crosses a row by it. Conditions: none. -/
namespace Go.Proofs.YtaijclimdfchfaaGreat
open Go.Proofs Go.RowKit Go.Shelf

theorem mulNN {x y A B : Int} (hx : 0 ≤ x ∧ x ≤ A) (hy : 0 ≤ y ∧ y ≤ B) : 0 ≤ x * y ∧ x * y ≤ A * B :=
  ⟨Int.mul_nonneg hx.1 hy.1, Int.mul_le_mul hx.2 hy.2 hy.1 (by omega)⟩
theorem mul_split (u v : Int) : u * v = u / 4294967296 * (v / 4294967296) * 18446744073709551616 + u / 4294967296 * (v % 4294967296) * 4294967296 + u % 4294967296 * (v / 4294967296) * 4294967296 + u % 4294967296 * (v % 4294967296) := by
  have h1 : u = u / 4294967296 * 4294967296 + u % 4294967296 := by omega
  have h2 : v = v / 4294967296 * 4294967296 + v % 4294967296 := by omega
  generalize u / 4294967296 = p at *
  generalize u % 4294967296 = q at *
  generalize v / 4294967296 = r at *
  generalize v % 4294967296 = s at *
  subst h1 h2
  simp only [Int.add_mul, Int.mul_add]
  rw [show p * 4294967296 * (r * 4294967296) = p * r * 18446744073709551616 by rw [Int.mul_assoc, Int.mul_left_comm 4294967296 r, ← Int.mul_assoc, show (4294967296 : Int) * 4294967296 = 18446744073709551616 from rfl],
    show p * 4294967296 * s = p * s * 4294967296 by rw [Int.mul_assoc, Int.mul_comm 4294967296 s, ← Int.mul_assoc], show q * (r * 4294967296) = q * r * 4294967296 by rw [← Int.mul_assoc]]
  omega
/-- a long division, under way: i digits of X are taken -/
structure DivQ (X b : Int) (i : Nat) (left hi lo q : Int) : Prop where
  hb : 0 < b ∧ b < 9223372036854775808
  hX : 0 ≤ X ∧ X ≤ 4611686018427387904
  le : i ≤ 128
  hl : 0 ≤ left ∧ left < b
  hh : 0 ≤ hi ∧ hi < 18446744073709551616
  hlo : 0 ≤ lo ∧ lo < 18446744073709551616
  hq : 0 ≤ q
  eq : X * 2 ^ i = (q * b + left) * 340282366920938463463374607431768211456 + hi * 18446744073709551616 + lo
theorem DivQ.qX {X b left hi lo q : Int} {i : Nat} (h : DivQ X b i left hi lo q) : 0 ≤ q * b ∧ q ≤ q * b ∧ q * b + left ≤ X := by
  have h1 := h.eq; have h2 := h.hl; have h3 := h.hh; have h4 := h.hlo; have h5 := h.hX; have hb := h.hb
  have h6 : q * 1 ≤ q * b := Int.mul_le_mul_of_nonneg_left (by omega) h.hq
  have h0 : 0 ≤ q * b := Int.mul_nonneg h.hq (by omega)
  have h7 : (2 : Int) ^ i ≤ 2 ^ 128 := by
    have : (2 : Nat) ^ i ≤ 2 ^ 128 := Nat.pow_le_pow_right (by omega) h.le
    exact_mod_cast this
  have h8 : X * 2 ^ i ≤ X * 2 ^ 128 := Int.mul_le_mul_of_nonneg_left h7 h5.1
  rw [show (2 : Int) ^ 128 = 340282366920938463463374607431768211456 from rfl] at h8
  refine ⟨h0, by omega, ?_⟩
  omega
theorem DivQ.start {X b : Int} (hb : 0 < b ∧ b < 9223372036854775808) (hX : 0 ≤ X ∧ X ≤ 4611686018427387904) : DivQ X b 0 0 (X / 18446744073709551616) (X % 18446744073709551616) 0 :=
  ⟨hb, hX, by omega, by omega, by omega, by omega, by omega, by rw [Int.pow_zero, Int.mul_one, Int.zero_mul]; omega⟩
theorem DivQ.big {X b left hi lo q : Int} {i : Nat} (h : DivQ X b i left hi lo q) (hi' : i < 128) (hc : b ≤ left * 2 + hi / 9223372036854775808) :
    DivQ X b (i + 1) (left * 2 + hi / 9223372036854775808 - b) (hi * 2 % 18446744073709551616 + lo / 9223372036854775808) (lo * 2 % 18446744073709551616) (q + q + 1) := by
  have h1 := h.eq; have h2 := h.hl; have h3 := h.hh; have h4 := h.hlo; have hb := h.hb; have hq := h.hq
  refine ⟨hb, h.hX, by omega, by omega, by omega, by omega, by omega, ?_⟩
  rw [Int.pow_succ, ← Int.mul_assoc, h1, show (q + q + 1) * b = q * b + q * b + b by rw [Int.add_mul, Int.add_mul, Int.one_mul]]
  omega
theorem DivQ.small {X b left hi lo q : Int} {i : Nat} (h : DivQ X b i left hi lo q) (hi' : i < 128) (hc : left * 2 + hi / 9223372036854775808 < b) :
    DivQ X b (i + 1) (left * 2 + hi / 9223372036854775808) (hi * 2 % 18446744073709551616 + lo / 9223372036854775808) (lo * 2 % 18446744073709551616) (q + q) := by
  have h1 := h.eq; have h2 := h.hl; have h3 := h.hh; have h4 := h.hlo; have hb := h.hb; have hq := h.hq
  refine ⟨hb, h.hX, by omega, by omega, by omega, by omega, by omega, ?_⟩
  rw [Int.pow_succ, ← Int.mul_assoc, h1, show (q + q) * b = q * b + q * b by rw [Int.add_mul]]
  omega
theorem DivQ.done {X b left hi lo q : Int} {i : Nat} (h : DivQ X b i left hi lo q) (hi' : ¬ (i : Int) < 128) : X = q * b + left := by
  have h1 := h.eq; have h2 := h.hl; have h3 := h.hh; have h4 := h.hlo; have := h.le
  obtain rfl : i = 128 := by omega
  rw [show (2 : Int) ^ 128 = 340282366920938463463374607431768211456 from rfl] at h1
  omega
theorem div_pos {x b q left : Int} (hb : 0 < b) (h : x = q * b + left) (hl : 0 ≤ left ∧ left < b) : x / b = q ∧ x % b = left :=
  (Int.ediv_emod_unique hb).2 ⟨by rw [Int.mul_comm]; omega, hl.1, hl.2⟩
theorem div_neg1 {x b q left : Int} (hb : 0 < b) (h : -x = q * b + left) (hl : 0 < left ∧ left < b) : x / b = -q - 1 ∧ x % b = b - left := by
  refine (Int.ediv_emod_unique hb).2 ⟨?_, by omega, by omega⟩
  rw [show b * (-q - 1) = -(q * b) - b by rw [Int.mul_sub, Int.mul_neg, Int.mul_comm, Int.mul_one]]
  omega
theorem div_neg0 {x b q left : Int} (hb : 0 < b) (h : -x = q * b + left) (hl : left = 0) : x / b = -q ∧ x % b = 0 := by
  refine (Int.ediv_emod_unique hb).2 ⟨?_, by omega, by omega⟩
  rw [show b * (-q) = -(q * b) by rw [Int.mul_neg, Int.mul_comm]]
  omega

theorem r_Of (y : Int) (hy : -9223372036854775808 ≤ y ∧ y < 9223372036854775808) : Ans Tryz.prog 102 [.int .i64 y] (wideV y) := by
  refine ans_of Tryz.func102 rfl Tryz.ntmps102 Tryz.results102 rfl rfl fun w => ?_
  refine v_seq ?_
  refine v_region ?_
  refine l_new rfl o_alloc fun b2 => ?_
  refine l_nil ?_
  refine kt_norm ?_
  refine v_seq ?_
  refine v_seq ?_
  refine v_region ?_
  refine l_val rfl (o_move rfl) ?_
  refine l_split rfl (o_lss rfl rfl) (fun q1 => ?_) (fun q1 => ?_)
  · first
    | (exfalso; omega; done)
    | (
        refine l_nil ?_
        refine kt_norm ?_
        refine v_condT rfl ?_
        refine v_seq ?_
        refine v_region ?_
        refine l_val rfl (o_move rfl) ?_
        refine l_val rfl (o_convu rfl) ?_
        refine l_val rfl (o_build (vs := [_, _]) (cs := [_, _]) rfl rfl) ?_
        refine l_store rfl (o_storeW (key := 2) (xs := [_, _]) rfl rfl rfl rfl rfl rfl rfl) ?_
        refine l_nil ?_
        refine kt_norm ?_
        refine v_sel [2] [2] rfl rfl ?_
        refine v_ret ?_
        refine kt_ret ?_
        refine ⟨[_], .cons (.cellW (key := 2) rfl rfl rfl) (ResAll.nil), ?_⟩
        exact (wideV_eq (by omega) (by omega) (by omega)).symm)
  · first
    | (exfalso; omega; done)
    | (
        refine l_nil ?_
        refine kt_norm ?_
        refine v_condF rfl ?_
        refine v_skip ?_
        refine kt_norm ?_
        refine v_seq ?_
        refine v_region ?_
        refine l_val rfl (o_move rfl) ?_
        refine l_val rfl (o_convu rfl) ?_
        refine l_val rfl (o_build (vs := [_, _]) (cs := [_, _]) rfl rfl) ?_
        refine l_store rfl (o_storeW (key := 2) (xs := [_, _]) rfl rfl rfl rfl rfl rfl rfl) ?_
        refine l_nil ?_
        refine kt_norm ?_
        refine v_sel [2] [2] rfl rfl ?_
        refine v_ret ?_
        refine ⟨[_], .cons (.cellW (key := 2) rfl rfl rfl) (ResAll.nil), ?_⟩
        exact (wideV_eq (by omega) (by omega) (by omega)).symm)
theorem r_Add (x y : Int) (hx : -170141183460469231731687303715884105728 ≤ x ∧ x < 170141183460469231731687303715884105728) (hy : -170141183460469231731687303715884105728 ≤ y ∧ y < 170141183460469231731687303715884105728) (hs : -170141183460469231731687303715884105728 ≤ x + y ∧ x + y < 170141183460469231731687303715884105728) : Ans Tryz.prog 101 [wideV x, wideV y] (wideV (x + y)) := by
  refine ans_of Tryz.func101 rfl Tryz.ntmps101 Tryz.results101 rfl rfl fun w => ?_
  refine v_seq ?_
  refine v_region ?_
  refine l_new rfl (o_box (cs := [_, _]) rfl rfl) fun b2 => ?_
  refine l_new rfl (o_box (cs := [_, _]) rfl rfl) fun b3 => ?_
  refine l_new rfl o_alloc fun b4 => ?_
  refine l_nil ?_
  refine kt_norm ?_
  refine v_seq ?_
  refine v_region ?_
  refine l_val rfl (o_fld rfl) ?_
  refine l_val rfl (o_load1 (key := 2) rfl rfl rfl) ?_
  refine l_val rfl (o_fld rfl) ?_
  refine l_val rfl (o_load1 (key := 3) rfl rfl rfl) ?_
  refine l_val rfl (o_addu rfl rfl) ?_
  refine l_val rfl (o_assign rfl) ?_
  refine l_nil ?_
  refine kt_norm ?_
  refine v_sel [2, 3, 4, 5] [2, 3, 4] rfl rfl ?_
  refine v_seq ?_
  refine v_region ?_
  refine l_val rfl (o_fld rfl) ?_
  refine l_val rfl (o_load1 (key := 2) rfl rfl rfl) ?_
  refine l_val rfl (o_convu rfl) ?_
  refine l_val rfl (o_fld rfl) ?_
  refine l_val rfl (o_load1 (key := 3) rfl rfl rfl) ?_
  refine l_val rfl (o_convu rfl) ?_
  refine l_val rfl (o_addu rfl rfl) ?_
  refine l_val rfl (o_assign rfl) ?_
  refine l_nil ?_
  refine kt_norm ?_
  refine v_sel [2, 4, 5, 6] [2, 4] rfl rfl ?_
  refine v_seq ?_
  refine v_seq ?_
  refine v_region ?_
  refine l_val rfl (o_move rfl) ?_
  refine l_val rfl (o_fld rfl) ?_
  refine l_val rfl (o_load1 (key := 2) rfl rfl rfl) ?_
  refine l_split rfl (o_lss rfl rfl) (fun q1 => ?_) (fun q1 => ?_)
  · first
    | (exfalso; omega; done)
    | (
        refine l_nil ?_
        refine kt_norm ?_
        refine v_condT rfl ?_
        refine v_region ?_
        refine l_val rfl (o_move rfl) ?_
        refine l_val rfl (o_addu rfl rfl) ?_
        refine l_val rfl (o_assign rfl) ?_
        refine l_nil ?_
        refine kt_norm ?_
        refine v_sel [4, 5, 6] [4] rfl rfl ?_
        refine v_seq ?_
        refine v_region ?_
        refine l_val rfl (o_move rfl) ?_
        refine l_val rfl (o_convm rfl) ?_
        refine l_val rfl (o_move rfl) ?_
        refine l_val rfl (o_build (vs := [_, _]) (cs := [_, _]) rfl rfl) ?_
        refine l_store rfl (o_storeW (key := 4) (xs := [_, _]) rfl rfl rfl rfl rfl rfl rfl) ?_
        refine l_nil ?_
        refine kt_norm ?_
        refine v_sel [4] [4] rfl rfl ?_
        refine v_ret ?_
        refine ⟨[_], .cons (.cellW (key := 4) rfl rfl rfl) (ResAll.nil), ?_⟩
        exact (wideV_eq (by omega) (by omega) (by omega)).symm)
  · first
    | (exfalso; omega; done)
    | (
        refine l_nil ?_
        refine kt_norm ?_
        refine v_condF rfl ?_
        refine v_skip ?_
        refine kt_norm ?_
        refine v_seq ?_
        refine v_region ?_
        refine l_val rfl (o_move rfl) ?_
        refine l_val rfl (o_convm rfl) ?_
        refine l_val rfl (o_move rfl) ?_
        refine l_val rfl (o_build (vs := [_, _]) (cs := [_, _]) rfl rfl) ?_
        refine l_store rfl (o_storeW (key := 4) (xs := [_, _]) rfl rfl rfl rfl rfl rfl rfl) ?_
        refine l_nil ?_
        refine kt_norm ?_
        refine v_sel [4] [4] rfl rfl ?_
        refine v_ret ?_
        refine ⟨[_], .cons (.cellW (key := 4) rfl rfl rfl) (ResAll.nil), ?_⟩
        exact (wideV_eq (by omega) (by omega) (by omega)).symm)
theorem r_AddE (h l h' l' z : Int) (hl : 0 ≤ l ∧ l < 18446744073709551616) (hm : 0 ≤ l' ∧ l' < 18446744073709551616) (hh : -9223372036854775808 ≤ h ∧ h < 9223372036854775808) (hk : -9223372036854775808 ≤ h' ∧ h' < 9223372036854775808) (hs : -170141183460469231731687303715884105728 ≤ z ∧ z < 170141183460469231731687303715884105728) (hz : h * 18446744073709551616 + l + (h' * 18446744073709551616 + l') = z) :
    Ans Tryz.prog 101 [.agg #[.int .i64 h, .int .u64 l], .agg #[.int .i64 h', .int .u64 l']] (wideV z) := by
  subst hz
  rw [← wideV_eq hl.1 hl.2 rfl, ← wideV_eq hm.1 hm.2 rfl]
  exact r_Add _ _ (by omega) (by omega) hs
theorem r_raised (n : Int) (hn : 0 ≤ n ∧ n < 18446744073709551616) : Ans Tryz.prog 104 [.int .u64 n] (wideV (n * 4294967296)) := by
  refine ans_of Tryz.func104 rfl Tryz.ntmps104 Tryz.results104 rfl rfl fun w => ?_
  refine v_seq ?_
  refine v_region ?_
  refine l_new rfl o_alloc fun b2 => ?_
  refine l_nil ?_
  refine kt_norm ?_
  refine v_seq ?_
  refine v_region ?_
  refine l_val rfl (o_move rfl) ?_
  refine l_val rfl (o_quon rfl rfl ?_ ?_) ?_
  · omega
  · exact wrap_u64 (by omega)
  refine l_val rfl (o_convi rfl ?_) ?_
  · omega
  refine l_val rfl (o_move rfl) ?_
  refine l_val rfl (o_remn rfl rfl ?_) ?_
  · omega
  refine l_val rfl (o_mulu rfl rfl) ?_
  refine l_val rfl (o_build (vs := [_, _]) (cs := [_, _]) rfl rfl) ?_
  refine l_store rfl (o_storeW (key := 2) (xs := [_, _]) rfl rfl rfl rfl rfl rfl rfl) ?_
  refine l_nil ?_
  refine kt_norm ?_
  refine v_sel [2] [2] rfl rfl ?_
  refine v_ret ?_
  refine ⟨[_], .cons (.cellW (key := 2) rfl rfl rfl) (ResAll.nil), ?_⟩
  exact (wideV_eq (by omega) (by omega) (by omega)).symm
theorem r_neg (x : Int) (hx : -170141183460469231731687303715884105727 ≤ x ∧ x < 170141183460469231731687303715884105728) : Ans Tryz.prog 100 [wideV x] (wideV (-x)) := by
  refine ans_of Tryz.func100 rfl Tryz.ntmps100 Tryz.results100 rfl rfl fun w => ?_
  refine v_seq ?_
  refine v_region ?_
  refine l_new rfl (o_box (cs := [_, _]) rfl rfl) fun b1 => ?_
  refine l_new rfl o_alloc fun b2 => ?_
  refine l_nil ?_
  refine kt_norm ?_
  refine v_seq ?_
  refine v_drawZ [[], [1], [], [], [1], [], [], [], [], [2]] mixed ?_ (by kernel_rfl) (by kernel_rfl)
  refine d_val (fun _ => rfl) rfl rfl (fun _ => o_fld rfl) ?_
  refine d_val (fun _ => rfl) rfl rfl (fun _ => o_load1 (key := 1) rfl rfl rfl) ?_
  refine d_val (fun _ => rfl) rfl rfl (fun _ => o_subi rfl rfl ?_) ?_
  · omega
  refine d_val (fun _ => rfl) rfl rfl (fun _ => o_fld rfl) ?_
  refine d_val (fun _ => rfl) rfl rfl (fun _ => o_load1 (key := 1) rfl rfl rfl) ?_
  refine d_val (fun _ => rfl) rfl rfl (fun _ => o_subu rfl rfl) ?_
  refine d_val (fun _ => rfl) rfl rfl (fun _ => o_build (vs := [_, _]) (cs := [_, _]) rfl rfl) ?_
  refine d_ans (vs := [_]) (fun _ => rfl) (fun _ => rfl) (r_Of _ ?_) ?_
  · omega
  refine d_ans (vs := [_, _]) (fun _ => rfl) (fun _ => rfl) (r_AddE _ _ _ _ (-x) ?_ ?_ ?_ ?_ ?_ ?_) ?_
  · omega
  · omega
  · omega
  · omega
  · omega
  · omega
  refine d_store (fun _ => rfl) rfl rfl (fun _ => o_storeW (key := 2) (xs := [_, _]) rfl rfl rfl rfl rfl rfl rfl) ?_
  refine d_nil (fun σ => ?_)
  refine l_nil ?_
  refine kt_norm ?_
  refine v_sel [2] [2] rfl rfl ?_
  refine v_ret ?_
  refine ⟨[_], .cons (.cellW (key := 2) rfl rfl rfl) (ResAll.nil), ?_⟩
  rfl
theorem r_Sub (x y : Int) (hx : -42535295865117307932921825928971026432 ≤ x ∧ x < 42535295865117307932921825928971026432) (hy : -42535295865117307932921825928971026432 ≤ y ∧ y < 42535295865117307932921825928971026432) : Ans Tryz.prog 103 [wideV x, wideV y] (wideV (x - y)) := by
  refine ans_of Tryz.func103 rfl Tryz.ntmps103 Tryz.results103 rfl rfl fun w => ?_
  refine v_seq ?_
  refine v_region ?_
  refine l_new rfl (o_box (cs := [_, _]) rfl rfl) fun b2 => ?_
  refine l_new rfl (o_box (cs := [_, _]) rfl rfl) fun b3 => ?_
  refine l_new rfl o_alloc fun b4 => ?_
  refine l_nil ?_
  refine kt_norm ?_
  refine v_seq ?_
  refine v_drawZ [[2], [3], [], [], [4]] mixed ?_ (by kernel_rfl) (by kernel_rfl)
  refine d_val (fun _ => rfl) rfl rfl (fun _ => o_loadW (key := 2) rfl rfl rfl) ?_
  refine d_val (fun _ => rfl) rfl rfl (fun _ => o_loadW (key := 3) rfl rfl rfl) ?_
  refine d_ans (vs := [_]) (fun _ => rfl) (fun _ => rfl) (r_neg _ ?_) ?_
  · omega
  refine d_ans (vs := [_, _]) (fun _ => rfl) (fun _ => rfl) (r_Add _ _ ?_ ?_ ?_) ?_
  · omega
  · omega
  · omega
  refine d_store (fun _ => rfl) rfl rfl (fun _ => o_storeW (key := 4) (xs := [_, _]) rfl rfl rfl rfl rfl rfl rfl) ?_
  refine d_nil (fun σ => ?_)
  refine l_nil ?_
  refine kt_norm ?_
  refine v_sel [4] [4] rfl rfl ?_
  refine v_ret ?_
  refine ⟨[_], .cons (.cellW (key := 4) rfl rfl rfl) (ResAll.nil), ?_⟩
  exact congrArg wideV (by omega)
set_option maxHeartbeats 1000000 in
theorem r_Mul (x y : Int) (hx : -9223372036854775808 ≤ x ∧ x < 9223372036854775808) (hy : -9223372036854775808 ≤ y ∧ y < 9223372036854775808) : Ans Tryz.prog 84 [.int .i64 x, .int .i64 y] (wideV (x * y)) := by
  obtain ⟨u, hu1, hu2⟩ : ∃ u : Int, (x < 0 → u = -x) ∧ (¬ x < 0 → u = x) := ⟨if x < 0 then -x else x, fun h => if_pos h, fun h => if_neg h⟩
  obtain ⟨v, hv1, hv2⟩ : ∃ v : Int, (y < 0 → v = -y) ∧ (¬ y < 0 → v = y) := ⟨if y < 0 then -y else y, fun h => if_pos h, fun h => if_neg h⟩
  have hu : 0 ≤ u ∧ u ≤ 9223372036854775808 := by omega
  have hv : 0 ≤ v ∧ v ≤ 9223372036854775808 := by omega
  have m1 := mulNN (x := u / 4294967296) (y := v / 4294967296) (A := 2147483648) (B := 2147483648) (by omega) (by omega)
  have m2 := mulNN (x := u % 4294967296) (y := v % 4294967296) (A := 4294967295) (B := 4294967295) (by omega) (by omega)
  have m3 := mulNN (x := u / 4294967296) (y := v % 4294967296) (A := 2147483648) (B := 4294967295) (by omega) (by omega)
  have m4 := mulNN (x := u % 4294967296) (y := v / 4294967296) (A := 4294967295) (B := 2147483648) (by omega) (by omega)
  have m5 := mul_split u v
  have s1 : x < 0 → y < 0 → x * y = u * v := fun h k => by rw [hu1 h, hv1 k, Int.neg_mul_neg]
  have s2 : x < 0 → ¬ y < 0 → x * y = -(u * v) := fun h k => by rw [hu1 h, hv2 k, Int.neg_mul, Int.neg_neg]
  have s3 : ¬ x < 0 → y < 0 → x * y = -(u * v) := fun h k => by rw [hu2 h, hv1 k, Int.mul_neg, Int.neg_neg]
  have s4 : ¬ x < 0 → ¬ y < 0 → x * y = u * v := fun h k => by rw [hu2 h, hv2 k]
  refine ans_of Tryz.func84 rfl Tryz.ntmps84 Tryz.results84 rfl rfl fun w => ?_
  refine v_seq ?_
  refine v_region ?_
  refine l_new rfl o_alloc fun b4 => ?_
  refine l_nil ?_
  refine kt_norm ?_
  refine v_seq ?_
  refine v_region ?_
  refine l_val rfl (o_move rfl) ?_
  refine l_val rfl (o_convu rfl) ?_
  refine l_val rfl (o_assign rfl) ?_
  refine l_nil ?_
  refine kt_norm ?_
  refine v_seq ?_
  refine v_region ?_
  refine l_val rfl (o_move rfl) ?_
  refine l_val rfl (o_convu rfl) ?_
  refine l_val rfl (o_assign rfl) ?_
  refine l_nil ?_
  refine kt_norm ?_
  refine v_seq ?_
  refine v_seq ?_
  refine v_region ?_
  refine l_val rfl (o_move rfl) ?_
  refine l_split rfl (o_lss rfl rfl) (fun q1 => ?_) (fun q1 => ?_)
  · first
    | (exfalso; omega; done)
    | (
        refine l_nil ?_
        refine kt_norm ?_
        refine v_condT rfl ?_
        refine v_region ?_
        refine l_val rfl (o_move rfl) ?_
        refine l_val rfl (o_negu rfl) ?_
        refine l_val rfl (o_assign rfl) ?_
        refine l_nil ?_
        refine kt_norm ?_
        refine v_sel [0, 1, 4, 5, 6] [4] rfl rfl ?_
        refine v_seq ?_
        refine v_seq ?_
        refine v_region ?_
        refine l_val rfl (o_move rfl) ?_
        refine l_split rfl (o_lss rfl rfl) (fun q2 => ?_) (fun q2 => ?_)
        · first
          | (exfalso; omega; done)
          | (
              refine l_nil ?_
              refine kt_norm ?_
              refine v_condT rfl ?_
              refine v_region ?_
              refine l_val rfl (o_move rfl) ?_
              refine l_val rfl (o_negu rfl) ?_
              refine l_val rfl (o_assign rfl) ?_
              refine l_nil ?_
              refine kt_norm ?_
              refine v_seq ?_
              refine v_region ?_
              refine l_val rfl (o_moveE (q' := u) rfl (by omega)) ?_
              refine l_val rfl (o_quon rfl rfl ?_ ?_) ?_
              · omega
              · exact wrap_u64 (by omega)
              refine l_val rfl (o_assign rfl) ?_
              refine l_nil ?_
              refine kt_norm ?_
              refine v_sel [0, 1, 4, 5, 6, 7] [4] rfl rfl ?_
              refine v_seq ?_
              refine v_region ?_
              refine l_val rfl (o_moveE (q' := u) rfl (by omega)) ?_
              refine l_val rfl (o_remn rfl rfl ?_) ?_
              · omega
              refine l_val rfl (o_assign rfl) ?_
              refine l_nil ?_
              refine kt_norm ?_
              refine v_seq ?_
              refine v_region ?_
              refine l_val rfl (o_moveE (q' := v) rfl (by omega)) ?_
              refine l_val rfl (o_quon rfl rfl ?_ ?_) ?_
              · omega
              · exact wrap_u64 (by omega)
              refine l_val rfl (o_assign rfl) ?_
              refine l_nil ?_
              refine kt_norm ?_
              refine v_seq ?_
              refine v_region ?_
              refine l_val rfl (o_moveE (q' := v) rfl (by omega)) ?_
              refine l_val rfl (o_remn rfl rfl ?_) ?_
              · omega
              refine l_val rfl (o_assign rfl) ?_
              refine l_nil ?_
              refine kt_norm ?_
              refine v_sel [0, 1, 4, 7, 8, 9, 10] [4] rfl rfl ?_
              refine v_seq ?_
              refine v_region ?_
              refine l_val rfl (o_move rfl) ?_
              refine l_val rfl (o_move rfl) ?_
              refine l_val rfl (o_mulu rfl rfl) ?_
              refine l_val rfl (o_convi rfl ?_) ?_
              · omega
              refine l_val rfl (o_build (vs := [_, _]) (cs := [_, _]) rfl rfl) ?_
              refine l_val rfl (o_move rfl) ?_
              refine l_val rfl (o_move rfl) ?_
              refine l_val rfl (o_mulu rfl rfl) ?_
              refine l_val rfl (o_build (vs := [_, _]) (cs := [_, _]) rfl rfl) ?_
              refine l_ans (vs := [_, _]) rfl rfl (r_AddE _ _ _ _ (u / 4294967296 * (v / 4294967296) * 18446744073709551616 + u % 4294967296 * (v % 4294967296)) ?_ ?_ ?_ ?_ ?_ ?_) ?_
              · omega
              · omega
              · omega
              · omega
              · omega
              · omega
              refine l_new rfl o_alloc fun b11 => ?_
              refine l_store rfl (o_storeW (key := 11) (xs := [_, _]) rfl rfl rfl rfl rfl rfl rfl) ?_
              refine l_nil ?_
              refine kt_norm ?_
              refine v_sel [0, 1, 4, 7, 8, 9, 10, 11] [4, 11] rfl rfl ?_
              refine v_seq ?_
              refine v_drawZ [[11], [], [], [], [], [], [], [], [], [], [], [11]] mixed ?_ (by kernel_rfl) (by kernel_rfl)
              refine d_val (fun _ => rfl) rfl rfl (fun _ => o_loadW (key := 11) rfl rfl rfl) ?_
              refine d_val (fun _ => rfl) rfl rfl (fun _ => o_move rfl) ?_
              refine d_val (fun _ => rfl) rfl rfl (fun _ => o_move rfl) ?_
              refine d_val (fun _ => rfl) rfl rfl (fun _ => o_mulu rfl rfl) ?_
              refine d_ans (vs := [_]) (fun _ => rfl) (fun _ => rfl) (r_raised _ ?_) ?_
              · omega
              refine d_ans (vs := [_, _]) (fun _ => rfl) (fun _ => rfl) (r_Add _ _ ?_ ?_ ?_) ?_
              · omega
              · omega
              · omega
              refine d_val (fun _ => rfl) rfl rfl (fun _ => o_move rfl) ?_
              refine d_val (fun _ => rfl) rfl rfl (fun _ => o_move rfl) ?_
              refine d_val (fun _ => rfl) rfl rfl (fun _ => o_mulu rfl rfl) ?_
              refine d_ans (vs := [_]) (fun _ => rfl) (fun _ => rfl) (r_raised _ ?_) ?_
              · omega
              refine d_ans (vs := [_, _]) (fun _ => rfl) (fun _ => rfl) (r_Add _ _ ?_ ?_ ?_) ?_
              · omega
              · omega
              · omega
              refine d_store (fun _ => rfl) rfl rfl (fun _ => o_storeW (key := 11) (xs := [_, _]) rfl rfl rfl rfl rfl rfl rfl) ?_
              refine d_nil (fun σ => ?_)
              refine l_nil ?_
              refine kt_norm ?_
              refine v_sel [0, 1, 4, 11] [4, 11] rfl rfl ?_
              refine v_seq ?_
              refine v_seq ?_
              refine v_region ?_
              refine l_val rfl (o_move rfl) ?_
              refine l_split rfl (o_lss rfl rfl) (fun q3 => ?_) (fun q3 => ?_)
              · first
                | (exfalso; omega; done)
                | (
                    refine l_val rfl (o_move rfl) ?_
                    refine l_split rfl (o_lss rfl rfl) (fun q4 => ?_) (fun q4 => ?_)
                    · first
                      | (exfalso; omega; done)
                      | (
                          refine l_val rfl (o_neqb rfl rfl rfl) ?_
                          refine l_nil ?_
                          refine kt_norm ?_
                          refine v_sel [4, 11, 57] [4, 11] rfl rfl ?_
                          refine v_condF rfl ?_
                          refine v_skip ?_
                          refine kt_norm ?_
                          refine v_seq ?_
                          refine v_region ?_
                          refine l_val rfl (o_loadW (key := 11) rfl rfl rfl) ?_
                          refine l_store rfl (o_storeW (key := 4) (xs := [_, _]) rfl rfl rfl rfl rfl rfl rfl) ?_
                          refine l_nil ?_
                          refine kt_norm ?_
                          refine v_ret ?_
                          refine ⟨[_], .cons (.cellW (key := 4) rfl rfl rfl) (ResAll.nil), ?_⟩
                          exact congrArg wideV (by omega))
                    · first
                      | (exfalso; omega; done)
                      | (
                          refine l_val rfl (o_neqb rfl rfl rfl) ?_
                          refine l_nil ?_
                          refine kt_norm ?_
                          refine v_sel [4, 11, 57] [4, 11] rfl rfl ?_
                          refine v_condT rfl ?_
                          refine v_seq ?_
                          refine v_region ?_
                          refine l_val rfl (o_loadW (key := 11) rfl rfl rfl) ?_
                          refine l_ans (vs := [_]) rfl rfl (r_neg _ ?_) ?_
                          · omega
                          refine l_store rfl (o_storeW (key := 4) (xs := [_, _]) rfl rfl rfl rfl rfl rfl rfl) ?_
                          refine l_nil ?_
                          refine kt_norm ?_
                          refine v_ret ?_
                          refine kt_ret ?_
                          refine ⟨[_], .cons (.cellW (key := 4) rfl rfl rfl) (ResAll.nil), ?_⟩
                          exact congrArg wideV (by omega)))
              · first
                | (exfalso; omega; done)
                | (
                    refine l_val rfl (o_move rfl) ?_
                    refine l_split rfl (o_lss rfl rfl) (fun q5 => ?_) (fun q5 => ?_)
                    · first
                      | (exfalso; omega; done)
                      | (
                          refine l_val rfl (o_neqb rfl rfl rfl) ?_
                          refine l_nil ?_
                          refine kt_norm ?_
                          refine v_sel [4, 11, 57] [4, 11] rfl rfl ?_
                          refine v_condT rfl ?_
                          refine v_seq ?_
                          refine v_region ?_
                          refine l_val rfl (o_loadW (key := 11) rfl rfl rfl) ?_
                          refine l_ans (vs := [_]) rfl rfl (r_neg _ ?_) ?_
                          · omega
                          refine l_store rfl (o_storeW (key := 4) (xs := [_, _]) rfl rfl rfl rfl rfl rfl rfl) ?_
                          refine l_nil ?_
                          refine kt_norm ?_
                          refine v_ret ?_
                          refine kt_ret ?_
                          refine ⟨[_], .cons (.cellW (key := 4) rfl rfl rfl) (ResAll.nil), ?_⟩
                          exact congrArg wideV (by omega))
                    · first
                      | (exfalso; omega; done)
                      | (
                          refine l_val rfl (o_neqb rfl rfl rfl) ?_
                          refine l_nil ?_
                          refine kt_norm ?_
                          refine v_sel [4, 11, 57] [4, 11] rfl rfl ?_
                          refine v_condF rfl ?_
                          refine v_skip ?_
                          refine kt_norm ?_
                          refine v_seq ?_
                          refine v_region ?_
                          refine l_val rfl (o_loadW (key := 11) rfl rfl rfl) ?_
                          refine l_store rfl (o_storeW (key := 4) (xs := [_, _]) rfl rfl rfl rfl rfl rfl rfl) ?_
                          refine l_nil ?_
                          refine kt_norm ?_
                          refine v_ret ?_
                          refine ⟨[_], .cons (.cellW (key := 4) rfl rfl rfl) (ResAll.nil), ?_⟩
                          exact congrArg wideV (by omega))))
        · first
          | (exfalso; omega; done)
          | (
              refine l_nil ?_
              refine kt_norm ?_
              refine v_condF rfl ?_
              refine v_skip ?_
              refine kt_norm ?_
              refine v_seq ?_
              refine v_region ?_
              refine l_val rfl (o_moveE (q' := u) rfl (by omega)) ?_
              refine l_val rfl (o_quon rfl rfl ?_ ?_) ?_
              · omega
              · exact wrap_u64 (by omega)
              refine l_val rfl (o_assign rfl) ?_
              refine l_nil ?_
              refine kt_norm ?_
              refine v_seq ?_
              refine v_region ?_
              refine l_val rfl (o_moveE (q' := u) rfl (by omega)) ?_
              refine l_val rfl (o_remn rfl rfl ?_) ?_
              · omega
              refine l_val rfl (o_assign rfl) ?_
              refine l_nil ?_
              refine kt_norm ?_
              refine v_sel [0, 1, 4, 6, 7, 8] [4] rfl rfl ?_
              refine v_seq ?_
              refine v_region ?_
              refine l_val rfl (o_moveE (q' := v) rfl (by omega)) ?_
              refine l_val rfl (o_quon rfl rfl ?_ ?_) ?_
              · omega
              · exact wrap_u64 (by omega)
              refine l_val rfl (o_assign rfl) ?_
              refine l_nil ?_
              refine kt_norm ?_
              refine v_seq ?_
              refine v_region ?_
              refine l_val rfl (o_moveE (q' := v) rfl (by omega)) ?_
              refine l_val rfl (o_remn rfl rfl ?_) ?_
              · omega
              refine l_val rfl (o_assign rfl) ?_
              refine l_nil ?_
              refine kt_norm ?_
              refine v_seq ?_
              refine v_region ?_
              refine l_val rfl (o_move rfl) ?_
              refine l_val rfl (o_move rfl) ?_
              refine l_val rfl (o_mulu rfl rfl) ?_
              refine l_val rfl (o_convi rfl ?_) ?_
              · omega
              refine l_val rfl (o_build (vs := [_, _]) (cs := [_, _]) rfl rfl) ?_
              refine l_val rfl (o_move rfl) ?_
              refine l_val rfl (o_move rfl) ?_
              refine l_val rfl (o_mulu rfl rfl) ?_
              refine l_val rfl (o_build (vs := [_, _]) (cs := [_, _]) rfl rfl) ?_
              refine l_ans (vs := [_, _]) rfl rfl (r_AddE _ _ _ _ (u / 4294967296 * (v / 4294967296) * 18446744073709551616 + u % 4294967296 * (v % 4294967296)) ?_ ?_ ?_ ?_ ?_ ?_) ?_
              · omega
              · omega
              · omega
              · omega
              · omega
              · omega
              refine l_new rfl o_alloc fun b11 => ?_
              refine l_store rfl (o_storeW (key := 11) (xs := [_, _]) rfl rfl rfl rfl rfl rfl rfl) ?_
              refine l_nil ?_
              refine kt_norm ?_
              refine v_sel [0, 1, 4, 7, 8, 9, 10, 11] [4, 11] rfl rfl ?_
              refine v_seq ?_
              refine v_drawZ [[11], [], [], [], [], [], [], [], [], [], [], [11]] mixed ?_ (by kernel_rfl) (by kernel_rfl)
              refine d_val (fun _ => rfl) rfl rfl (fun _ => o_loadW (key := 11) rfl rfl rfl) ?_
              refine d_val (fun _ => rfl) rfl rfl (fun _ => o_move rfl) ?_
              refine d_val (fun _ => rfl) rfl rfl (fun _ => o_move rfl) ?_
              refine d_val (fun _ => rfl) rfl rfl (fun _ => o_mulu rfl rfl) ?_
              refine d_ans (vs := [_]) (fun _ => rfl) (fun _ => rfl) (r_raised _ ?_) ?_
              · omega
              refine d_ans (vs := [_, _]) (fun _ => rfl) (fun _ => rfl) (r_Add _ _ ?_ ?_ ?_) ?_
              · omega
              · omega
              · omega
              refine d_val (fun _ => rfl) rfl rfl (fun _ => o_move rfl) ?_
              refine d_val (fun _ => rfl) rfl rfl (fun _ => o_move rfl) ?_
              refine d_val (fun _ => rfl) rfl rfl (fun _ => o_mulu rfl rfl) ?_
              refine d_ans (vs := [_]) (fun _ => rfl) (fun _ => rfl) (r_raised _ ?_) ?_
              · omega
              refine d_ans (vs := [_, _]) (fun _ => rfl) (fun _ => rfl) (r_Add _ _ ?_ ?_ ?_) ?_
              · omega
              · omega
              · omega
              refine d_store (fun _ => rfl) rfl rfl (fun _ => o_storeW (key := 11) (xs := [_, _]) rfl rfl rfl rfl rfl rfl rfl) ?_
              refine d_nil (fun σ => ?_)
              refine l_nil ?_
              refine kt_norm ?_
              refine v_sel [0, 1, 4, 11] [4, 11] rfl rfl ?_
              refine v_seq ?_
              refine v_seq ?_
              refine v_region ?_
              refine l_val rfl (o_move rfl) ?_
              refine l_split rfl (o_lss rfl rfl) (fun q6 => ?_) (fun q6 => ?_)
              · first
                | (exfalso; omega; done)
                | (
                    refine l_val rfl (o_move rfl) ?_
                    refine l_split rfl (o_lss rfl rfl) (fun q7 => ?_) (fun q7 => ?_)
                    · first
                      | (exfalso; omega; done)
                      | (
                          refine l_val rfl (o_neqb rfl rfl rfl) ?_
                          refine l_nil ?_
                          refine kt_norm ?_
                          refine v_sel [4, 11, 57] [4, 11] rfl rfl ?_
                          refine v_condF rfl ?_
                          refine v_skip ?_
                          refine kt_norm ?_
                          refine v_seq ?_
                          refine v_region ?_
                          refine l_val rfl (o_loadW (key := 11) rfl rfl rfl) ?_
                          refine l_store rfl (o_storeW (key := 4) (xs := [_, _]) rfl rfl rfl rfl rfl rfl rfl) ?_
                          refine l_nil ?_
                          refine kt_norm ?_
                          refine v_ret ?_
                          refine ⟨[_], .cons (.cellW (key := 4) rfl rfl rfl) (ResAll.nil), ?_⟩
                          exact congrArg wideV (by omega))
                    · first
                      | (exfalso; omega; done)
                      | (
                          refine l_val rfl (o_neqb rfl rfl rfl) ?_
                          refine l_nil ?_
                          refine kt_norm ?_
                          refine v_sel [4, 11, 57] [4, 11] rfl rfl ?_
                          refine v_condT rfl ?_
                          refine v_seq ?_
                          refine v_region ?_
                          refine l_val rfl (o_loadW (key := 11) rfl rfl rfl) ?_
                          refine l_ans (vs := [_]) rfl rfl (r_neg _ ?_) ?_
                          · omega
                          refine l_store rfl (o_storeW (key := 4) (xs := [_, _]) rfl rfl rfl rfl rfl rfl rfl) ?_
                          refine l_nil ?_
                          refine kt_norm ?_
                          refine v_ret ?_
                          refine kt_ret ?_
                          refine ⟨[_], .cons (.cellW (key := 4) rfl rfl rfl) (ResAll.nil), ?_⟩
                          exact congrArg wideV (by omega)))
              · first
                | (exfalso; omega; done)
                | (
                    refine l_val rfl (o_move rfl) ?_
                    refine l_split rfl (o_lss rfl rfl) (fun q8 => ?_) (fun q8 => ?_)
                    · first
                      | (exfalso; omega; done)
                      | (
                          refine l_val rfl (o_neqb rfl rfl rfl) ?_
                          refine l_nil ?_
                          refine kt_norm ?_
                          refine v_sel [4, 11, 57] [4, 11] rfl rfl ?_
                          refine v_condT rfl ?_
                          refine v_seq ?_
                          refine v_region ?_
                          refine l_val rfl (o_loadW (key := 11) rfl rfl rfl) ?_
                          refine l_ans (vs := [_]) rfl rfl (r_neg _ ?_) ?_
                          · omega
                          refine l_store rfl (o_storeW (key := 4) (xs := [_, _]) rfl rfl rfl rfl rfl rfl rfl) ?_
                          refine l_nil ?_
                          refine kt_norm ?_
                          refine v_ret ?_
                          refine kt_ret ?_
                          refine ⟨[_], .cons (.cellW (key := 4) rfl rfl rfl) (ResAll.nil), ?_⟩
                          exact congrArg wideV (by omega))
                    · first
                      | (exfalso; omega; done)
                      | (
                          refine l_val rfl (o_neqb rfl rfl rfl) ?_
                          refine l_nil ?_
                          refine kt_norm ?_
                          refine v_sel [4, 11, 57] [4, 11] rfl rfl ?_
                          refine v_condF rfl ?_
                          refine v_skip ?_
                          refine kt_norm ?_
                          refine v_seq ?_
                          refine v_region ?_
                          refine l_val rfl (o_loadW (key := 11) rfl rfl rfl) ?_
                          refine l_store rfl (o_storeW (key := 4) (xs := [_, _]) rfl rfl rfl rfl rfl rfl rfl) ?_
                          refine l_nil ?_
                          refine kt_norm ?_
                          refine v_ret ?_
                          refine ⟨[_], .cons (.cellW (key := 4) rfl rfl rfl) (ResAll.nil), ?_⟩
                          exact congrArg wideV (by omega)))))
  · first
    | (exfalso; omega; done)
    | (
        refine l_nil ?_
        refine kt_norm ?_
        refine v_condF rfl ?_
        refine v_skip ?_
        refine kt_norm ?_
        refine v_sel [0, 1, 4, 5, 6] [4] rfl rfl ?_
        refine v_seq ?_
        refine v_seq ?_
        refine v_region ?_
        refine l_val rfl (o_move rfl) ?_
        refine l_split rfl (o_lss rfl rfl) (fun q9 => ?_) (fun q9 => ?_)
        · first
          | (exfalso; omega; done)
          | (
              refine l_nil ?_
              refine kt_norm ?_
              refine v_condT rfl ?_
              refine v_region ?_
              refine l_val rfl (o_move rfl) ?_
              refine l_val rfl (o_negu rfl) ?_
              refine l_val rfl (o_assign rfl) ?_
              refine l_nil ?_
              refine kt_norm ?_
              refine v_seq ?_
              refine v_region ?_
              refine l_val rfl (o_moveE (q' := u) rfl (by omega)) ?_
              refine l_val rfl (o_quon rfl rfl ?_ ?_) ?_
              · omega
              · exact wrap_u64 (by omega)
              refine l_val rfl (o_assign rfl) ?_
              refine l_nil ?_
              refine kt_norm ?_
              refine v_sel [0, 1, 4, 5, 6, 7] [4] rfl rfl ?_
              refine v_seq ?_
              refine v_region ?_
              refine l_val rfl (o_moveE (q' := u) rfl (by omega)) ?_
              refine l_val rfl (o_remn rfl rfl ?_) ?_
              · omega
              refine l_val rfl (o_assign rfl) ?_
              refine l_nil ?_
              refine kt_norm ?_
              refine v_seq ?_
              refine v_region ?_
              refine l_val rfl (o_moveE (q' := v) rfl (by omega)) ?_
              refine l_val rfl (o_quon rfl rfl ?_ ?_) ?_
              · omega
              · exact wrap_u64 (by omega)
              refine l_val rfl (o_assign rfl) ?_
              refine l_nil ?_
              refine kt_norm ?_
              refine v_seq ?_
              refine v_region ?_
              refine l_val rfl (o_moveE (q' := v) rfl (by omega)) ?_
              refine l_val rfl (o_remn rfl rfl ?_) ?_
              · omega
              refine l_val rfl (o_assign rfl) ?_
              refine l_nil ?_
              refine kt_norm ?_
              refine v_sel [0, 1, 4, 7, 8, 9, 10] [4] rfl rfl ?_
              refine v_seq ?_
              refine v_region ?_
              refine l_val rfl (o_move rfl) ?_
              refine l_val rfl (o_move rfl) ?_
              refine l_val rfl (o_mulu rfl rfl) ?_
              refine l_val rfl (o_convi rfl ?_) ?_
              · omega
              refine l_val rfl (o_build (vs := [_, _]) (cs := [_, _]) rfl rfl) ?_
              refine l_val rfl (o_move rfl) ?_
              refine l_val rfl (o_move rfl) ?_
              refine l_val rfl (o_mulu rfl rfl) ?_
              refine l_val rfl (o_build (vs := [_, _]) (cs := [_, _]) rfl rfl) ?_
              refine l_ans (vs := [_, _]) rfl rfl (r_AddE _ _ _ _ (u / 4294967296 * (v / 4294967296) * 18446744073709551616 + u % 4294967296 * (v % 4294967296)) ?_ ?_ ?_ ?_ ?_ ?_) ?_
              · omega
              · omega
              · omega
              · omega
              · omega
              · omega
              refine l_new rfl o_alloc fun b11 => ?_
              refine l_store rfl (o_storeW (key := 11) (xs := [_, _]) rfl rfl rfl rfl rfl rfl rfl) ?_
              refine l_nil ?_
              refine kt_norm ?_
              refine v_sel [0, 1, 4, 7, 8, 9, 10, 11] [4, 11] rfl rfl ?_
              refine v_seq ?_
              refine v_drawZ [[11], [], [], [], [], [], [], [], [], [], [], [11]] mixed ?_ (by kernel_rfl) (by kernel_rfl)
              refine d_val (fun _ => rfl) rfl rfl (fun _ => o_loadW (key := 11) rfl rfl rfl) ?_
              refine d_val (fun _ => rfl) rfl rfl (fun _ => o_move rfl) ?_
              refine d_val (fun _ => rfl) rfl rfl (fun _ => o_move rfl) ?_
              refine d_val (fun _ => rfl) rfl rfl (fun _ => o_mulu rfl rfl) ?_
              refine d_ans (vs := [_]) (fun _ => rfl) (fun _ => rfl) (r_raised _ ?_) ?_
              · omega
              refine d_ans (vs := [_, _]) (fun _ => rfl) (fun _ => rfl) (r_Add _ _ ?_ ?_ ?_) ?_
              · omega
              · omega
              · omega
              refine d_val (fun _ => rfl) rfl rfl (fun _ => o_move rfl) ?_
              refine d_val (fun _ => rfl) rfl rfl (fun _ => o_move rfl) ?_
              refine d_val (fun _ => rfl) rfl rfl (fun _ => o_mulu rfl rfl) ?_
              refine d_ans (vs := [_]) (fun _ => rfl) (fun _ => rfl) (r_raised _ ?_) ?_
              · omega
              refine d_ans (vs := [_, _]) (fun _ => rfl) (fun _ => rfl) (r_Add _ _ ?_ ?_ ?_) ?_
              · omega
              · omega
              · omega
              refine d_store (fun _ => rfl) rfl rfl (fun _ => o_storeW (key := 11) (xs := [_, _]) rfl rfl rfl rfl rfl rfl rfl) ?_
              refine d_nil (fun σ => ?_)
              refine l_nil ?_
              refine kt_norm ?_
              refine v_sel [0, 1, 4, 11] [4, 11] rfl rfl ?_
              refine v_seq ?_
              refine v_seq ?_
              refine v_region ?_
              refine l_val rfl (o_move rfl) ?_
              refine l_split rfl (o_lss rfl rfl) (fun q10 => ?_) (fun q10 => ?_)
              · first
                | (exfalso; omega; done)
                | (
                    refine l_val rfl (o_move rfl) ?_
                    refine l_split rfl (o_lss rfl rfl) (fun q11 => ?_) (fun q11 => ?_)
                    · first
                      | (exfalso; omega; done)
                      | (
                          refine l_val rfl (o_neqb rfl rfl rfl) ?_
                          refine l_nil ?_
                          refine kt_norm ?_
                          refine v_sel [4, 11, 57] [4, 11] rfl rfl ?_
                          refine v_condF rfl ?_
                          refine v_skip ?_
                          refine kt_norm ?_
                          refine v_seq ?_
                          refine v_region ?_
                          refine l_val rfl (o_loadW (key := 11) rfl rfl rfl) ?_
                          refine l_store rfl (o_storeW (key := 4) (xs := [_, _]) rfl rfl rfl rfl rfl rfl rfl) ?_
                          refine l_nil ?_
                          refine kt_norm ?_
                          refine v_ret ?_
                          refine ⟨[_], .cons (.cellW (key := 4) rfl rfl rfl) (ResAll.nil), ?_⟩
                          exact congrArg wideV (by omega))
                    · first
                      | (exfalso; omega; done)
                      | (
                          refine l_val rfl (o_neqb rfl rfl rfl) ?_
                          refine l_nil ?_
                          refine kt_norm ?_
                          refine v_sel [4, 11, 57] [4, 11] rfl rfl ?_
                          refine v_condT rfl ?_
                          refine v_seq ?_
                          refine v_region ?_
                          refine l_val rfl (o_loadW (key := 11) rfl rfl rfl) ?_
                          refine l_ans (vs := [_]) rfl rfl (r_neg _ ?_) ?_
                          · omega
                          refine l_store rfl (o_storeW (key := 4) (xs := [_, _]) rfl rfl rfl rfl rfl rfl rfl) ?_
                          refine l_nil ?_
                          refine kt_norm ?_
                          refine v_ret ?_
                          refine kt_ret ?_
                          refine ⟨[_], .cons (.cellW (key := 4) rfl rfl rfl) (ResAll.nil), ?_⟩
                          exact congrArg wideV (by omega)))
              · first
                | (exfalso; omega; done)
                | (
                    refine l_val rfl (o_move rfl) ?_
                    refine l_split rfl (o_lss rfl rfl) (fun q12 => ?_) (fun q12 => ?_)
                    · first
                      | (exfalso; omega; done)
                      | (
                          refine l_val rfl (o_neqb rfl rfl rfl) ?_
                          refine l_nil ?_
                          refine kt_norm ?_
                          refine v_sel [4, 11, 57] [4, 11] rfl rfl ?_
                          refine v_condT rfl ?_
                          refine v_seq ?_
                          refine v_region ?_
                          refine l_val rfl (o_loadW (key := 11) rfl rfl rfl) ?_
                          refine l_ans (vs := [_]) rfl rfl (r_neg _ ?_) ?_
                          · omega
                          refine l_store rfl (o_storeW (key := 4) (xs := [_, _]) rfl rfl rfl rfl rfl rfl rfl) ?_
                          refine l_nil ?_
                          refine kt_norm ?_
                          refine v_ret ?_
                          refine kt_ret ?_
                          refine ⟨[_], .cons (.cellW (key := 4) rfl rfl rfl) (ResAll.nil), ?_⟩
                          exact congrArg wideV (by omega))
                    · first
                      | (exfalso; omega; done)
                      | (
                          refine l_val rfl (o_neqb rfl rfl rfl) ?_
                          refine l_nil ?_
                          refine kt_norm ?_
                          refine v_sel [4, 11, 57] [4, 11] rfl rfl ?_
                          refine v_condF rfl ?_
                          refine v_skip ?_
                          refine kt_norm ?_
                          refine v_seq ?_
                          refine v_region ?_
                          refine l_val rfl (o_loadW (key := 11) rfl rfl rfl) ?_
                          refine l_store rfl (o_storeW (key := 4) (xs := [_, _]) rfl rfl rfl rfl rfl rfl rfl) ?_
                          refine l_nil ?_
                          refine kt_norm ?_
                          refine v_ret ?_
                          refine ⟨[_], .cons (.cellW (key := 4) rfl rfl rfl) (ResAll.nil), ?_⟩
                          exact congrArg wideV (by omega))))
        · first
          | (exfalso; omega; done)
          | (
              refine l_nil ?_
              refine kt_norm ?_
              refine v_condF rfl ?_
              refine v_skip ?_
              refine kt_norm ?_
              refine v_seq ?_
              refine v_region ?_
              refine l_val rfl (o_moveE (q' := u) rfl (by omega)) ?_
              refine l_val rfl (o_quon rfl rfl ?_ ?_) ?_
              · omega
              · exact wrap_u64 (by omega)
              refine l_val rfl (o_assign rfl) ?_
              refine l_nil ?_
              refine kt_norm ?_
              refine v_seq ?_
              refine v_region ?_
              refine l_val rfl (o_moveE (q' := u) rfl (by omega)) ?_
              refine l_val rfl (o_remn rfl rfl ?_) ?_
              · omega
              refine l_val rfl (o_assign rfl) ?_
              refine l_nil ?_
              refine kt_norm ?_
              refine v_sel [0, 1, 4, 6, 7, 8] [4] rfl rfl ?_
              refine v_seq ?_
              refine v_region ?_
              refine l_val rfl (o_moveE (q' := v) rfl (by omega)) ?_
              refine l_val rfl (o_quon rfl rfl ?_ ?_) ?_
              · omega
              · exact wrap_u64 (by omega)
              refine l_val rfl (o_assign rfl) ?_
              refine l_nil ?_
              refine kt_norm ?_
              refine v_seq ?_
              refine v_region ?_
              refine l_val rfl (o_moveE (q' := v) rfl (by omega)) ?_
              refine l_val rfl (o_remn rfl rfl ?_) ?_
              · omega
              refine l_val rfl (o_assign rfl) ?_
              refine l_nil ?_
              refine kt_norm ?_
              refine v_seq ?_
              refine v_region ?_
              refine l_val rfl (o_move rfl) ?_
              refine l_val rfl (o_move rfl) ?_
              refine l_val rfl (o_mulu rfl rfl) ?_
              refine l_val rfl (o_convi rfl ?_) ?_
              · omega
              refine l_val rfl (o_build (vs := [_, _]) (cs := [_, _]) rfl rfl) ?_
              refine l_val rfl (o_move rfl) ?_
              refine l_val rfl (o_move rfl) ?_
              refine l_val rfl (o_mulu rfl rfl) ?_
              refine l_val rfl (o_build (vs := [_, _]) (cs := [_, _]) rfl rfl) ?_
              refine l_ans (vs := [_, _]) rfl rfl (r_AddE _ _ _ _ (u / 4294967296 * (v / 4294967296) * 18446744073709551616 + u % 4294967296 * (v % 4294967296)) ?_ ?_ ?_ ?_ ?_ ?_) ?_
              · omega
              · omega
              · omega
              · omega
              · omega
              · omega
              refine l_new rfl o_alloc fun b11 => ?_
              refine l_store rfl (o_storeW (key := 11) (xs := [_, _]) rfl rfl rfl rfl rfl rfl rfl) ?_
              refine l_nil ?_
              refine kt_norm ?_
              refine v_sel [0, 1, 4, 7, 8, 9, 10, 11] [4, 11] rfl rfl ?_
              refine v_seq ?_
              refine v_drawZ [[11], [], [], [], [], [], [], [], [], [], [], [11]] mixed ?_ (by kernel_rfl) (by kernel_rfl)
              refine d_val (fun _ => rfl) rfl rfl (fun _ => o_loadW (key := 11) rfl rfl rfl) ?_
              refine d_val (fun _ => rfl) rfl rfl (fun _ => o_move rfl) ?_
              refine d_val (fun _ => rfl) rfl rfl (fun _ => o_move rfl) ?_
              refine d_val (fun _ => rfl) rfl rfl (fun _ => o_mulu rfl rfl) ?_
              refine d_ans (vs := [_]) (fun _ => rfl) (fun _ => rfl) (r_raised _ ?_) ?_
              · omega
              refine d_ans (vs := [_, _]) (fun _ => rfl) (fun _ => rfl) (r_Add _ _ ?_ ?_ ?_) ?_
              · omega
              · omega
              · omega
              refine d_val (fun _ => rfl) rfl rfl (fun _ => o_move rfl) ?_
              refine d_val (fun _ => rfl) rfl rfl (fun _ => o_move rfl) ?_
              refine d_val (fun _ => rfl) rfl rfl (fun _ => o_mulu rfl rfl) ?_
              refine d_ans (vs := [_]) (fun _ => rfl) (fun _ => rfl) (r_raised _ ?_) ?_
              · omega
              refine d_ans (vs := [_, _]) (fun _ => rfl) (fun _ => rfl) (r_Add _ _ ?_ ?_ ?_) ?_
              · omega
              · omega
              · omega
              refine d_store (fun _ => rfl) rfl rfl (fun _ => o_storeW (key := 11) (xs := [_, _]) rfl rfl rfl rfl rfl rfl rfl) ?_
              refine d_nil (fun σ => ?_)
              refine l_nil ?_
              refine kt_norm ?_
              refine v_sel [0, 1, 4, 11] [4, 11] rfl rfl ?_
              refine v_seq ?_
              refine v_seq ?_
              refine v_region ?_
              refine l_val rfl (o_move rfl) ?_
              refine l_split rfl (o_lss rfl rfl) (fun q13 => ?_) (fun q13 => ?_)
              · first
                | (exfalso; omega; done)
                | (
                    refine l_val rfl (o_move rfl) ?_
                    refine l_split rfl (o_lss rfl rfl) (fun q14 => ?_) (fun q14 => ?_)
                    · first
                      | (exfalso; omega; done)
                      | (
                          refine l_val rfl (o_neqb rfl rfl rfl) ?_
                          refine l_nil ?_
                          refine kt_norm ?_
                          refine v_sel [4, 11, 57] [4, 11] rfl rfl ?_
                          refine v_condF rfl ?_
                          refine v_skip ?_
                          refine kt_norm ?_
                          refine v_seq ?_
                          refine v_region ?_
                          refine l_val rfl (o_loadW (key := 11) rfl rfl rfl) ?_
                          refine l_store rfl (o_storeW (key := 4) (xs := [_, _]) rfl rfl rfl rfl rfl rfl rfl) ?_
                          refine l_nil ?_
                          refine kt_norm ?_
                          refine v_ret ?_
                          refine ⟨[_], .cons (.cellW (key := 4) rfl rfl rfl) (ResAll.nil), ?_⟩
                          exact congrArg wideV (by omega))
                    · first
                      | (exfalso; omega; done)
                      | (
                          refine l_val rfl (o_neqb rfl rfl rfl) ?_
                          refine l_nil ?_
                          refine kt_norm ?_
                          refine v_sel [4, 11, 57] [4, 11] rfl rfl ?_
                          refine v_condT rfl ?_
                          refine v_seq ?_
                          refine v_region ?_
                          refine l_val rfl (o_loadW (key := 11) rfl rfl rfl) ?_
                          refine l_ans (vs := [_]) rfl rfl (r_neg _ ?_) ?_
                          · omega
                          refine l_store rfl (o_storeW (key := 4) (xs := [_, _]) rfl rfl rfl rfl rfl rfl rfl) ?_
                          refine l_nil ?_
                          refine kt_norm ?_
                          refine v_ret ?_
                          refine kt_ret ?_
                          refine ⟨[_], .cons (.cellW (key := 4) rfl rfl rfl) (ResAll.nil), ?_⟩
                          exact congrArg wideV (by omega)))
              · first
                | (exfalso; omega; done)
                | (
                    refine l_val rfl (o_move rfl) ?_
                    refine l_split rfl (o_lss rfl rfl) (fun q15 => ?_) (fun q15 => ?_)
                    · first
                      | (exfalso; omega; done)
                      | (
                          refine l_val rfl (o_neqb rfl rfl rfl) ?_
                          refine l_nil ?_
                          refine kt_norm ?_
                          refine v_sel [4, 11, 57] [4, 11] rfl rfl ?_
                          refine v_condT rfl ?_
                          refine v_seq ?_
                          refine v_region ?_
                          refine l_val rfl (o_loadW (key := 11) rfl rfl rfl) ?_
                          refine l_ans (vs := [_]) rfl rfl (r_neg _ ?_) ?_
                          · omega
                          refine l_store rfl (o_storeW (key := 4) (xs := [_, _]) rfl rfl rfl rfl rfl rfl rfl) ?_
                          refine l_nil ?_
                          refine kt_norm ?_
                          refine v_ret ?_
                          refine kt_ret ?_
                          refine ⟨[_], .cons (.cellW (key := 4) rfl rfl rfl) (ResAll.nil), ?_⟩
                          exact congrArg wideV (by omega))
                    · first
                      | (exfalso; omega; done)
                      | (
                          refine l_val rfl (o_neqb rfl rfl rfl) ?_
                          refine l_nil ?_
                          refine kt_norm ?_
                          refine v_sel [4, 11, 57] [4, 11] rfl rfl ?_
                          refine v_condF rfl ?_
                          refine v_skip ?_
                          refine kt_norm ?_
                          refine v_seq ?_
                          refine v_region ?_
                          refine l_val rfl (o_loadW (key := 11) rfl rfl rfl) ?_
                          refine l_store rfl (o_storeW (key := 4) (xs := [_, _]) rfl rfl rfl rfl rfl rfl rfl) ?_
                          refine l_nil ?_
                          refine kt_norm ?_
                          refine v_ret ?_
                          refine ⟨[_], .cons (.cellW (key := 4) rfl rfl rfl) (ResAll.nil), ?_⟩
                          exact congrArg wideV (by omega)))))
theorem tup3w {z r z' r' : Int} (e1 : z = z') (e2 : r = r') : packV [wideV z, .int .i64 r, .int .i64 0] = .tuple #[wideV z', .int .i64 r', .int .i64 0] := by
  subst e1 e2; rfl
set_option maxHeartbeats 2000000 in
theorem r_Div (x b : Int) (hx : -4611686018427387904 ≤ x ∧ x ≤ 4611686018427387904) (hb : 0 < b ∧ b < 9223372036854775808) : Ans Tryz.prog 83 [wideV x, .int .i64 b] (.tuple #[wideV (x / b), .int .i64 (x % b), .int .i64 0]) := by
  obtain ⟨X, hX1, hX2⟩ : ∃ X : Int, (x < 0 → X = -x) ∧ (¬ x < 0 → X = x) := ⟨if x < 0 then -x else x, fun h => if_pos h, fun h => if_neg h⟩
  have hX : 0 ≤ X ∧ X ≤ 4611686018427387904 := by omega
  have h0 := DivQ.start hb hX
  refine ans_of Tryz.func83 rfl Tryz.ntmps83 Tryz.results83 rfl rfl fun w => ?_
  refine v_seq ?_
  refine v_region ?_
  refine l_new rfl (o_box (cs := [_, _]) rfl rfl) fun b2 => ?_
  refine l_new rfl o_alloc fun b4 => ?_
  refine l_val rfl (o_assign rfl) ?_
  refine l_val rfl (o_assign rfl) ?_
  refine l_nil ?_
  refine kt_norm ?_
  refine v_seq ?_
  refine v_seq ?_
  refine v_region ?_
  refine l_val rfl (o_move rfl) ?_
  refine l_split rfl (o_leq rfl rfl) (fun q1 => absurd q1 (by omega)) (fun q1 => ?_)
  refine l_nil ?_
  refine kt_norm ?_
  refine v_condF rfl ?_
  refine v_skip ?_
  refine kt_norm ?_
  refine v_seq ?_
  refine v_region ?_
  refine l_val rfl (o_fld rfl) ?_
  refine l_val rfl (o_load1 (key := 2) rfl rfl rfl) ?_
  refine l_split rfl (o_lss rfl rfl) (fun q2 => ?_) (fun q2 => ?_)
  · skip
    refine l_val rfl (o_assign rfl) ?_
    refine l_nil ?_
    refine kt_norm ?_
    refine v_sel [1, 2, 4, 7] [2, 4] rfl rfl ?_
    refine v_seq ?_
    refine v_seq ?_
    refine v_region ?_
    refine l_val rfl (o_move rfl) ?_
    refine l_nil ?_
    refine kt_norm ?_
    refine v_condT rfl ?_
    refine v_region ?_
    refine l_val rfl (o_loadW (key := 2) rfl rfl rfl) ?_
    refine l_ans (vs := [_]) rfl rfl (r_neg _ ?_) ?_
    · omega
    refine l_store rfl (o_storeW (key := 2) (xs := [_, _]) rfl rfl rfl rfl rfl rfl rfl) ?_
    refine l_nil ?_
    refine kt_norm ?_
    refine v_seq ?_
    refine v_region ?_
    refine l_val rfl (o_fld rfl) ?_
    refine l_val rfl (o_load1 (key := 2) rfl rfl rfl) ?_
    refine l_val rfl (o_convu rfl) ?_
    refine l_val rfl (o_assign rfl) ?_
    refine l_nil ?_
    refine kt_norm ?_
    refine v_sel [1, 2, 4, 7, 8] [2, 4] rfl rfl ?_
    refine v_seq ?_
    refine v_region ?_
    refine l_val rfl (o_fld rfl) ?_
    refine l_val rfl (o_load1 (key := 2) rfl rfl rfl) ?_
    refine l_val rfl (o_assign rfl) ?_
    refine l_nil ?_
    refine kt_norm ?_
    refine v_seq ?_
    refine v_region ?_
    refine l_val rfl (o_build (vs := []) (cs := [_, _]) rfl rfl) ?_
    refine l_new rfl o_alloc fun b10 => ?_
    refine l_store rfl (o_storeW (key := 10) (xs := [_, _]) rfl rfl rfl rfl rfl rfl rfl) ?_
    refine l_nil ?_
    refine kt_norm ?_
    refine v_seq ?_
    refine v_region ?_
    refine l_val rfl (o_assign rfl) ?_
    refine l_nil ?_
    refine kt_norm ?_
    refine v_seq ?_
    refine v_seq ?_
    refine v_region ?_
    refine l_val rfl (o_assign rfl) ?_
    refine l_nil ?_
    refine kt_norm ?_
    refine v_block ?_
    refine v_loopS (α := Nat × Int × Int × Int × Int) (fun ⟨i, left, hi, lo, q⟩ => [(12, .int .i64 (i : Int)), (11, .int .u64 left), (8, .int .u64 hi), (9, .int .u64 lo)]) (fun ⟨i, left, hi, lo, q⟩ => [(10, Hp.box b10 137 [.int .i64 (q / 18446744073709551616), .int .u64 (q % 18446744073709551616)])])  (fun ⟨i, left, hi, lo, q⟩ => DivQ X b i left hi lo q) (fun ⟨i, left, hi, lo, q⟩ => 128 - i) (0, 0, X / 18446744073709551616, X % 18446744073709551616, 0) [1, 4, 7, 10] [4] h0  (And.intro rfl (And.intro rfl (And.intro (congrArg (fun q => some (Value.int .u64 q)) (by omega)) (And.intro (congrArg (fun q => some (Value.int .u64 q)) (by omega)) (True.intro))))) rfl (And.intro rfl (True.intro)) rfl ?_
    rintro ⟨i, left, hi, lo, q⟩ hQ
    refine v_seq ?_
    refine v_seq ?_
    refine v_region ?_
    have hl1 := hQ.hl; have hh1 := hQ.hh; have ho1 := hQ.hlo; have hq1 := hQ.hq; have hqx := hQ.qX; have hle := hQ.le
    refine l_val rfl (o_move rfl) ?_
    refine l_split rfl (o_lss rfl rfl) (fun q3 => ?_) (fun q3 => ?_)
    · skip
      refine l_nil ?_
      refine kt_norm ?_
      refine v_condT rfl ?_
      refine v_skip ?_
      refine kt_norm ?_
      refine v_seq ?_
      refine v_block ?_
      refine v_seq ?_
      refine v_region ?_
      refine l_val rfl (o_move rfl) ?_
      refine l_val rfl (o_mulu rfl rfl) ?_
      refine l_val rfl (o_move rfl) ?_
      refine l_val rfl (o_quon rfl rfl ?_ ?_) ?_
      · omega
      · exact wrap_u64 (by omega)
      refine l_val rfl (o_addu rfl rfl) ?_
      refine l_val rfl (o_assign rfl) ?_
      refine l_nil ?_
      refine kt_norm ?_
      refine v_sel [12, 11, 8, 9, 1, 4, 7, 10] [4, 10] rfl rfl ?_
      refine v_seq ?_
      refine v_region ?_
      refine l_val rfl (o_move rfl) ?_
      refine l_val rfl (o_mulu rfl rfl) ?_
      refine l_val rfl (o_move rfl) ?_
      refine l_val rfl (o_quon rfl rfl ?_ ?_) ?_
      · omega
      · exact wrap_u64 (by omega)
      refine l_val rfl (o_addu rfl rfl) ?_
      refine l_val rfl (o_assign rfl) ?_
      refine l_nil ?_
      refine kt_norm ?_
      refine v_seq ?_
      refine v_region ?_
      refine l_val rfl (o_move rfl) ?_
      refine l_val rfl (o_mulu rfl rfl) ?_
      refine l_val rfl (o_assign rfl) ?_
      refine l_nil ?_
      refine kt_norm ?_
      refine v_sel [12, 11, 8, 9, 1, 4, 7, 10] [4, 10] rfl rfl ?_
      refine v_seq ?_
      refine v_region ?_
      refine l_val rfl (o_loadW (key := 10) rfl rfl rfl) ?_
      refine l_val rfl (o_loadW (key := 10) rfl rfl rfl) ?_
      refine l_ans (vs := [_, _]) rfl rfl (r_Add _ _ ?_ ?_ ?_) ?_
      · omega
      · omega
      · omega
      refine l_store rfl (o_storeW (key := 10) (xs := [_, _]) rfl rfl rfl rfl rfl rfl rfl) ?_
      refine l_nil ?_
      refine kt_norm ?_
      refine v_seq ?_
      refine v_region ?_
      refine l_val rfl (o_move rfl) ?_
      refine l_val rfl (o_move rfl) ?_
      refine l_val rfl (o_convu rfl) ?_
      refine l_split rfl (o_geq rfl rfl) (fun q4 => ?_) (fun q4 => ?_)
      · skip
        refine l_nil ?_
        refine kt_norm ?_
        refine v_sel [12, 11, 8, 9, 1, 4, 7, 10, 50] [4, 10] rfl rfl ?_
        refine v_condT rfl ?_
        refine v_seq ?_
        refine v_region ?_
        refine l_val rfl (o_move rfl) ?_
        refine l_val rfl (o_move rfl) ?_
        refine l_val rfl (o_convu rfl) ?_
        refine l_val rfl (o_subu rfl rfl) ?_
        refine l_val rfl (o_assign rfl) ?_
        refine l_nil ?_
        refine kt_norm ?_
        refine v_drawZ [[10], [], [], [10]] mixed ?_ (by kernel_rfl) (by kernel_rfl)
        refine d_val (fun _ => rfl) rfl rfl (fun _ => o_loadW (key := 10) rfl rfl rfl) ?_
        refine d_ans (vs := [_]) (fun _ => rfl) (fun _ => rfl) (r_Of _ ?_) ?_
        · omega
        refine d_ans (vs := [_, _]) (fun _ => rfl) (fun _ => rfl) (r_Add _ _ ?_ ?_ ?_) ?_
        · omega
        · omega
        · omega
        refine d_store (fun _ => rfl) rfl rfl (fun _ => o_storeW (key := 10) (xs := [_, _]) rfl rfl rfl rfl rfl rfl rfl) ?_
        refine d_nil (fun σ => ?_)
        refine l_nil ?_
        refine kb_norm ?_
        refine kt_norm ?_
        refine v_sel [12, 11, 8, 9, 1, 4, 7, 10] [4, 10] rfl rfl ?_
        refine v_region ?_
        refine l_val rfl (o_move rfl) ?_
        refine l_val rfl (o_addi rfl rfl ?_) ?_
        · omega
        refine l_val rfl (o_assign rfl) ?_
        refine l_nil ?_
        refine kt_norm ?_
        refine ⟨(i + 1, left * 2 + hi / 9223372036854775808 - b, hi * 2 % 18446744073709551616 + lo / 9223372036854775808, lo * 2 % 18446744073709551616, q + q + 1), hQ.big (by omega) (by omega), (by show 128 - (i + 1) < 128 - i; omega), le_app (And.intro rfl (And.intro (congrArg (fun q => some (Value.int .u64 q)) (by omega)) (And.intro (congrArg (fun q => some (Value.int .u64 q)) (by omega)) (And.intro rfl (True.intro))))) [1, 4, 7, 10] rfl (And.intro rfl (True.intro)) [4] rfl⟩
      · skip
        refine l_nil ?_
        refine kt_norm ?_
        refine v_sel [12, 11, 8, 9, 1, 4, 7, 10, 50] [4, 10] rfl rfl ?_
        refine v_condF rfl ?_
        refine v_skip ?_
        refine kb_norm ?_
        refine kt_norm ?_
        refine v_region ?_
        refine l_val rfl (o_move rfl) ?_
        refine l_val rfl (o_addi rfl rfl ?_) ?_
        · omega
        refine l_val rfl (o_assign rfl) ?_
        refine l_nil ?_
        refine kt_norm ?_
        refine ⟨(i + 1, left * 2 + hi / 9223372036854775808, hi * 2 % 18446744073709551616 + lo / 9223372036854775808, lo * 2 % 18446744073709551616, q + q), hQ.small (by omega) (by omega), (by show 128 - (i + 1) < 128 - i; omega), le_app (And.intro rfl (And.intro (congrArg (fun q => some (Value.int .u64 q)) (by omega)) (And.intro (congrArg (fun q => some (Value.int .u64 q)) (by omega)) (And.intro rfl (True.intro))))) [1, 4, 7, 10] rfl (And.intro rfl (True.intro)) [4] rfl⟩
    · skip
      refine l_nil ?_
      refine kt_norm ?_
      refine v_condF rfl ?_
      refine v_exit ?_
      refine kt_exit ?_
      refine kt_exit ?_
      refine kb_eq ?_
      refine kt_norm ?_
      refine v_seq ?_
      refine v_seq ?_
      refine v_region ?_
      have hd := hQ.done (by omega)
      refine l_val rfl (o_move rfl) ?_
      refine l_val rfl (o_move rfl) ?_
      refine l_val rfl (o_move rfl) ?_
      refine l_split rfl (o_gtr rfl rfl) (fun q5 => ?_) (fun q5 => ?_)
      · skip
        refine l_val rfl (o_pickT rfl rfl) ?_
        refine l_nil ?_
        refine kt_norm ?_
        refine v_sel [11, 1, 4, 7, 10, 62] [4, 10] rfl rfl ?_
        refine v_condT rfl ?_
        refine v_seq ?_
        refine v_region ?_
        refine l_val rfl (o_loadW (key := 10) rfl rfl rfl) ?_
        refine l_ans (vs := [_]) rfl rfl (r_neg _ ?_) ?_
        · omega
        refine l_ans (vs := [_]) rfl rfl (r_Of _ ?_) ?_
        · omega
        refine l_ans (vs := [_, _]) rfl rfl (r_Sub _ _ ?_ ?_) ?_
        · omega
        · omega
        refine l_val rfl (o_move rfl) ?_
        refine l_val rfl (o_move rfl) ?_
        refine l_val rfl (o_convi rfl ?_) ?_
        · omega
        refine l_val rfl (o_subi rfl rfl ?_) ?_
        · omega
        refine l_store rfl (o_storeW (key := 4) (xs := [_, _]) rfl rfl rfl rfl rfl rfl rfl) ?_
        refine l_val rfl (o_assign rfl) ?_
        refine l_val rfl (o_assign rfl) ?_
        refine l_nil ?_
        refine kt_norm ?_
        refine v_sel [4, 5, 6] [4] rfl rfl ?_
        refine v_ret ?_
        refine kt_ret ?_
        refine ⟨[_, _, _], .cons (.cellW (key := 4) rfl rfl rfl) (.cons (.tmp rfl) (.cons (.tmp rfl) (ResAll.nil))), ?_⟩
        first
          | (obtain ⟨n1, n2⟩ := div_neg1 (x := x) hb.1 (q := q) (left := left) (by omega) (by omega); refine tup3w (by omega) ?_ <;> omega)
          | (obtain ⟨n1, n2⟩ := div_neg0 (x := x) hb.1 (q := q) (left := left) (by omega) (by omega); refine tup3w (by omega) ?_ <;> omega)
          | (obtain ⟨n1, n2⟩ := div_pos (x := x) hb.1 (q := q) (left := left) (by omega) (by omega); refine tup3w (by omega) ?_ <;> omega)
      · skip
        refine l_val rfl (o_pickT rfl rfl) ?_
        refine l_nil ?_
        refine kt_norm ?_
        refine v_sel [11, 1, 4, 7, 10, 62] [4, 10] rfl rfl ?_
        refine v_condF rfl ?_
        refine v_skip ?_
        refine kt_norm ?_
        refine v_seq ?_
        refine v_seq ?_
        refine v_region ?_
        refine l_val rfl (o_move rfl) ?_
        refine l_nil ?_
        refine kt_norm ?_
        refine v_condT rfl ?_
        refine v_seq ?_
        refine v_region ?_
        refine l_val rfl (o_loadW (key := 10) rfl rfl rfl) ?_
        refine l_ans (vs := [_]) rfl rfl (r_neg _ ?_) ?_
        · omega
        refine l_store rfl (o_storeW (key := 4) (xs := [_, _]) rfl rfl rfl rfl rfl rfl rfl) ?_
        refine l_val rfl (o_assign rfl) ?_
        refine l_val rfl (o_assign rfl) ?_
        refine l_nil ?_
        refine kt_norm ?_
        refine v_sel [4, 5, 6] [4] rfl rfl ?_
        refine v_ret ?_
        refine kt_ret ?_
        refine ⟨[_, _, _], .cons (.cellW (key := 4) rfl rfl rfl) (.cons (.tmp rfl) (.cons (.tmp rfl) (ResAll.nil))), ?_⟩
        first
          | (obtain ⟨n1, n2⟩ := div_neg1 (x := x) hb.1 (q := q) (left := left) (by omega) (by omega); refine tup3w (by omega) ?_ <;> omega)
          | (obtain ⟨n1, n2⟩ := div_neg0 (x := x) hb.1 (q := q) (left := left) (by omega) (by omega); refine tup3w (by omega) ?_ <;> omega)
          | (obtain ⟨n1, n2⟩ := div_pos (x := x) hb.1 (q := q) (left := left) (by omega) (by omega); refine tup3w (by omega) ?_ <;> omega)
  · skip
    refine l_val rfl (o_assign rfl) ?_
    refine l_nil ?_
    refine kt_norm ?_
    refine v_sel [1, 2, 4, 7] [2, 4] rfl rfl ?_
    refine v_seq ?_
    refine v_seq ?_
    refine v_region ?_
    refine l_val rfl (o_move rfl) ?_
    refine l_nil ?_
    refine kt_norm ?_
    refine v_condF rfl ?_
    refine v_skip ?_
    refine kt_norm ?_
    refine v_seq ?_
    refine v_region ?_
    refine l_val rfl (o_fld rfl) ?_
    refine l_val rfl (o_load1 (key := 2) rfl rfl rfl) ?_
    refine l_val rfl (o_convu rfl) ?_
    refine l_val rfl (o_assign rfl) ?_
    refine l_nil ?_
    refine kt_norm ?_
    refine v_seq ?_
    refine v_region ?_
    refine l_val rfl (o_fld rfl) ?_
    refine l_val rfl (o_load1 (key := 2) rfl rfl rfl) ?_
    refine l_val rfl (o_assign rfl) ?_
    refine l_nil ?_
    refine kt_norm ?_
    refine v_sel [1, 4, 7, 8, 9] [4] rfl rfl ?_
    refine v_seq ?_
    refine v_region ?_
    refine l_val rfl (o_build (vs := []) (cs := [_, _]) rfl rfl) ?_
    refine l_new rfl o_alloc fun b10 => ?_
    refine l_store rfl (o_storeW (key := 10) (xs := [_, _]) rfl rfl rfl rfl rfl rfl rfl) ?_
    refine l_nil ?_
    refine kt_norm ?_
    refine v_seq ?_
    refine v_region ?_
    refine l_val rfl (o_assign rfl) ?_
    refine l_nil ?_
    refine kt_norm ?_
    refine v_seq ?_
    refine v_seq ?_
    refine v_region ?_
    refine l_val rfl (o_assign rfl) ?_
    refine l_nil ?_
    refine kt_norm ?_
    refine v_block ?_
    refine v_loopS (α := Nat × Int × Int × Int × Int) (fun ⟨i, left, hi, lo, q⟩ => [(12, .int .i64 (i : Int)), (11, .int .u64 left), (8, .int .u64 hi), (9, .int .u64 lo)]) (fun ⟨i, left, hi, lo, q⟩ => [(10, Hp.box b10 137 [.int .i64 (q / 18446744073709551616), .int .u64 (q % 18446744073709551616)])])  (fun ⟨i, left, hi, lo, q⟩ => DivQ X b i left hi lo q) (fun ⟨i, left, hi, lo, q⟩ => 128 - i) (0, 0, X / 18446744073709551616, X % 18446744073709551616, 0) [1, 4, 7, 10] [4] h0  (And.intro rfl (And.intro rfl (And.intro (congrArg (fun q => some (Value.int .u64 q)) (by omega)) (And.intro (congrArg (fun q => some (Value.int .u64 q)) (by omega)) (True.intro))))) rfl (And.intro rfl (True.intro)) rfl ?_
    rintro ⟨i, left, hi, lo, q⟩ hQ
    refine v_seq ?_
    refine v_seq ?_
    refine v_region ?_
    have hl1 := hQ.hl; have hh1 := hQ.hh; have ho1 := hQ.hlo; have hq1 := hQ.hq; have hqx := hQ.qX; have hle := hQ.le
    refine l_val rfl (o_move rfl) ?_
    refine l_split rfl (o_lss rfl rfl) (fun q6 => ?_) (fun q6 => ?_)
    · skip
      refine l_nil ?_
      refine kt_norm ?_
      refine v_condT rfl ?_
      refine v_skip ?_
      refine kt_norm ?_
      refine v_seq ?_
      refine v_block ?_
      refine v_seq ?_
      refine v_region ?_
      refine l_val rfl (o_move rfl) ?_
      refine l_val rfl (o_mulu rfl rfl) ?_
      refine l_val rfl (o_move rfl) ?_
      refine l_val rfl (o_quon rfl rfl ?_ ?_) ?_
      · omega
      · exact wrap_u64 (by omega)
      refine l_val rfl (o_addu rfl rfl) ?_
      refine l_val rfl (o_assign rfl) ?_
      refine l_nil ?_
      refine kt_norm ?_
      refine v_sel [12, 11, 8, 9, 1, 4, 7, 10] [4, 10] rfl rfl ?_
      refine v_seq ?_
      refine v_region ?_
      refine l_val rfl (o_move rfl) ?_
      refine l_val rfl (o_mulu rfl rfl) ?_
      refine l_val rfl (o_move rfl) ?_
      refine l_val rfl (o_quon rfl rfl ?_ ?_) ?_
      · omega
      · exact wrap_u64 (by omega)
      refine l_val rfl (o_addu rfl rfl) ?_
      refine l_val rfl (o_assign rfl) ?_
      refine l_nil ?_
      refine kt_norm ?_
      refine v_seq ?_
      refine v_region ?_
      refine l_val rfl (o_move rfl) ?_
      refine l_val rfl (o_mulu rfl rfl) ?_
      refine l_val rfl (o_assign rfl) ?_
      refine l_nil ?_
      refine kt_norm ?_
      refine v_sel [12, 11, 8, 9, 1, 4, 7, 10] [4, 10] rfl rfl ?_
      refine v_seq ?_
      refine v_region ?_
      refine l_val rfl (o_loadW (key := 10) rfl rfl rfl) ?_
      refine l_val rfl (o_loadW (key := 10) rfl rfl rfl) ?_
      refine l_ans (vs := [_, _]) rfl rfl (r_Add _ _ ?_ ?_ ?_) ?_
      · omega
      · omega
      · omega
      refine l_store rfl (o_storeW (key := 10) (xs := [_, _]) rfl rfl rfl rfl rfl rfl rfl) ?_
      refine l_nil ?_
      refine kt_norm ?_
      refine v_seq ?_
      refine v_region ?_
      refine l_val rfl (o_move rfl) ?_
      refine l_val rfl (o_move rfl) ?_
      refine l_val rfl (o_convu rfl) ?_
      refine l_split rfl (o_geq rfl rfl) (fun q7 => ?_) (fun q7 => ?_)
      · skip
        refine l_nil ?_
        refine kt_norm ?_
        refine v_sel [12, 11, 8, 9, 1, 4, 7, 10, 50] [4, 10] rfl rfl ?_
        refine v_condT rfl ?_
        refine v_seq ?_
        refine v_region ?_
        refine l_val rfl (o_move rfl) ?_
        refine l_val rfl (o_move rfl) ?_
        refine l_val rfl (o_convu rfl) ?_
        refine l_val rfl (o_subu rfl rfl) ?_
        refine l_val rfl (o_assign rfl) ?_
        refine l_nil ?_
        refine kt_norm ?_
        refine v_drawZ [[10], [], [], [10]] mixed ?_ (by kernel_rfl) (by kernel_rfl)
        refine d_val (fun _ => rfl) rfl rfl (fun _ => o_loadW (key := 10) rfl rfl rfl) ?_
        refine d_ans (vs := [_]) (fun _ => rfl) (fun _ => rfl) (r_Of _ ?_) ?_
        · omega
        refine d_ans (vs := [_, _]) (fun _ => rfl) (fun _ => rfl) (r_Add _ _ ?_ ?_ ?_) ?_
        · omega
        · omega
        · omega
        refine d_store (fun _ => rfl) rfl rfl (fun _ => o_storeW (key := 10) (xs := [_, _]) rfl rfl rfl rfl rfl rfl rfl) ?_
        refine d_nil (fun σ => ?_)
        refine l_nil ?_
        refine kb_norm ?_
        refine kt_norm ?_
        refine v_sel [12, 11, 8, 9, 1, 4, 7, 10] [4, 10] rfl rfl ?_
        refine v_region ?_
        refine l_val rfl (o_move rfl) ?_
        refine l_val rfl (o_addi rfl rfl ?_) ?_
        · omega
        refine l_val rfl (o_assign rfl) ?_
        refine l_nil ?_
        refine kt_norm ?_
        refine ⟨(i + 1, left * 2 + hi / 9223372036854775808 - b, hi * 2 % 18446744073709551616 + lo / 9223372036854775808, lo * 2 % 18446744073709551616, q + q + 1), hQ.big (by omega) (by omega), (by show 128 - (i + 1) < 128 - i; omega), le_app (And.intro rfl (And.intro (congrArg (fun q => some (Value.int .u64 q)) (by omega)) (And.intro (congrArg (fun q => some (Value.int .u64 q)) (by omega)) (And.intro rfl (True.intro))))) [1, 4, 7, 10] rfl (And.intro rfl (True.intro)) [4] rfl⟩
      · skip
        refine l_nil ?_
        refine kt_norm ?_
        refine v_sel [12, 11, 8, 9, 1, 4, 7, 10, 50] [4, 10] rfl rfl ?_
        refine v_condF rfl ?_
        refine v_skip ?_
        refine kb_norm ?_
        refine kt_norm ?_
        refine v_region ?_
        refine l_val rfl (o_move rfl) ?_
        refine l_val rfl (o_addi rfl rfl ?_) ?_
        · omega
        refine l_val rfl (o_assign rfl) ?_
        refine l_nil ?_
        refine kt_norm ?_
        refine ⟨(i + 1, left * 2 + hi / 9223372036854775808, hi * 2 % 18446744073709551616 + lo / 9223372036854775808, lo * 2 % 18446744073709551616, q + q), hQ.small (by omega) (by omega), (by show 128 - (i + 1) < 128 - i; omega), le_app (And.intro rfl (And.intro (congrArg (fun q => some (Value.int .u64 q)) (by omega)) (And.intro (congrArg (fun q => some (Value.int .u64 q)) (by omega)) (And.intro rfl (True.intro))))) [1, 4, 7, 10] rfl (And.intro rfl (True.intro)) [4] rfl⟩
    · skip
      refine l_nil ?_
      refine kt_norm ?_
      refine v_condF rfl ?_
      refine v_exit ?_
      refine kt_exit ?_
      refine kt_exit ?_
      refine kb_eq ?_
      refine kt_norm ?_
      refine v_seq ?_
      refine v_seq ?_
      refine v_region ?_
      have hd := hQ.done (by omega)
      refine l_val rfl (o_move rfl) ?_
      refine l_val rfl (o_move rfl) ?_
      refine l_no rfl ?_
      refine l_no rfl ?_
      refine l_val rfl (o_pickF rfl rfl) ?_
      refine l_nil ?_
      refine kt_norm ?_
      refine v_sel [11, 1, 4, 7, 10, 62] [4, 10] rfl rfl ?_
      refine v_condF rfl ?_
      refine v_skip ?_
      refine kt_norm ?_
      refine v_seq ?_
      refine v_seq ?_
      refine v_region ?_
      refine l_val rfl (o_move rfl) ?_
      refine l_nil ?_
      refine kt_norm ?_
      refine v_condF rfl ?_
      refine v_skip ?_
      refine kt_norm ?_
      refine v_seq ?_
      refine v_region ?_
      refine l_val rfl (o_loadW (key := 10) rfl rfl rfl) ?_
      refine l_val rfl (o_move rfl) ?_
      refine l_val rfl (o_convi rfl ?_) ?_
      · omega
      refine l_store rfl (o_storeW (key := 4) (xs := [_, _]) rfl rfl rfl rfl rfl rfl rfl) ?_
      refine l_val rfl (o_assign rfl) ?_
      refine l_val rfl (o_assign rfl) ?_
      refine l_nil ?_
      refine kt_norm ?_
      refine v_sel [4, 5, 6] [4] rfl rfl ?_
      refine v_ret ?_
      refine ⟨[_, _, _], .cons (.cellW (key := 4) rfl rfl rfl) (.cons (.tmp rfl) (.cons (.tmp rfl) (ResAll.nil))), ?_⟩
      first
        | (obtain ⟨n1, n2⟩ := div_neg1 (x := x) hb.1 (q := q) (left := left) (by omega) (by omega); refine tup3w (by omega) ?_ <;> omega)
        | (obtain ⟨n1, n2⟩ := div_neg0 (x := x) hb.1 (q := q) (left := left) (by omega) (by omega); refine tup3w (by omega) ?_ <;> omega)
        | (obtain ⟨n1, n2⟩ := div_pos (x := x) hb.1 (q := q) (left := left) (by omega) (by omega); refine tup3w (by omega) ?_ <;> omega)
theorem r_Narrow (x : Int) (hx : -9223372036854775808 ≤ x ∧ x < 9223372036854775808) : Ans Tryz.prog 105 [wideV x] (.tuple #[.int .i64 x, .bool true]) := by
  refine ans_of Tryz.func105 rfl Tryz.ntmps105 Tryz.results105 rfl rfl fun w => ?_
  refine v_seq ?_
  refine v_region ?_
  refine l_new rfl (o_box (cs := [_, _]) rfl rfl) fun b1 => ?_
  refine l_val rfl (o_assign rfl) ?_
  refine l_val rfl (o_assign rfl) ?_
  refine l_nil ?_
  refine kt_norm ?_
  refine v_seq ?_
  refine v_seq ?_
  refine v_drawZ [[1], [], [1], [], [], []] mixed ?_ (by kernel_rfl) (by kernel_rfl)
  refine d_val (fun _ => rfl) rfl rfl (fun _ => o_loadW (key := 1) rfl rfl rfl) ?_
  refine d_val (fun _ => rfl) rfl rfl (fun _ => o_fld rfl) ?_
  refine d_val (fun _ => rfl) rfl rfl (fun _ => o_load1 (key := 1) rfl rfl rfl) ?_
  refine d_val (fun _ => rfl) rfl rfl (fun _ => o_convm rfl) ?_
  refine d_ans (vs := [_]) (fun _ => rfl) (fun _ => rfl) (r_Of _ ?_) ?_
  · omega
  refine d_neqs (xl := [_, _]) (yl := [_, _]) (az := [_, _]) (bz := [_, _]) (fun _ => rfl) (fun _ => rfl) (fun _ => rfl) rfl rfl rfl rfl (fun q1 => ?_) (fun q1 => ?_)
  · simp only [List.map_cons, List.map_nil, List.cons.injEq, and_true, Decidable.not_not] at q1
    first
    | (exfalso; omega; done)
    | (
        refine d_nil (fun σ => ?_)
        refine l_nil ?_
        refine kt_norm ?_
        refine v_sel [1, 9] [1] rfl rfl ?_
        refine v_condT rfl ?_
        refine v_seq ?_
        refine v_region ?_
        refine l_val rfl (o_assign rfl) ?_
        refine l_val rfl (o_assign rfl) ?_
        refine l_nil ?_
        refine kt_norm ?_
        refine v_ret ?_
        refine kt_ret ?_
        refine ⟨[_, _], .cons (.tmp rfl) (.cons (.tmp rfl) (ResAll.nil)), ?_⟩
        show Value.tuple #[.int .i64 _, .bool true] = _
        rw [show (x % 18446744073709551616 + 9223372036854775808) % 18446744073709551616 - 9223372036854775808 = x by omega])
  · simp only [List.map_cons, List.map_nil, List.cons.injEq, and_true, Decidable.not_not] at q1
    first
    | (exfalso; omega; done)
    | (
        refine d_nil (fun σ => ?_)
        refine l_nil ?_
        refine kt_norm ?_
        refine v_sel [1, 9] [1] rfl rfl ?_
        refine v_condF rfl ?_
        refine v_skip ?_
        refine kt_norm ?_
        refine v_seq ?_
        refine v_region ?_
        refine l_val rfl (o_fld rfl) ?_
        refine l_val rfl (o_load1 (key := 1) rfl rfl rfl) ?_
        refine l_val rfl (o_convm rfl) ?_
        refine l_val rfl (o_assign rfl) ?_
        refine l_val rfl (o_assign rfl) ?_
        refine l_nil ?_
        refine kt_norm ?_
        refine v_ret ?_
        refine ⟨[_, _], .cons (.tmp rfl) (.cons (.tmp rfl) (ResAll.nil)), ?_⟩
        show Value.tuple #[.int .i64 _, .bool true] = _
        rw [show (x % 18446744073709551616 + 9223372036854775808) % 18446744073709551616 - 9223372036854775808 = x by omega])
theorem r_narrow (x : Int) (hx : -9223372036854775808 ≤ x ∧ x < 9223372036854775808) : Ans Tryz.prog 85 [wideV x] (.tuple #[.int .i64 x, .int .i64 0]) := by
  refine ans_of Tryz.func85 rfl Tryz.ntmps85 Tryz.results85 rfl rfl fun w => ?_
  refine v_seq ?_
  refine v_region ?_
  refine l_new rfl (o_box (cs := [_, _]) rfl rfl) fun b1 => ?_
  refine l_val rfl (o_assign rfl) ?_
  refine l_val rfl (o_assign rfl) ?_
  refine l_nil ?_
  refine kt_norm ?_
  refine v_seq ?_
  refine v_region ?_
  refine l_val rfl (o_loadW (key := 1) rfl rfl rfl) ?_
  refine l_ans (vs := [_]) rfl rfl (r_Narrow _ ?_) ?_
  · omega
  refine l_val rfl (o_move rfl) ?_
  refine l_val rfl (o_extract rfl rfl) ?_
  refine l_val rfl (o_extract rfl rfl) ?_
  refine l_val rfl (o_assign rfl) ?_
  refine l_val rfl (o_assign rfl) ?_
  refine l_nil ?_
  refine kt_norm ?_
  refine v_sel [4, 5] [] rfl rfl ?_
  refine v_seq ?_
  refine v_seq ?_
  refine v_region ?_
  refine l_val rfl (o_move rfl) ?_
  refine l_val rfl (o_not rfl rfl) ?_
  refine l_nil ?_
  refine kt_norm ?_
  refine v_condF rfl ?_
  refine v_skip ?_
  refine kt_norm ?_
  refine v_seq ?_
  refine v_region ?_
  refine l_val rfl (o_move rfl) ?_
  refine l_val rfl (o_assign rfl) ?_
  refine l_val rfl (o_assign rfl) ?_
  refine l_nil ?_
  refine kt_norm ?_
  refine v_ret ?_
  refine ⟨[_, _], .cons (.tmp rfl) (.cons (.tmp rfl) (ResAll.nil)), ?_⟩
  rfl
theorem r_Scale (a b c : Int) (ha : -9223372036854775808 ≤ a ∧ a < 9223372036854775808) (hb : -9223372036854775808 ≤ b ∧ b < 9223372036854775808) (hp : -4611686018427387904 ≤ a * b ∧ a * b ≤ 4611686018427387904) (hc : 0 < c ∧ c < 9223372036854775808) : Ans Tryz.prog 62 [.int .i64 a, .int .i64 b, .int .i64 c] (.tuple #[.int .i64 (a * b / c), .int .i64 0]) := by
  have d1 := ediv_bound (B := 4611686018427387904) (x := a * b) (c := c) (by omega) hp.1 hp.2 hc.1
  refine ans_of Tryz.func62 rfl Tryz.ntmps62 Tryz.results62 rfl rfl fun w => ?_
  refine v_seq ?_
  refine v_region ?_
  refine l_val rfl (o_assign rfl) ?_
  refine l_val rfl (o_assign rfl) ?_
  refine l_nil ?_
  refine kt_norm ?_
  refine v_seq ?_
  refine v_region ?_
  refine l_val rfl (o_move rfl) ?_
  refine l_val rfl (o_move rfl) ?_
  refine l_ans (vs := [_, _]) rfl rfl (r_Mul _ _ ?_ ?_) ?_
  · omega
  · omega
  refine l_val rfl (o_move rfl) ?_
  refine l_ans (vs := [_, _]) rfl rfl (r_Div _ _ ?_ ?_) ?_
  · omega
  · omega
  refine l_val rfl (o_move rfl) ?_
  refine l_val rfl (o_extract rfl rfl) ?_
  refine l_val rfl (o_extract rfl rfl) ?_
  refine l_val rfl (o_extract rfl rfl) ?_
  refine l_new rfl o_alloc fun b8 => ?_
  refine l_store rfl (o_storeW (key := 8) (xs := [_, _]) rfl rfl rfl rfl rfl rfl rfl) ?_
  refine l_val rfl (o_assign rfl) ?_
  refine l_val rfl (o_assign rfl) ?_
  refine l_nil ?_
  refine kt_norm ?_
  refine v_sel [8, 10] [8] rfl rfl ?_
  refine v_seq ?_
  refine v_seq ?_
  refine v_region ?_
  refine l_val rfl (o_move rfl) ?_
  refine l_split rfl (o_neq rfl rfl) (fun q1 => absurd q1 (by omega)) (fun q1 => ?_)
  refine l_nil ?_
  refine kt_norm ?_
  refine v_condF rfl ?_
  refine v_skip ?_
  refine kt_norm ?_
  refine v_seq ?_
  refine v_region ?_
  refine l_val rfl (o_loadW (key := 8) rfl rfl rfl) ?_
  refine l_ans (vs := [_]) rfl rfl (r_narrow _ ?_) ?_
  · omega
  refine l_val rfl (o_extract rfl rfl) ?_
  refine l_val rfl (o_extract rfl rfl) ?_
  refine l_val rfl (o_assign rfl) ?_
  refine l_val rfl (o_assign rfl) ?_
  refine l_nil ?_
  refine kt_norm ?_
  refine v_sel [6, 7] [] rfl rfl ?_
  refine v_ret ?_
  refine ⟨[_, _], .cons (.tmp rfl) (.cons (.tmp rfl) (ResAll.nil)), ?_⟩
  rfl
theorem r_At (e : EdgeT) (r : Int) (hr : -1073741824 ≤ r ∧ r ≤ 1073741824) (hx : -1099511627776 ≤ e.x ∧ e.x ≤ 1099511627776) (hy : -1099511627776 ≤ e.y ∧ e.y ≤ 1099511627776) (hd : -1099511627776 ≤ e.dx ∧ e.dx ≤ 1099511627776) (hdy : 0 < e.dy ∧ e.dy ≤ 1099511627776) (hp : -4611686018427387904 ≤ (16 * r + 8 - e.y) * e.dx ∧ (16 * r + 8 - e.y) * e.dx ≤ 4611686018427387904) : Ans Tryz.prog 35 [.agg #[.int .i64 e.x, .int .i64 e.y, .int .i64 e.dx, .int .i64 e.dy, .int .i64 e.wi, .int .i64 e.fr, .int .i64 e.to], .int .i64 r] (.int .i64 (atE e r)) := by
  have d1 := ediv_bound (B := 4611686018427387904) (x := (16 * r + 8 - e.y) * e.dx) (c := e.dy) (by omega) hp.1 hp.2 hdy.1
  refine ans_of Tryz.func35 rfl Tryz.ntmps35 Tryz.results35 rfl rfl fun w => ?_
  refine v_seq ?_
  refine v_region ?_
  refine l_new rfl (o_box (cs := [_, _, _, _, _, _, _]) rfl rfl) fun b2 => ?_
  refine l_val rfl (o_assign rfl) ?_
  refine l_nil ?_
  refine kt_norm ?_
  refine v_seq ?_
  refine v_region ?_
  refine l_val rfl (o_move rfl) ?_
  refine l_val rfl (o_muli rfl rfl ?_) ?_
  · omega
  refine l_val rfl (o_addi rfl rfl ?_) ?_
  · omega
  refine l_val rfl (o_fld rfl) ?_
  refine l_val rfl (o_load1 (key := 2) rfl rfl rfl) ?_
  refine l_val rfl (o_subi rfl rfl ?_) ?_
  · omega
  refine l_val rfl (o_fld rfl) ?_
  refine l_val rfl (o_load1 (key := 2) rfl rfl rfl) ?_
  refine l_val rfl (o_fld rfl) ?_
  refine l_val rfl (o_load1 (key := 2) rfl rfl rfl) ?_
  refine l_ans (vs := [_, _, _]) rfl rfl (r_Scale _ _ _ ?_ ?_ hp ?_) ?_
  · omega
  · omega
  · omega
  refine l_val rfl (o_move rfl) ?_
  refine l_val rfl (o_extract rfl rfl) ?_
  refine l_val rfl (o_extract rfl rfl) ?_
  refine l_val rfl (o_assign rfl) ?_
  refine l_val rfl (o_assign rfl) ?_
  refine l_nil ?_
  refine kt_norm ?_
  refine v_sel [2, 5] [2] rfl rfl ?_
  refine v_seq ?_
  refine v_region ?_
  refine l_val rfl (o_fld rfl) ?_
  refine l_val rfl (o_load1 (key := 2) rfl rfl rfl) ?_
  refine l_val rfl (o_move rfl) ?_
  refine l_val rfl (o_addi rfl rfl ?_) ?_
  · omega
  refine l_val rfl (o_assign rfl) ?_
  refine l_nil ?_
  refine kt_norm ?_
  refine v_sel [4] [] rfl rfl ?_
  refine v_ret ?_
  refine ⟨[_], .cons (.tmp rfl) (ResAll.nil), ?_⟩
  rfl
theorem r_AtOk {e : EdgeT} (h : EdgeOk e) {r : Int} (h1 : e.fr ≤ r) (h2 : r < e.to) : Ans Tryz.prog 35 [.agg #[.int .i64 e.x, .int .i64 e.y, .int .i64 e.dx, .int .i64 e.dy, .int .i64 e.wi, .int .i64 e.fr, .int .i64 e.to], .int .i64 r] (.int .i64 (atE e r)) := by
  have := h.x; have := h.x2; have := h.y; have := h.y2; have := h.rows; have := h.dy
  exact r_At e r (by omega) (by omega) (by omega) (by omega) (by omega) (h.prod h1 h2)
end Go.Proofs.YtaijclimdfchfaaGreat
