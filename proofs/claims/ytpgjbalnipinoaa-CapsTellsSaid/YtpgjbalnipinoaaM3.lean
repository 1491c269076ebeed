import Derived.Test.YtpgjbalnipinoaaM1
import Derived.Test.YtpgjbalnipinoaaM2
/- The numbers of 128 bits of the document, and where an edge crosses a row by it. Conditions: none. -/
namespace Go.Proofs.Ytpgjbalnipinoaa
open Go.Proofs Go.RowKit Go.Shelf

theorem mulNN {x y A B : Int} (hx : 0 ≤ x ∧ x ≤ A) (hy : 0 ≤ y ∧ y ≤ B) : 0 ≤ x * y ∧ x * y ≤ A * B :=
  ⟨Int.mul_nonneg hx.1 hy.1, Int.mul_le_mul hx.2 hy.2 hy.1 (by omega)⟩
theorem mul_split (u v : Int) : u * v = u / 4294967296 * (v / 4294967296) * 18446744073709551616 + u / 4294967296 * (v % 4294967296) * 4294967296 + u % 4294967296 * (v / 4294967296) * 4294967296 + u % 4294967296 * (v % 4294967296) := by
  have h1 : u = u / 4294967296 * 4294967296 + u % 4294967296 := by omega
  have h2 : v = v / 4294967296 * 4294967296 + v % 4294967296 := by omega
  generalize u / 4294967296 = p at *
  generalize u % 4294967296 = q at *
  generalize v / 4294967296 = r at *
  generalize v % 4294967296 = s at *
  subst h1 h2
  simp only [Int.add_mul, Int.mul_add]
  rw [show p * 4294967296 * (r * 4294967296) = p * r * 18446744073709551616 by rw [Int.mul_assoc, Int.mul_left_comm 4294967296 r, ← Int.mul_assoc, show (4294967296 : Int) * 4294967296 = 18446744073709551616 from rfl],
    show p * 4294967296 * s = p * s * 4294967296 by rw [Int.mul_assoc, Int.mul_comm 4294967296 s, ← Int.mul_assoc], show q * (r * 4294967296) = q * r * 4294967296 by rw [← Int.mul_assoc]]
  omega
/-- a long division, under way: i digits of X are taken -/
structure DivQ (X b : Int) (i : Nat) (left hi lo q : Int) : Prop where
  hb : 0 < b ∧ b < 9223372036854775808
  hX : 0 ≤ X ∧ X ≤ 4611686018427387904
  le : i ≤ 128
  hl : 0 ≤ left ∧ left < b
  hh : 0 ≤ hi ∧ hi < 18446744073709551616
  hlo : 0 ≤ lo ∧ lo < 18446744073709551616
  hq : 0 ≤ q
  eq : X * 2 ^ i = (q * b + left) * 340282366920938463463374607431768211456 + hi * 18446744073709551616 + lo
theorem DivQ.qX {X b left hi lo q : Int} {i : Nat} (h : DivQ X b i left hi lo q) : 0 ≤ q * b ∧ q ≤ q * b ∧ q * b + left ≤ X := by
  have h1 := h.eq; have h2 := h.hl; have h3 := h.hh; have h4 := h.hlo; have h5 := h.hX; have hb := h.hb
  have h6 : q * 1 ≤ q * b := Int.mul_le_mul_of_nonneg_left (by omega) h.hq
  have h0 : 0 ≤ q * b := Int.mul_nonneg h.hq (by omega)
  have h7 : (2 : Int) ^ i ≤ 2 ^ 128 := by
    have : (2 : Nat) ^ i ≤ 2 ^ 128 := Nat.pow_le_pow_right (by omega) h.le
    exact_mod_cast this
  have h8 : X * 2 ^ i ≤ X * 2 ^ 128 := Int.mul_le_mul_of_nonneg_left h7 h5.1
  rw [show (2 : Int) ^ 128 = 340282366920938463463374607431768211456 from rfl] at h8
  refine ⟨h0, by omega, ?_⟩
  omega
theorem DivQ.start {X b : Int} (hb : 0 < b ∧ b < 9223372036854775808) (hX : 0 ≤ X ∧ X ≤ 4611686018427387904) : DivQ X b 0 0 (X / 18446744073709551616) (X % 18446744073709551616) 0 :=
  ⟨hb, hX, by omega, by omega, by omega, by omega, by omega, by rw [Int.pow_zero, Int.mul_one, Int.zero_mul]; omega⟩
theorem DivQ.big {X b left hi lo q : Int} {i : Nat} (h : DivQ X b i left hi lo q) (hi' : i < 128) (hc : b ≤ left * 2 + hi / 9223372036854775808) :
    DivQ X b (i + 1) (left * 2 + hi / 9223372036854775808 - b) (hi * 2 % 18446744073709551616 + lo / 9223372036854775808) (lo * 2 % 18446744073709551616) (q + q + 1) := by
  have h1 := h.eq; have h2 := h.hl; have h3 := h.hh; have h4 := h.hlo; have hb := h.hb; have hq := h.hq
  refine ⟨hb, h.hX, by omega, by omega, by omega, by omega, by omega, ?_⟩
  rw [Int.pow_succ, ← Int.mul_assoc, h1, show (q + q + 1) * b = q * b + q * b + b by rw [Int.add_mul, Int.add_mul, Int.one_mul]]
  omega
theorem DivQ.small {X b left hi lo q : Int} {i : Nat} (h : DivQ X b i left hi lo q) (hi' : i < 128) (hc : left * 2 + hi / 9223372036854775808 < b) :
    DivQ X b (i + 1) (left * 2 + hi / 9223372036854775808) (hi * 2 % 18446744073709551616 + lo / 9223372036854775808) (lo * 2 % 18446744073709551616) (q + q) := by
  have h1 := h.eq; have h2 := h.hl; have h3 := h.hh; have h4 := h.hlo; have hb := h.hb; have hq := h.hq
  refine ⟨hb, h.hX, by omega, by omega, by omega, by omega, by omega, ?_⟩
  rw [Int.pow_succ, ← Int.mul_assoc, h1, show (q + q) * b = q * b + q * b by rw [Int.add_mul]]
  omega
theorem DivQ.done {X b left hi lo q : Int} {i : Nat} (h : DivQ X b i left hi lo q) (hi' : ¬ (i : Int) < 128) : X = q * b + left := by
  have h1 := h.eq; have h2 := h.hl; have h3 := h.hh; have h4 := h.hlo; have := h.le
  obtain rfl : i = 128 := by omega
  rw [show (2 : Int) ^ 128 = 340282366920938463463374607431768211456 from rfl] at h1
  omega
theorem div_pos {x b q left : Int} (hb : 0 < b) (h : x = q * b + left) (hl : 0 ≤ left ∧ left < b) : x / b = q ∧ x % b = left :=
  (Int.ediv_emod_unique hb).2 ⟨by rw [Int.mul_comm]; omega, hl.1, hl.2⟩
theorem div_neg1 {x b q left : Int} (hb : 0 < b) (h : -x = q * b + left) (hl : 0 < left ∧ left < b) : x / b = -q - 1 ∧ x % b = b - left := by
  refine (Int.ediv_emod_unique hb).2 ⟨?_, by omega, by omega⟩
  rw [show b * (-q - 1) = -(q * b) - b by rw [Int.mul_sub, Int.mul_neg, Int.mul_comm, Int.mul_one]]
  omega
theorem div_neg0 {x b q left : Int} (hb : 0 < b) (h : -x = q * b + left) (hl : left = 0) : x / b = -q ∧ x % b = 0 := by
  refine (Int.ediv_emod_unique hb).2 ⟨?_, by omega, by omega⟩
  rw [show b * (-q) = -(q * b) by rw [Int.mul_neg, Int.mul_comm]]
  omega

theorem r_Of (y : Int) (hy : -9223372036854775808 ≤ y ∧ y < 9223372036854775808) : Ans Try.prog 72 [.int .i64 y] (wideV y) := by
  refine ans_of Try.func72 rfl Try.ntmps72 Try.results72 rfl rfl fun w => ?_
  refine v_seq ?_
  refine v_region ?_
  refine l_new rfl o_alloc fun b2 => ?_
  refine l_nil ?_
  refine kt_norm ?_
  refine v_seq ?_
  refine v_seq ?_
  refine v_region ?_
  refine l_val rfl (o_move rfl) ?_
  refine l_split rfl (o_lss rfl rfl) (fun q1 => ?_) (fun q1 => ?_)
  · first
    | (exfalso; omega; done)
    | (
        refine l_nil ?_
        refine kt_norm ?_
        refine v_condT rfl ?_
        refine v_seq ?_
        refine v_region ?_
        refine l_val rfl (o_move rfl) ?_
        refine l_val rfl (o_convu rfl) ?_
        refine l_val rfl (o_build (vs := [_, _]) (cs := [_, _]) rfl rfl) ?_
        refine l_store rfl (o_storeW (key := 2) (xs := [_, _]) rfl rfl rfl rfl rfl rfl rfl) ?_
        refine l_nil ?_
        refine kt_norm ?_
        refine v_sel [2] [2] rfl rfl ?_
        refine v_ret ?_
        refine kt_ret ?_
        refine ⟨[_], .cons (.cellW (key := 2) rfl rfl rfl) (ResAll.nil), ?_⟩
        exact (wideV_eq (by omega) (by omega) (by omega)).symm)
  · first
    | (exfalso; omega; done)
    | (
        refine l_nil ?_
        refine kt_norm ?_
        refine v_condF rfl ?_
        refine v_skip ?_
        refine kt_norm ?_
        refine v_seq ?_
        refine v_region ?_
        refine l_val rfl (o_move rfl) ?_
        refine l_val rfl (o_convu rfl) ?_
        refine l_val rfl (o_build (vs := [_, _]) (cs := [_, _]) rfl rfl) ?_
        refine l_store rfl (o_storeW (key := 2) (xs := [_, _]) rfl rfl rfl rfl rfl rfl rfl) ?_
        refine l_nil ?_
        refine kt_norm ?_
        refine v_sel [2] [2] rfl rfl ?_
        refine v_ret ?_
        refine ⟨[_], .cons (.cellW (key := 2) rfl rfl rfl) (ResAll.nil), ?_⟩
        exact (wideV_eq (by omega) (by omega) (by omega)).symm)
theorem r_Add (x y : Int) (hx : -170141183460469231731687303715884105728 ≤ x ∧ x < 170141183460469231731687303715884105728) (hy : -170141183460469231731687303715884105728 ≤ y ∧ y < 170141183460469231731687303715884105728) (hs : -170141183460469231731687303715884105728 ≤ x + y ∧ x + y < 170141183460469231731687303715884105728) : Ans Try.prog 71 [wideV x, wideV y] (wideV (x + y)) := by
  refine ans_of Try.func71 rfl Try.ntmps71 Try.results71 rfl rfl fun w => ?_
  refine v_seq ?_
  refine v_region ?_
  refine l_new rfl (o_box (cs := [_, _]) rfl rfl) fun b2 => ?_
  refine l_new rfl (o_box (cs := [_, _]) rfl rfl) fun b3 => ?_
  refine l_new rfl o_alloc fun b4 => ?_
  refine l_nil ?_
  refine kt_norm ?_
  refine v_seq ?_
  refine v_region ?_
  refine l_val rfl (o_fld rfl) ?_
  refine l_val rfl (o_load1 (key := 2) rfl rfl rfl) ?_
  refine l_val rfl (o_fld rfl) ?_
  refine l_val rfl (o_load1 (key := 3) rfl rfl rfl) ?_
  refine l_val rfl (o_addu rfl rfl) ?_
  refine l_val rfl (o_assign rfl) ?_
  refine l_nil ?_
  refine kt_norm ?_
  refine v_sel [2, 3, 4, 5] [2, 3, 4] rfl rfl ?_
  refine v_seq ?_
  refine v_region ?_
  refine l_val rfl (o_fld rfl) ?_
  refine l_val rfl (o_load1 (key := 2) rfl rfl rfl) ?_
  refine l_val rfl (o_convu rfl) ?_
  refine l_val rfl (o_fld rfl) ?_
  refine l_val rfl (o_load1 (key := 3) rfl rfl rfl) ?_
  refine l_val rfl (o_convu rfl) ?_
  refine l_val rfl (o_addu rfl rfl) ?_
  refine l_val rfl (o_assign rfl) ?_
  refine l_nil ?_
  refine kt_norm ?_
  refine v_sel [2, 4, 5, 6] [2, 4] rfl rfl ?_
  refine v_seq ?_
  refine v_seq ?_
  refine v_region ?_
  refine l_val rfl (o_move rfl) ?_
  refine l_val rfl (o_fld rfl) ?_
  refine l_val rfl (o_load1 (key := 2) rfl rfl rfl) ?_
  refine l_split rfl (o_lss rfl rfl) (fun q1 => ?_) (fun q1 => ?_)
  · first
    | (exfalso; omega; done)
    | (
        refine l_nil ?_
        refine kt_norm ?_
        refine v_condT rfl ?_
        refine v_region ?_
        refine l_val rfl (o_move rfl) ?_
        refine l_val rfl (o_addu rfl rfl) ?_
        refine l_val rfl (o_assign rfl) ?_
        refine l_nil ?_
        refine kt_norm ?_
        refine v_sel [4, 5, 6] [4] rfl rfl ?_
        refine v_seq ?_
        refine v_region ?_
        refine l_val rfl (o_move rfl) ?_
        refine l_val rfl (o_convm rfl) ?_
        refine l_val rfl (o_move rfl) ?_
        refine l_val rfl (o_build (vs := [_, _]) (cs := [_, _]) rfl rfl) ?_
        refine l_store rfl (o_storeW (key := 4) (xs := [_, _]) rfl rfl rfl rfl rfl rfl rfl) ?_
        refine l_nil ?_
        refine kt_norm ?_
        refine v_sel [4] [4] rfl rfl ?_
        refine v_ret ?_
        refine ⟨[_], .cons (.cellW (key := 4) rfl rfl rfl) (ResAll.nil), ?_⟩
        exact (wideV_eq (by omega) (by omega) (by omega)).symm)
  · first
    | (exfalso; omega; done)
    | (
        refine l_nil ?_
        refine kt_norm ?_
        refine v_condF rfl ?_
        refine v_skip ?_
        refine kt_norm ?_
        refine v_seq ?_
        refine v_region ?_
        refine l_val rfl (o_move rfl) ?_
        refine l_val rfl (o_convm rfl) ?_
        refine l_val rfl (o_move rfl) ?_
        refine l_val rfl (o_build (vs := [_, _]) (cs := [_, _]) rfl rfl) ?_
        refine l_store rfl (o_storeW (key := 4) (xs := [_, _]) rfl rfl rfl rfl rfl rfl rfl) ?_
        refine l_nil ?_
        refine kt_norm ?_
        refine v_sel [4] [4] rfl rfl ?_
        refine v_ret ?_
        refine ⟨[_], .cons (.cellW (key := 4) rfl rfl rfl) (ResAll.nil), ?_⟩
        exact (wideV_eq (by omega) (by omega) (by omega)).symm)
theorem r_AddE (h l h' l' z : Int) (hl : 0 ≤ l ∧ l < 18446744073709551616) (hm : 0 ≤ l' ∧ l' < 18446744073709551616) (hh : -9223372036854775808 ≤ h ∧ h < 9223372036854775808) (hk : -9223372036854775808 ≤ h' ∧ h' < 9223372036854775808) (hs : -170141183460469231731687303715884105728 ≤ z ∧ z < 170141183460469231731687303715884105728) (hz : h * 18446744073709551616 + l + (h' * 18446744073709551616 + l') = z) :
    Ans Try.prog 71 [.agg #[.int .i64 h, .int .u64 l], .agg #[.int .i64 h', .int .u64 l']] (wideV z) := by
  subst hz
  rw [← wideV_eq hl.1 hl.2 rfl, ← wideV_eq hm.1 hm.2 rfl]
  exact r_Add _ _ (by omega) (by omega) hs
theorem r_raised (n : Int) (hn : 0 ≤ n ∧ n < 18446744073709551616) : Ans Try.prog 89 [.int .u64 n] (wideV (n * 4294967296)) := by
  refine ans_of Try.func89 rfl Try.ntmps89 Try.results89 rfl rfl fun w => ?_
  refine v_seq ?_
  refine v_region ?_
  refine l_new rfl o_alloc fun b2 => ?_
  refine l_nil ?_
  refine kt_norm ?_
  refine v_seq ?_
  refine v_region ?_
  refine l_val rfl (o_move rfl) ?_
  refine l_val rfl (o_quon rfl rfl ?_ ?_) ?_
  · omega
  · exact wrap_u64 (by omega)
  refine l_val rfl (o_convi rfl ?_) ?_
  · omega
  refine l_val rfl (o_move rfl) ?_
  refine l_val rfl (o_remn rfl rfl ?_) ?_
  · omega
  refine l_val rfl (o_mulu rfl rfl) ?_
  refine l_val rfl (o_build (vs := [_, _]) (cs := [_, _]) rfl rfl) ?_
  refine l_store rfl (o_storeW (key := 2) (xs := [_, _]) rfl rfl rfl rfl rfl rfl rfl) ?_
  refine l_nil ?_
  refine kt_norm ?_
  refine v_sel [2] [2] rfl rfl ?_
  refine v_ret ?_
  refine ⟨[_], .cons (.cellW (key := 2) rfl rfl rfl) (ResAll.nil), ?_⟩
  exact (wideV_eq (by omega) (by omega) (by omega)).symm
theorem r_neg (x : Int) (hx : -170141183460469231731687303715884105727 ≤ x ∧ x < 170141183460469231731687303715884105728) : Ans Try.prog 87 [wideV x] (wideV (-x)) := by
  refine ans_of Try.func87 rfl Try.ntmps87 Try.results87 rfl rfl fun w => ?_
  refine v_seq ?_
  refine v_region ?_
  refine l_new rfl (o_box (cs := [_, _]) rfl rfl) fun b1 => ?_
  refine l_new rfl o_alloc fun b2 => ?_
  refine l_nil ?_
  refine kt_norm ?_
  refine v_seq ?_
  refine v_drawZ [[], [1], [], [], [1], [], [], [], [], [2]] mixed ?_ (by kernel_rfl) (by kernel_rfl)
  refine d_val (fun _ => rfl) rfl rfl (fun _ => o_fld rfl) ?_
  refine d_val (fun _ => rfl) rfl rfl (fun _ => o_load1 (key := 1) rfl rfl rfl) ?_
  refine d_val (fun _ => rfl) rfl rfl (fun _ => o_subi rfl rfl ?_) ?_
  · omega
  refine d_val (fun _ => rfl) rfl rfl (fun _ => o_fld rfl) ?_
  refine d_val (fun _ => rfl) rfl rfl (fun _ => o_load1 (key := 1) rfl rfl rfl) ?_
  refine d_val (fun _ => rfl) rfl rfl (fun _ => o_subu rfl rfl) ?_
  refine d_val (fun _ => rfl) rfl rfl (fun _ => o_build (vs := [_, _]) (cs := [_, _]) rfl rfl) ?_
  refine d_ans (vs := [_]) (fun _ => rfl) (fun _ => rfl) (r_Of _ ?_) ?_
  · omega
  refine d_ans (vs := [_, _]) (fun _ => rfl) (fun _ => rfl) (r_AddE _ _ _ _ (-x) ?_ ?_ ?_ ?_ ?_ ?_) ?_
  · omega
  · omega
  · omega
  · omega
  · omega
  · omega
  refine d_store (fun _ => rfl) rfl rfl (fun _ => o_storeW (key := 2) (xs := [_, _]) rfl rfl rfl rfl rfl rfl rfl) ?_
  refine d_nil (fun σ => ?_)
  refine l_nil ?_
  refine kt_norm ?_
  refine v_sel [2] [2] rfl rfl ?_
  refine v_ret ?_
  refine ⟨[_], .cons (.cellW (key := 2) rfl rfl rfl) (ResAll.nil), ?_⟩
  rfl
theorem r_Sub (x y : Int) (hx : -42535295865117307932921825928971026432 ≤ x ∧ x < 42535295865117307932921825928971026432) (hy : -42535295865117307932921825928971026432 ≤ y ∧ y < 42535295865117307932921825928971026432) : Ans Try.prog 88 [wideV x, wideV y] (wideV (x - y)) := by
  refine ans_of Try.func88 rfl Try.ntmps88 Try.results88 rfl rfl fun w => ?_
  refine v_seq ?_
  refine v_region ?_
  refine l_new rfl (o_box (cs := [_, _]) rfl rfl) fun b2 => ?_
  refine l_new rfl (o_box (cs := [_, _]) rfl rfl) fun b3 => ?_
  refine l_new rfl o_alloc fun b4 => ?_
  refine l_nil ?_
  refine kt_norm ?_
  refine v_seq ?_
  refine v_drawZ [[2], [3], [], [], [4]] mixed ?_ (by kernel_rfl) (by kernel_rfl)
  refine d_val (fun _ => rfl) rfl rfl (fun _ => o_loadW (key := 2) rfl rfl rfl) ?_
  refine d_val (fun _ => rfl) rfl rfl (fun _ => o_loadW (key := 3) rfl rfl rfl) ?_
  refine d_ans (vs := [_]) (fun _ => rfl) (fun _ => rfl) (r_neg _ ?_) ?_
  · omega
  refine d_ans (vs := [_, _]) (fun _ => rfl) (fun _ => rfl) (r_Add _ _ ?_ ?_ ?_) ?_
  · omega
  · omega
  · omega
  refine d_store (fun _ => rfl) rfl rfl (fun _ => o_storeW (key := 4) (xs := [_, _]) rfl rfl rfl rfl rfl rfl rfl) ?_
  refine d_nil (fun σ => ?_)
  refine l_nil ?_
  refine kt_norm ?_
  refine v_sel [4] [4] rfl rfl ?_
  refine v_ret ?_
  refine ⟨[_], .cons (.cellW (key := 4) rfl rfl rfl) (ResAll.nil), ?_⟩
  exact congrArg wideV (by omega)
set_option maxHeartbeats 1000000 in
theorem r_Mul (x y : Int) (hx : -9223372036854775808 ≤ x ∧ x < 9223372036854775808) (hy : -9223372036854775808 ≤ y ∧ y < 9223372036854775808) : Ans Try.prog 70 [.int .i64 x, .int .i64 y] (wideV (x * y)) := by
  obtain ⟨u, hu1, hu2⟩ : ∃ u : Int, (x < 0 → u = -x) ∧ (¬ x < 0 → u = x) := ⟨if x < 0 then -x else x, fun h => if_pos h, fun h => if_neg h⟩
  obtain ⟨v, hv1, hv2⟩ : ∃ v : Int, (y < 0 → v = -y) ∧ (¬ y < 0 → v = y) := ⟨if y < 0 then -y else y, fun h => if_pos h, fun h => if_neg h⟩
  have hu : 0 ≤ u ∧ u ≤ 9223372036854775808 := by omega
  have hv : 0 ≤ v ∧ v ≤ 9223372036854775808 := by omega
  have m1 := mulNN (x := u / 4294967296) (y := v / 4294967296) (A := 2147483648) (B := 2147483648) (by omega) (by omega)
  have m2 := mulNN (x := u % 4294967296) (y := v % 4294967296) (A := 4294967295) (B := 4294967295) (by omega) (by omega)
  have m3 := mulNN (x := u / 4294967296) (y := v % 4294967296) (A := 2147483648) (B := 4294967295) (by omega) (by omega)
  have m4 := mulNN (x := u % 4294967296) (y := v / 4294967296) (A := 4294967295) (B := 2147483648) (by omega) (by omega)
  have m5 := mul_split u v
  have s1 : x < 0 → y < 0 → x * y = u * v := fun h k => by rw [hu1 h, hv1 k, Int.neg_mul_neg]
  have s2 : x < 0 → ¬ y < 0 → x * y = -(u * v) := fun h k => by rw [hu1 h, hv2 k, Int.neg_mul, Int.neg_neg]
  have s3 : ¬ x < 0 → y < 0 → x * y = -(u * v) := fun h k => by rw [hu2 h, hv1 k, Int.mul_neg, Int.neg_neg]
  have s4 : ¬ x < 0 → ¬ y < 0 → x * y = u * v := fun h k => by rw [hu2 h, hv2 k]
  refine ans_of Try.func70 rfl Try.ntmps70 Try.results70 rfl rfl fun w => ?_
  refine v_seq ?_
  refine v_region ?_
  refine l_new rfl o_alloc fun b4 => ?_
  refine l_nil ?_
  refine kt_norm ?_
  refine v_seq ?_
  refine v_region ?_
  refine l_val rfl (o_move rfl) ?_
  refine l_val rfl (o_convu rfl) ?_
  refine l_val rfl (o_assign rfl) ?_
  refine l_nil ?_
  refine kt_norm ?_
  refine v_seq ?_
  refine v_region ?_
  refine l_val rfl (o_move rfl) ?_
  refine l_val rfl (o_convu rfl) ?_
  refine l_val rfl (o_assign rfl) ?_
  refine l_nil ?_
  refine kt_norm ?_
  refine v_seq ?_
  refine v_seq ?_
  refine v_region ?_
  refine l_val rfl (o_move rfl) ?_
  refine l_split rfl (o_lss rfl rfl) (fun q1 => ?_) (fun q1 => ?_)
  · first
    | (exfalso; omega; done)
    | (
        refine l_nil ?_
        refine kt_norm ?_
        refine v_condT rfl ?_
        refine v_region ?_
        refine l_val rfl (o_move rfl) ?_
        refine l_val rfl (o_negu rfl) ?_
        refine l_val rfl (o_assign rfl) ?_
        refine l_nil ?_
        refine kt_norm ?_
        refine v_sel [0, 1, 4, 5, 6] [4] rfl rfl ?_
        refine v_seq ?_
        refine v_seq ?_
        refine v_region ?_
        refine l_val rfl (o_move rfl) ?_
        refine l_split rfl (o_lss rfl rfl) (fun q2 => ?_) (fun q2 => ?_)
        · first
          | (exfalso; omega; done)
          | (
              refine l_nil ?_
              refine kt_norm ?_
              refine v_condT rfl ?_
              refine v_region ?_
              refine l_val rfl (o_move rfl) ?_
              refine l_val rfl (o_negu rfl) ?_
              refine l_val rfl (o_assign rfl) ?_
              refine l_nil ?_
              refine kt_norm ?_
              refine v_seq ?_
              refine v_region ?_
              refine l_val rfl (o_moveE (q' := u) rfl (by omega)) ?_
              refine l_val rfl (o_quon rfl rfl ?_ ?_) ?_
              · omega
              · exact wrap_u64 (by omega)
              refine l_val rfl (o_assign rfl) ?_
              refine l_nil ?_
              refine kt_norm ?_
              refine v_sel [0, 1, 4, 5, 6, 7] [4] rfl rfl ?_
              refine v_seq ?_
              refine v_region ?_
              refine l_val rfl (o_moveE (q' := u) rfl (by omega)) ?_
              refine l_val rfl (o_remn rfl rfl ?_) ?_
              · omega
              refine l_val rfl (o_assign rfl) ?_
              refine l_nil ?_
              refine kt_norm ?_
              refine v_seq ?_
              refine v_region ?_
              refine l_val rfl (o_moveE (q' := v) rfl (by omega)) ?_
              refine l_val rfl (o_quon rfl rfl ?_ ?_) ?_
              · omega
              · exact wrap_u64 (by omega)
              refine l_val rfl (o_assign rfl) ?_
              refine l_nil ?_
              refine kt_norm ?_
              refine v_seq ?_
              refine v_region ?_
              refine l_val rfl (o_moveE (q' := v) rfl (by omega)) ?_
              refine l_val rfl (o_remn rfl rfl ?_) ?_
              · omega
              refine l_val rfl (o_assign rfl) ?_
              refine l_nil ?_
              refine kt_norm ?_
              refine v_sel [0, 1, 4, 7, 8, 9, 10] [4] rfl rfl ?_
              refine v_seq ?_
              refine v_region ?_
              refine l_val rfl (o_move rfl) ?_
              refine l_val rfl (o_move rfl) ?_
              refine l_val rfl (o_mulu rfl rfl) ?_
              refine l_val rfl (o_convi rfl ?_) ?_
              · omega
              refine l_val rfl (o_build (vs := [_, _]) (cs := [_, _]) rfl rfl) ?_
              refine l_val rfl (o_move rfl) ?_
              refine l_val rfl (o_move rfl) ?_
              refine l_val rfl (o_mulu rfl rfl) ?_
              refine l_val rfl (o_build (vs := [_, _]) (cs := [_, _]) rfl rfl) ?_
              refine l_ans (vs := [_, _]) rfl rfl (r_AddE _ _ _ _ (u / 4294967296 * (v / 4294967296) * 18446744073709551616 + u % 4294967296 * (v % 4294967296)) ?_ ?_ ?_ ?_ ?_ ?_) ?_
              · omega
              · omega
              · omega
              · omega
              · omega
              · omega
              refine l_new rfl o_alloc fun b11 => ?_
              refine l_store rfl (o_storeW (key := 11) (xs := [_, _]) rfl rfl rfl rfl rfl rfl rfl) ?_
              refine l_nil ?_
              refine kt_norm ?_
              refine v_sel [0, 1, 4, 7, 8, 9, 10, 11] [4, 11] rfl rfl ?_
              refine v_seq ?_
              refine v_drawZ [[11], [], [], [], [], [], [], [], [], [], [], [11]] mixed ?_ (by kernel_rfl) (by kernel_rfl)
              refine d_val (fun _ => rfl) rfl rfl (fun _ => o_loadW (key := 11) rfl rfl rfl) ?_
              refine d_val (fun _ => rfl) rfl rfl (fun _ => o_move rfl) ?_
              refine d_val (fun _ => rfl) rfl rfl (fun _ => o_move rfl) ?_
              refine d_val (fun _ => rfl) rfl rfl (fun _ => o_mulu rfl rfl) ?_
              refine d_ans (vs := [_]) (fun _ => rfl) (fun _ => rfl) (r_raised _ ?_) ?_
              · omega
              refine d_ans (vs := [_, _]) (fun _ => rfl) (fun _ => rfl) (r_Add _ _ ?_ ?_ ?_) ?_
              · omega
              · omega
              · omega
              refine d_val (fun _ => rfl) rfl rfl (fun _ => o_move rfl) ?_
              refine d_val (fun _ => rfl) rfl rfl (fun _ => o_move rfl) ?_
              refine d_val (fun _ => rfl) rfl rfl (fun _ => o_mulu rfl rfl) ?_
              refine d_ans (vs := [_]) (fun _ => rfl) (fun _ => rfl) (r_raised _ ?_) ?_
              · omega
              refine d_ans (vs := [_, _]) (fun _ => rfl) (fun _ => rfl) (r_Add _ _ ?_ ?_ ?_) ?_
              · omega
              · omega
              · omega
              refine d_store (fun _ => rfl) rfl rfl (fun _ => o_storeW (key := 11) (xs := [_, _]) rfl rfl rfl rfl rfl rfl rfl) ?_
              refine d_nil (fun σ => ?_)
              refine l_nil ?_
              refine kt_norm ?_
              refine v_sel [0, 1, 4, 11] [4, 11] rfl rfl ?_
              refine v_seq ?_
              refine v_seq ?_
              refine v_region ?_
              refine l_val rfl (o_move rfl) ?_
              refine l_split rfl (o_lss rfl rfl) (fun q3 => ?_) (fun q3 => ?_)
              · first
                | (exfalso; omega; done)
                | (
                    refine l_val rfl (o_move rfl) ?_
                    refine l_split rfl (o_lss rfl rfl) (fun q4 => ?_) (fun q4 => ?_)
                    · first
                      | (exfalso; omega; done)
                      | (
                          refine l_val rfl (o_neqb rfl rfl rfl) ?_
                          refine l_nil ?_
                          refine kt_norm ?_
                          refine v_sel [4, 11, 57] [4, 11] rfl rfl ?_
                          refine v_condF rfl ?_
                          refine v_skip ?_
                          refine kt_norm ?_
                          refine v_seq ?_
                          refine v_region ?_
                          refine l_val rfl (o_loadW (key := 11) rfl rfl rfl) ?_
                          refine l_store rfl (o_storeW (key := 4) (xs := [_, _]) rfl rfl rfl rfl rfl rfl rfl) ?_
                          refine l_nil ?_
                          refine kt_norm ?_
                          refine v_ret ?_
                          refine ⟨[_], .cons (.cellW (key := 4) rfl rfl rfl) (ResAll.nil), ?_⟩
                          exact congrArg wideV (by omega))
                    · first
                      | (exfalso; omega; done)
                      | (
                          refine l_val rfl (o_neqb rfl rfl rfl) ?_
                          refine l_nil ?_
                          refine kt_norm ?_
                          refine v_sel [4, 11, 57] [4, 11] rfl rfl ?_
                          refine v_condT rfl ?_
                          refine v_seq ?_
                          refine v_region ?_
                          refine l_val rfl (o_loadW (key := 11) rfl rfl rfl) ?_
                          refine l_ans (vs := [_]) rfl rfl (r_neg _ ?_) ?_
                          · omega
                          refine l_store rfl (o_storeW (key := 4) (xs := [_, _]) rfl rfl rfl rfl rfl rfl rfl) ?_
                          refine l_nil ?_
                          refine kt_norm ?_
                          refine v_ret ?_
                          refine kt_ret ?_
                          refine ⟨[_], .cons (.cellW (key := 4) rfl rfl rfl) (ResAll.nil), ?_⟩
                          exact congrArg wideV (by omega)))
              · first
                | (exfalso; omega; done)
                | (
                    refine l_val rfl (o_move rfl) ?_
                    refine l_split rfl (o_lss rfl rfl) (fun q5 => ?_) (fun q5 => ?_)
                    · first
                      | (exfalso; omega; done)
                      | (
                          refine l_val rfl (o_neqb rfl rfl rfl) ?_
                          refine l_nil ?_
                          refine kt_norm ?_
                          refine v_sel [4, 11, 57] [4, 11] rfl rfl ?_
                          refine v_condT rfl ?_
                          refine v_seq ?_
                          refine v_region ?_
                          refine l_val rfl (o_loadW (key := 11) rfl rfl rfl) ?_
                          refine l_ans (vs := [_]) rfl rfl (r_neg _ ?_) ?_
                          · omega
                          refine l_store rfl (o_storeW (key := 4) (xs := [_, _]) rfl rfl rfl rfl rfl rfl rfl) ?_
                          refine l_nil ?_
                          refine kt_norm ?_
                          refine v_ret ?_
                          refine kt_ret ?_
                          refine ⟨[_], .cons (.cellW (key := 4) rfl rfl rfl) (ResAll.nil), ?_⟩
                          exact congrArg wideV (by omega))
                    · first
                      | (exfalso; omega; done)
                      | (
                          refine l_val rfl (o_neqb rfl rfl rfl) ?_
                          refine l_nil ?_
                          refine kt_norm ?_
                          refine v_sel [4, 11, 57] [4, 11] rfl rfl ?_
                          refine v_condF rfl ?_
                          refine v_skip ?_
                          refine kt_norm ?_
                          refine v_seq ?_
                          refine v_region ?_
                          refine l_val rfl (o_loadW (key := 11) rfl rfl rfl) ?_
                          refine l_store rfl (o_storeW (key := 4) (xs := [_, _]) rfl rfl rfl rfl rfl rfl rfl) ?_
                          refine l_nil ?_
                          refine kt_norm ?_
                          refine v_ret ?_
                          refine ⟨[_], .cons (.cellW (key := 4) rfl rfl rfl) (ResAll.nil), ?_⟩
                          exact congrArg wideV (by omega))))
        · first
          | (exfalso; omega; done)
          | (
              refine l_nil ?_
              refine kt_norm ?_
              refine v_condF rfl ?_
              refine v_skip ?_
              refine kt_norm ?_
              refine v_seq ?_
              refine v_region ?_
              refine l_val rfl (o_moveE (q' := u) rfl (by omega)) ?_
              refine l_val rfl (o_quon rfl rfl ?_ ?_) ?_
              · omega
              · exact wrap_u64 (by omega)
              refine l_val rfl (o_assign rfl) ?_
              refine l_nil ?_
              refine kt_norm ?_
              refine v_seq ?_
              refine v_region ?_
              refine l_val rfl (o_moveE (q' := u) rfl (by omega)) ?_
              refine l_val rfl (o_remn rfl rfl ?_) ?_
              · omega
              refine l_val rfl (o_assign rfl) ?_
              refine l_nil ?_
              refine kt_norm ?_
              refine v_sel [0, 1, 4, 6, 7, 8] [4] rfl rfl ?_
              refine v_seq ?_
              refine v_region ?_
              refine l_val rfl (o_moveE (q' := v) rfl (by omega)) ?_
              refine l_val rfl (o_quon rfl rfl ?_ ?_) ?_
              · omega
              · exact wrap_u64 (by omega)
              refine l_val rfl (o_assign rfl) ?_
              refine l_nil ?_
              refine kt_norm ?_
              refine v_seq ?_
              refine v_region ?_
              refine l_val rfl (o_moveE (q' := v) rfl (by omega)) ?_
              refine l_val rfl (o_remn rfl rfl ?_) ?_
              · omega
              refine l_val rfl (o_assign rfl) ?_
              refine l_nil ?_
              refine kt_norm ?_
              refine v_seq ?_
              refine v_region ?_
              refine l_val rfl (o_move rfl) ?_
              refine l_val rfl (o_move rfl) ?_
              refine l_val rfl (o_mulu rfl rfl) ?_
              refine l_val rfl (o_convi rfl ?_) ?_
              · omega
              refine l_val rfl (o_build (vs := [_, _]) (cs := [_, _]) rfl rfl) ?_
              refine l_val rfl (o_move rfl) ?_
              refine l_val rfl (o_move rfl) ?_
              refine l_val rfl (o_mulu rfl rfl) ?_
              refine l_val rfl (o_build (vs := [_, _]) (cs := [_, _]) rfl rfl) ?_
              refine l_ans (vs := [_, _]) rfl rfl (r_AddE _ _ _ _ (u / 4294967296 * (v / 4294967296) * 18446744073709551616 + u % 4294967296 * (v % 4294967296)) ?_ ?_ ?_ ?_ ?_ ?_) ?_
              · omega
              · omega
              · omega
              · omega
              · omega
              · omega
              refine l_new rfl o_alloc fun b11 => ?_
              refine l_store rfl (o_storeW (key := 11) (xs := [_, _]) rfl rfl rfl rfl rfl rfl rfl) ?_
              refine l_nil ?_
              refine kt_norm ?_
              refine v_sel [0, 1, 4, 7, 8, 9, 10, 11] [4, 11] rfl rfl ?_
              refine v_seq ?_
              refine v_drawZ [[11], [], [], [], [], [], [], [], [], [], [], [11]] mixed ?_ (by kernel_rfl) (by kernel_rfl)
              refine d_val (fun _ => rfl) rfl rfl (fun _ => o_loadW (key := 11) rfl rfl rfl) ?_
              refine d_val (fun _ => rfl) rfl rfl (fun _ => o_move rfl) ?_
              refine d_val (fun _ => rfl) rfl rfl (fun _ => o_move rfl) ?_
              refine d_val (fun _ => rfl) rfl rfl (fun _ => o_mulu rfl rfl) ?_
              refine d_ans (vs := [_]) (fun _ => rfl) (fun _ => rfl) (r_raised _ ?_) ?_
              · omega
              refine d_ans (vs := [_, _]) (fun _ => rfl) (fun _ => rfl) (r_Add _ _ ?_ ?_ ?_) ?_
              · omega
              · omega
              · omega
              refine d_val (fun _ => rfl) rfl rfl (fun _ => o_move rfl) ?_
              refine d_val (fun _ => rfl) rfl rfl (fun _ => o_move rfl) ?_
              refine d_val (fun _ => rfl) rfl rfl (fun _ => o_mulu rfl rfl) ?_
              refine d_ans (vs := [_]) (fun _ => rfl) (fun _ => rfl) (r_raised _ ?_) ?_
              · omega
              refine d_ans (vs := [_, _]) (fun _ => rfl) (fun _ => rfl) (r_Add _ _ ?_ ?_ ?_) ?_
              · omega
              · omega
              · omega
              refine d_store (fun _ => rfl) rfl rfl (fun _ => o_storeW (key := 11) (xs := [_, _]) rfl rfl rfl rfl rfl rfl rfl) ?_
              refine d_nil (fun σ => ?_)
              refine l_nil ?_
              refine kt_norm ?_
              refine v_sel [0, 1, 4, 11] [4, 11] rfl rfl ?_
              refine v_seq ?_
              refine v_seq ?_
              refine v_region ?_
              refine l_val rfl (o_move rfl) ?_
              refine l_split rfl (o_lss rfl rfl) (fun q6 => ?_) (fun q6 => ?_)
              · first
                | (exfalso; omega; done)
                | (
                    refine l_val rfl (o_move rfl) ?_
                    refine l_split rfl (o_lss rfl rfl) (fun q7 => ?_) (fun q7 => ?_)
                    · first
                      | (exfalso; omega; done)
                      | (
                          refine l_val rfl (o_neqb rfl rfl rfl) ?_
                          refine l_nil ?_
                          refine kt_norm ?_
                          refine v_sel [4, 11, 57] [4, 11] rfl rfl ?_
                          refine v_condF rfl ?_
                          refine v_skip ?_
                          refine kt_norm ?_
                          refine v_seq ?_
                          refine v_region ?_
                          refine l_val rfl (o_loadW (key := 11) rfl rfl rfl) ?_
                          refine l_store rfl (o_storeW (key := 4) (xs := [_, _]) rfl rfl rfl rfl rfl rfl rfl) ?_
                          refine l_nil ?_
                          refine kt_norm ?_
                          refine v_ret ?_
                          refine ⟨[_], .cons (.cellW (key := 4) rfl rfl rfl) (ResAll.nil), ?_⟩
                          exact congrArg wideV (by omega))
                    · first
                      | (exfalso; omega; done)
                      | (
                          refine l_val rfl (o_neqb rfl rfl rfl) ?_
                          refine l_nil ?_
                          refine kt_norm ?_
                          refine v_sel [4, 11, 57] [4, 11] rfl rfl ?_
                          refine v_condT rfl ?_
                          refine v_seq ?_
                          refine v_region ?_
                          refine l_val rfl (o_loadW (key := 11) rfl rfl rfl) ?_
                          refine l_ans (vs := [_]) rfl rfl (r_neg _ ?_) ?_
                          · omega
                          refine l_store rfl (o_storeW (key := 4) (xs := [_, _]) rfl rfl rfl rfl rfl rfl rfl) ?_
                          refine l_nil ?_
                          refine kt_norm ?_
                          refine v_ret ?_
                          refine kt_ret ?_
                          refine ⟨[_], .cons (.cellW (key := 4) rfl rfl rfl) (ResAll.nil), ?_⟩
                          exact congrArg wideV (by omega)))
              · first
                | (exfalso; omega; done)
                | (
                    refine l_val rfl (o_move rfl) ?_
                    refine l_split rfl (o_lss rfl rfl) (fun q8 => ?_) (fun q8 => ?_)
                    · first
                      | (exfalso; omega; done)
                      | (
                          refine l_val rfl (o_neqb rfl rfl rfl) ?_
                          refine l_nil ?_
                          refine kt_norm ?_
                          refine v_sel [4, 11, 57] [4, 11] rfl rfl ?_
                          refine v_condT rfl ?_
                          refine v_seq ?_
                          refine v_region ?_
                          refine l_val rfl (o_loadW (key := 11) rfl rfl rfl) ?_
                          refine l_ans (vs := [_]) rfl rfl (r_neg _ ?_) ?_
                          · omega
                          refine l_store rfl (o_storeW (key := 4) (xs := [_, _]) rfl rfl rfl rfl rfl rfl rfl) ?_
                          refine l_nil ?_
                          refine kt_norm ?_
                          refine v_ret ?_
                          refine kt_ret ?_
                          refine ⟨[_], .cons (.cellW (key := 4) rfl rfl rfl) (ResAll.nil), ?_⟩
                          exact congrArg wideV (by omega))
                    · first
                      | (exfalso; omega; done)
                      | (
                          refine l_val rfl (o_neqb rfl rfl rfl) ?_
                          refine l_nil ?_
                          refine kt_norm ?_
                          refine v_sel [4, 11, 57] [4, 11] rfl rfl ?_
                          refine v_condF rfl ?_
                          refine v_skip ?_
                          refine kt_norm ?_
                          refine v_seq ?_
                          refine v_region ?_
                          refine l_val rfl (o_loadW (key := 11) rfl rfl rfl) ?_
                          refine l_store rfl (o_storeW (key := 4) (xs := [_, _]) rfl rfl rfl rfl rfl rfl rfl) ?_
                          refine l_nil ?_
                          refine kt_norm ?_
                          refine v_ret ?_
                          refine ⟨[_], .cons (.cellW (key := 4) rfl rfl rfl) (ResAll.nil), ?_⟩
                          exact congrArg wideV (by omega)))))
  · first
    | (exfalso; omega; done)
    | (
        refine l_nil ?_
        refine kt_norm ?_
        refine v_condF rfl ?_
        refine v_skip ?_
        refine kt_norm ?_
        refine v_sel [0, 1, 4, 5, 6] [4] rfl rfl ?_
        refine v_seq ?_
        refine v_seq ?_
        refine v_region ?_
        refine l_val rfl (o_move rfl) ?_
        refine l_split rfl (o_lss rfl rfl) (fun q9 => ?_) (fun q9 => ?_)
        · first
          | (exfalso; omega; done)
          | (
              refine l_nil ?_
              refine kt_norm ?_
              refine v_condT rfl ?_
              refine v_region ?_
              refine l_val rfl (o_move rfl) ?_
              refine l_val rfl (o_negu rfl) ?_
              refine l_val rfl (o_assign rfl) ?_
              refine l_nil ?_
              refine kt_norm ?_
              refine v_seq ?_
              refine v_region ?_
              refine l_val rfl (o_moveE (q' := u) rfl (by omega)) ?_
              refine l_val rfl (o_quon rfl rfl ?_ ?_) ?_
              · omega
              · exact wrap_u64 (by omega)
              refine l_val rfl (o_assign rfl) ?_
              refine l_nil ?_
              refine kt_norm ?_
              refine v_sel [0, 1, 4, 5, 6, 7] [4] rfl rfl ?_
              refine v_seq ?_
              refine v_region ?_
              refine l_val rfl (o_moveE (q' := u) rfl (by omega)) ?_
              refine l_val rfl (o_remn rfl rfl ?_) ?_
              · omega
              refine l_val rfl (o_assign rfl) ?_
              refine l_nil ?_
              refine kt_norm ?_
              refine v_seq ?_
              refine v_region ?_
              refine l_val rfl (o_moveE (q' := v) rfl (by omega)) ?_
              refine l_val rfl (o_quon rfl rfl ?_ ?_) ?_
              · omega
              · exact wrap_u64 (by omega)
              refine l_val rfl (o_assign rfl) ?_
              refine l_nil ?_
              refine kt_norm ?_
              refine v_seq ?_
              refine v_region ?_
              refine l_val rfl (o_moveE (q' := v) rfl (by omega)) ?_
              refine l_val rfl (o_remn rfl rfl ?_) ?_
              · omega
              refine l_val rfl (o_assign rfl) ?_
              refine l_nil ?_
              refine kt_norm ?_
              refine v_sel [0, 1, 4, 7, 8, 9, 10] [4] rfl rfl ?_
              refine v_seq ?_
              refine v_region ?_
              refine l_val rfl (o_move rfl) ?_
              refine l_val rfl (o_move rfl) ?_
              refine l_val rfl (o_mulu rfl rfl) ?_
              refine l_val rfl (o_convi rfl ?_) ?_
              · omega
              refine l_val rfl (o_build (vs := [_, _]) (cs := [_, _]) rfl rfl) ?_
              refine l_val rfl (o_move rfl) ?_
              refine l_val rfl (o_move rfl) ?_
              refine l_val rfl (o_mulu rfl rfl) ?_
              refine l_val rfl (o_build (vs := [_, _]) (cs := [_, _]) rfl rfl) ?_
              refine l_ans (vs := [_, _]) rfl rfl (r_AddE _ _ _ _ (u / 4294967296 * (v / 4294967296) * 18446744073709551616 + u % 4294967296 * (v % 4294967296)) ?_ ?_ ?_ ?_ ?_ ?_) ?_
              · omega
              · omega
              · omega
              · omega
              · omega
              · omega
              refine l_new rfl o_alloc fun b11 => ?_
              refine l_store rfl (o_storeW (key := 11) (xs := [_, _]) rfl rfl rfl rfl rfl rfl rfl) ?_
              refine l_nil ?_
              refine kt_norm ?_
              refine v_sel [0, 1, 4, 7, 8, 9, 10, 11] [4, 11] rfl rfl ?_
              refine v_seq ?_
              refine v_drawZ [[11], [], [], [], [], [], [], [], [], [], [], [11]] mixed ?_ (by kernel_rfl) (by kernel_rfl)
              refine d_val (fun _ => rfl) rfl rfl (fun _ => o_loadW (key := 11) rfl rfl rfl) ?_
              refine d_val (fun _ => rfl) rfl rfl (fun _ => o_move rfl) ?_
              refine d_val (fun _ => rfl) rfl rfl (fun _ => o_move rfl) ?_
              refine d_val (fun _ => rfl) rfl rfl (fun _ => o_mulu rfl rfl) ?_
              refine d_ans (vs := [_]) (fun _ => rfl) (fun _ => rfl) (r_raised _ ?_) ?_
              · omega
              refine d_ans (vs := [_, _]) (fun _ => rfl) (fun _ => rfl) (r_Add _ _ ?_ ?_ ?_) ?_
              · omega
              · omega
              · omega
              refine d_val (fun _ => rfl) rfl rfl (fun _ => o_move rfl) ?_
              refine d_val (fun _ => rfl) rfl rfl (fun _ => o_move rfl) ?_
              refine d_val (fun _ => rfl) rfl rfl (fun _ => o_mulu rfl rfl) ?_
              refine d_ans (vs := [_]) (fun _ => rfl) (fun _ => rfl) (r_raised _ ?_) ?_
              · omega
              refine d_ans (vs := [_, _]) (fun _ => rfl) (fun _ => rfl) (r_Add _ _ ?_ ?_ ?_) ?_
              · omega
              · omega
              · omega
              refine d_store (fun _ => rfl) rfl rfl (fun _ => o_storeW (key := 11) (xs := [_, _]) rfl rfl rfl rfl rfl rfl rfl) ?_
              refine d_nil (fun σ => ?_)
              refine l_nil ?_
              refine kt_norm ?_
              refine v_sel [0, 1, 4, 11] [4, 11] rfl rfl ?_
              refine v_seq ?_
              refine v_seq ?_
              refine v_region ?_
              refine l_val rfl (o_move rfl) ?_
              refine l_split rfl (o_lss rfl rfl) (fun q10 => ?_) (fun q10 => ?_)
              · first
                | (exfalso; omega; done)
                | (
                    refine l_val rfl (o_move rfl) ?_
                    refine l_split rfl (o_lss rfl rfl) (fun q11 => ?_) (fun q11 => ?_)
                    · first
                      | (exfalso; omega; done)
                      | (
                          refine l_val rfl (o_neqb rfl rfl rfl) ?_
                          refine l_nil ?_
                          refine kt_norm ?_
                          refine v_sel [4, 11, 57] [4, 11] rfl rfl ?_
                          refine v_condF rfl ?_
                          refine v_skip ?_
                          refine kt_norm ?_
                          refine v_seq ?_
                          refine v_region ?_
                          refine l_val rfl (o_loadW (key := 11) rfl rfl rfl) ?_
                          refine l_store rfl (o_storeW (key := 4) (xs := [_, _]) rfl rfl rfl rfl rfl rfl rfl) ?_
                          refine l_nil ?_
                          refine kt_norm ?_
                          refine v_ret ?_
                          refine ⟨[_], .cons (.cellW (key := 4) rfl rfl rfl) (ResAll.nil), ?_⟩
                          exact congrArg wideV (by omega))
                    · first
                      | (exfalso; omega; done)
                      | (
                          refine l_val rfl (o_neqb rfl rfl rfl) ?_
                          refine l_nil ?_
                          refine kt_norm ?_
                          refine v_sel [4, 11, 57] [4, 11] rfl rfl ?_
                          refine v_condT rfl ?_
                          refine v_seq ?_
                          refine v_region ?_
                          refine l_val rfl (o_loadW (key := 11) rfl rfl rfl) ?_
                          refine l_ans (vs := [_]) rfl rfl (r_neg _ ?_) ?_
                          · omega
                          refine l_store rfl (o_storeW (key := 4) (xs := [_, _]) rfl rfl rfl rfl rfl rfl rfl) ?_
                          refine l_nil ?_
                          refine kt_norm ?_
                          refine v_ret ?_
                          refine kt_ret ?_
                          refine ⟨[_], .cons (.cellW (key := 4) rfl rfl rfl) (ResAll.nil), ?_⟩
                          exact congrArg wideV (by omega)))
              · first
                | (exfalso; omega; done)
                | (
                    refine l_val rfl (o_move rfl) ?_
                    refine l_split rfl (o_lss rfl rfl) (fun q12 => ?_) (fun q12 => ?_)
                    · first
                      | (exfalso; omega; done)
                      | (
                          refine l_val rfl (o_neqb rfl rfl rfl) ?_
                          refine l_nil ?_
                          refine kt_norm ?_
                          refine v_sel [4, 11, 57] [4, 11] rfl rfl ?_
                          refine v_condT rfl ?_
                          refine v_seq ?_
                          refine v_region ?_
                          refine l_val rfl (o_loadW (key := 11) rfl rfl rfl) ?_
                          refine l_ans (vs := [_]) rfl rfl (r_neg _ ?_) ?_
                          · omega
                          refine l_store rfl (o_storeW (key := 4) (xs := [_, _]) rfl rfl rfl rfl rfl rfl rfl) ?_
                          refine l_nil ?_
                          refine kt_norm ?_
                          refine v_ret ?_
                          refine kt_ret ?_
                          refine ⟨[_], .cons (.cellW (key := 4) rfl rfl rfl) (ResAll.nil), ?_⟩
                          exact congrArg wideV (by omega))
                    · first
                      | (exfalso; omega; done)
                      | (
                          refine l_val rfl (o_neqb rfl rfl rfl) ?_
                          refine l_nil ?_
                          refine kt_norm ?_
                          refine v_sel [4, 11, 57] [4, 11] rfl rfl ?_
                          refine v_condF rfl ?_
                          refine v_skip ?_
                          refine kt_norm ?_
                          refine v_seq ?_
                          refine v_region ?_
                          refine l_val rfl (o_loadW (key := 11) rfl rfl rfl) ?_
                          refine l_store rfl (o_storeW (key := 4) (xs := [_, _]) rfl rfl rfl rfl rfl rfl rfl) ?_
                          refine l_nil ?_
                          refine kt_norm ?_
                          refine v_ret ?_
                          refine ⟨[_], .cons (.cellW (key := 4) rfl rfl rfl) (ResAll.nil), ?_⟩
                          exact congrArg wideV (by omega))))
        · first
          | (exfalso; omega; done)
          | (
              refine l_nil ?_
              refine kt_norm ?_
              refine v_condF rfl ?_
              refine v_skip ?_
              refine kt_norm ?_
              refine v_seq ?_
              refine v_region ?_
              refine l_val rfl (o_moveE (q' := u) rfl (by omega)) ?_
              refine l_val rfl (o_quon rfl rfl ?_ ?_) ?_
              · omega
              · exact wrap_u64 (by omega)
              refine l_val rfl (o_assign rfl) ?_
              refine l_nil ?_
              refine kt_norm ?_
              refine v_seq ?_
              refine v_region ?_
              refine l_val rfl (o_moveE (q' := u) rfl (by omega)) ?_
              refine l_val rfl (o_remn rfl rfl ?_) ?_
              · omega
              refine l_val rfl (o_assign rfl) ?_
              refine l_nil ?_
              refine kt_norm ?_
              refine v_sel [0, 1, 4, 6, 7, 8] [4] rfl rfl ?_
              refine v_seq ?_
              refine v_region ?_
              refine l_val rfl (o_moveE (q' := v) rfl (by omega)) ?_
              refine l_val rfl (o_quon rfl rfl ?_ ?_) ?_
              · omega
              · exact wrap_u64 (by omega)
              refine l_val rfl (o_assign rfl) ?_
              refine l_nil ?_
              refine kt_norm ?_
              refine v_seq ?_
              refine v_region ?_
              refine l_val rfl (o_moveE (q' := v) rfl (by omega)) ?_
              refine l_val rfl (o_remn rfl rfl ?_) ?_
              · omega
              refine l_val rfl (o_assign rfl) ?_
              refine l_nil ?_
              refine kt_norm ?_
              refine v_seq ?_
              refine v_region ?_
              refine l_val rfl (o_move rfl) ?_
              refine l_val rfl (o_move rfl) ?_
              refine l_val rfl (o_mulu rfl rfl) ?_
              refine l_val rfl (o_convi rfl ?_) ?_
              · omega
              refine l_val rfl (o_build (vs := [_, _]) (cs := [_, _]) rfl rfl) ?_
              refine l_val rfl (o_move rfl) ?_
              refine l_val rfl (o_move rfl) ?_
              refine l_val rfl (o_mulu rfl rfl) ?_
              refine l_val rfl (o_build (vs := [_, _]) (cs := [_, _]) rfl rfl) ?_
              refine l_ans (vs := [_, _]) rfl rfl (r_AddE _ _ _ _ (u / 4294967296 * (v / 4294967296) * 18446744073709551616 + u % 4294967296 * (v % 4294967296)) ?_ ?_ ?_ ?_ ?_ ?_) ?_
              · omega
              · omega
              · omega
              · omega
              · omega
              · omega
              refine l_new rfl o_alloc fun b11 => ?_
              refine l_store rfl (o_storeW (key := 11) (xs := [_, _]) rfl rfl rfl rfl rfl rfl rfl) ?_
              refine l_nil ?_
              refine kt_norm ?_
              refine v_sel [0, 1, 4, 7, 8, 9, 10, 11] [4, 11] rfl rfl ?_
              refine v_seq ?_
              refine v_drawZ [[11], [], [], [], [], [], [], [], [], [], [], [11]] mixed ?_ (by kernel_rfl) (by kernel_rfl)
              refine d_val (fun _ => rfl) rfl rfl (fun _ => o_loadW (key := 11) rfl rfl rfl) ?_
              refine d_val (fun _ => rfl) rfl rfl (fun _ => o_move rfl) ?_
              refine d_val (fun _ => rfl) rfl rfl (fun _ => o_move rfl) ?_
              refine d_val (fun _ => rfl) rfl rfl (fun _ => o_mulu rfl rfl) ?_
              refine d_ans (vs := [_]) (fun _ => rfl) (fun _ => rfl) (r_raised _ ?_) ?_
              · omega
              refine d_ans (vs := [_, _]) (fun _ => rfl) (fun _ => rfl) (r_Add _ _ ?_ ?_ ?_) ?_
              · omega
              · omega
              · omega
              refine d_val (fun _ => rfl) rfl rfl (fun _ => o_move rfl) ?_
              refine d_val (fun _ => rfl) rfl rfl (fun _ => o_move rfl) ?_
              refine d_val (fun _ => rfl) rfl rfl (fun _ => o_mulu rfl rfl) ?_
              refine d_ans (vs := [_]) (fun _ => rfl) (fun _ => rfl) (r_raised _ ?_) ?_
              · omega
              refine d_ans (vs := [_, _]) (fun _ => rfl) (fun _ => rfl) (r_Add _ _ ?_ ?_ ?_) ?_
              · omega
              · omega
              · omega
              refine d_store (fun _ => rfl) rfl rfl (fun _ => o_storeW (key := 11) (xs := [_, _]) rfl rfl rfl rfl rfl rfl rfl) ?_
              refine d_nil (fun σ => ?_)
              refine l_nil ?_
              refine kt_norm ?_
              refine v_sel [0, 1, 4, 11] [4, 11] rfl rfl ?_
              refine v_seq ?_
              refine v_seq ?_
              refine v_region ?_
              refine l_val rfl (o_move rfl) ?_
              refine l_split rfl (o_lss rfl rfl) (fun q13 => ?_) (fun q13 => ?_)
              · first
                | (exfalso; omega; done)
                | (
                    refine l_val rfl (o_move rfl) ?_
                    refine l_split rfl (o_lss rfl rfl) (fun q14 => ?_) (fun q14 => ?_)
                    · first
                      | (exfalso; omega; done)
                      | (
                          refine l_val rfl (o_neqb rfl rfl rfl) ?_
                          refine l_nil ?_
                          refine kt_norm ?_
                          refine v_sel [4, 11, 57] [4, 11] rfl rfl ?_
                          refine v_condF rfl ?_
                          refine v_skip ?_
                          refine kt_norm ?_
                          refine v_seq ?_
                          refine v_region ?_
                          refine l_val rfl (o_loadW (key := 11) rfl rfl rfl) ?_
                          refine l_store rfl (o_storeW (key := 4) (xs := [_, _]) rfl rfl rfl rfl rfl rfl rfl) ?_
                          refine l_nil ?_
                          refine kt_norm ?_
                          refine v_ret ?_
                          refine ⟨[_], .cons (.cellW (key := 4) rfl rfl rfl) (ResAll.nil), ?_⟩
                          exact congrArg wideV (by omega))
                    · first
                      | (exfalso; omega; done)
                      | (
                          refine l_val rfl (o_neqb rfl rfl rfl) ?_
                          refine l_nil ?_
                          refine kt_norm ?_
                          refine v_sel [4, 11, 57] [4, 11] rfl rfl ?_
                          refine v_condT rfl ?_
                          refine v_seq ?_
                          refine v_region ?_
                          refine l_val rfl (o_loadW (key := 11) rfl rfl rfl) ?_
                          refine l_ans (vs := [_]) rfl rfl (r_neg _ ?_) ?_
                          · omega
                          refine l_store rfl (o_storeW (key := 4) (xs := [_, _]) rfl rfl rfl rfl rfl rfl rfl) ?_
                          refine l_nil ?_
                          refine kt_norm ?_
                          refine v_ret ?_
                          refine kt_ret ?_
                          refine ⟨[_], .cons (.cellW (key := 4) rfl rfl rfl) (ResAll.nil), ?_⟩
                          exact congrArg wideV (by omega)))
              · first
                | (exfalso; omega; done)
                | (
                    refine l_val rfl (o_move rfl) ?_
                    refine l_split rfl (o_lss rfl rfl) (fun q15 => ?_) (fun q15 => ?_)
                    · first
                      | (exfalso; omega; done)
                      | (
                          refine l_val rfl (o_neqb rfl rfl rfl) ?_
                          refine l_nil ?_
                          refine kt_norm ?_
                          refine v_sel [4, 11, 57] [4, 11] rfl rfl ?_
                          refine v_condT rfl ?_
                          refine v_seq ?_
                          refine v_region ?_
                          refine l_val rfl (o_loadW (key := 11) rfl rfl rfl) ?_
                          refine l_ans (vs := [_]) rfl rfl (r_neg _ ?_) ?_
                          · omega
                          refine l_store rfl (o_storeW (key := 4) (xs := [_, _]) rfl rfl rfl rfl rfl rfl rfl) ?_
                          refine l_nil ?_
                          refine kt_norm ?_
                          refine v_ret ?_
                          refine kt_ret ?_
                          refine ⟨[_], .cons (.cellW (key := 4) rfl rfl rfl) (ResAll.nil), ?_⟩
                          exact congrArg wideV (by omega))
                    · first
                      | (exfalso; omega; done)
                      | (
                          refine l_val rfl (o_neqb rfl rfl rfl) ?_
                          refine l_nil ?_
                          refine kt_norm ?_
                          refine v_sel [4, 11, 57] [4, 11] rfl rfl ?_
                          refine v_condF rfl ?_
                          refine v_skip ?_
                          refine kt_norm ?_
                          refine v_seq ?_
                          refine v_region ?_
                          refine l_val rfl (o_loadW (key := 11) rfl rfl rfl) ?_
                          refine l_store rfl (o_storeW (key := 4) (xs := [_, _]) rfl rfl rfl rfl rfl rfl rfl) ?_
                          refine l_nil ?_
                          refine kt_norm ?_
                          refine v_ret ?_
                          refine ⟨[_], .cons (.cellW (key := 4) rfl rfl rfl) (ResAll.nil), ?_⟩
                          exact congrArg wideV (by omega)))))
theorem tup3w {z r z' r' : Int} (e1 : z = z') (e2 : r = r') : packV [wideV z, .int .i64 r, .int .i64 0] = .tuple #[wideV z', .int .i64 r', .int .i64 0] := by
  subst e1 e2; rfl
set_option maxHeartbeats 2000000 in
theorem r_Div (x b : Int) (hx : -4611686018427387904 ≤ x ∧ x ≤ 4611686018427387904) (hb : 0 < b ∧ b < 9223372036854775808) : Ans Try.prog 69 [wideV x, .int .i64 b] (.tuple #[wideV (x / b), .int .i64 (x % b), .int .i64 0]) := by
  obtain ⟨X, hX1, hX2⟩ : ∃ X : Int, (x < 0 → X = -x) ∧ (¬ x < 0 → X = x) := ⟨if x < 0 then -x else x, fun h => if_pos h, fun h => if_neg h⟩
  have hX : 0 ≤ X ∧ X ≤ 4611686018427387904 := by omega
  have h0 := DivQ.start hb hX
  refine ans_of Try.func69 rfl Try.ntmps69 Try.results69 rfl rfl fun w => ?_
  refine v_seq ?_
  refine v_region ?_
  refine l_new rfl (o_box (cs := [_, _]) rfl rfl) fun b2 => ?_
  refine l_new rfl o_alloc fun b4 => ?_
  refine l_val rfl (o_assign rfl) ?_
  refine l_val rfl (o_assign rfl) ?_
  refine l_nil ?_
  refine kt_norm ?_
  refine v_seq ?_
  refine v_seq ?_
  refine v_region ?_
  refine l_val rfl (o_move rfl) ?_
  refine l_split rfl (o_leq rfl rfl) (fun q1 => absurd q1 (by omega)) (fun q1 => ?_)
  refine l_nil ?_
  refine kt_norm ?_
  refine v_condF rfl ?_
  refine v_skip ?_
  refine kt_norm ?_
  refine v_seq ?_
  refine v_region ?_
  refine l_val rfl (o_fld rfl) ?_
  refine l_val rfl (o_load1 (key := 2) rfl rfl rfl) ?_
  refine l_split rfl (o_lss rfl rfl) (fun q2 => ?_) (fun q2 => ?_)
  · skip
    refine l_val rfl (o_assign rfl) ?_
    refine l_nil ?_
    refine kt_norm ?_
    refine v_sel [1, 2, 4, 7] [2, 4] rfl rfl ?_
    refine v_seq ?_
    refine v_seq ?_
    refine v_region ?_
    refine l_val rfl (o_move rfl) ?_
    refine l_nil ?_
    refine kt_norm ?_
    refine v_condT rfl ?_
    refine v_region ?_
    refine l_val rfl (o_loadW (key := 2) rfl rfl rfl) ?_
    refine l_ans (vs := [_]) rfl rfl (r_neg _ ?_) ?_
    · omega
    refine l_store rfl (o_storeW (key := 2) (xs := [_, _]) rfl rfl rfl rfl rfl rfl rfl) ?_
    refine l_nil ?_
    refine kt_norm ?_
    refine v_seq ?_
    refine v_region ?_
    refine l_val rfl (o_fld rfl) ?_
    refine l_val rfl (o_load1 (key := 2) rfl rfl rfl) ?_
    refine l_val rfl (o_convu rfl) ?_
    refine l_val rfl (o_assign rfl) ?_
    refine l_nil ?_
    refine kt_norm ?_
    refine v_sel [1, 2, 4, 7, 8] [2, 4] rfl rfl ?_
    refine v_seq ?_
    refine v_region ?_
    refine l_val rfl (o_fld rfl) ?_
    refine l_val rfl (o_load1 (key := 2) rfl rfl rfl) ?_
    refine l_val rfl (o_assign rfl) ?_
    refine l_nil ?_
    refine kt_norm ?_
    refine v_seq ?_
    refine v_region ?_
    refine l_val rfl (o_build (vs := []) (cs := [_, _]) rfl rfl) ?_
    refine l_new rfl o_alloc fun b10 => ?_
    refine l_store rfl (o_storeW (key := 10) (xs := [_, _]) rfl rfl rfl rfl rfl rfl rfl) ?_
    refine l_nil ?_
    refine kt_norm ?_
    refine v_seq ?_
    refine v_region ?_
    refine l_val rfl (o_assign rfl) ?_
    refine l_nil ?_
    refine kt_norm ?_
    refine v_seq ?_
    refine v_seq ?_
    refine v_region ?_
    refine l_val rfl (o_assign rfl) ?_
    refine l_nil ?_
    refine kt_norm ?_
    refine v_block ?_
    refine v_loopS (α := Nat × Int × Int × Int × Int) (fun ⟨i, left, hi, lo, q⟩ => [(12, .int .i64 (i : Int)), (11, .int .u64 left), (8, .int .u64 hi), (9, .int .u64 lo)]) (fun ⟨i, left, hi, lo, q⟩ => [(10, Hp.box b10 88 [.int .i64 (q / 18446744073709551616), .int .u64 (q % 18446744073709551616)])])  (fun ⟨i, left, hi, lo, q⟩ => DivQ X b i left hi lo q) (fun ⟨i, left, hi, lo, q⟩ => 128 - i) (0, 0, X / 18446744073709551616, X % 18446744073709551616, 0) [1, 4, 7, 10] [4] h0  (And.intro rfl (And.intro rfl (And.intro (congrArg (fun q => some (Value.int .u64 q)) (by omega)) (And.intro (congrArg (fun q => some (Value.int .u64 q)) (by omega)) (True.intro))))) rfl (And.intro rfl (True.intro)) rfl ?_
    rintro ⟨i, left, hi, lo, q⟩ hQ
    refine v_seq ?_
    refine v_seq ?_
    refine v_region ?_
    have hl1 := hQ.hl; have hh1 := hQ.hh; have ho1 := hQ.hlo; have hq1 := hQ.hq; have hqx := hQ.qX; have hle := hQ.le
    refine l_val rfl (o_move rfl) ?_
    refine l_split rfl (o_lss rfl rfl) (fun q3 => ?_) (fun q3 => ?_)
    · skip
      refine l_nil ?_
      refine kt_norm ?_
      refine v_condT rfl ?_
      refine v_skip ?_
      refine kt_norm ?_
      refine v_seq ?_
      refine v_block ?_
      refine v_seq ?_
      refine v_region ?_
      refine l_val rfl (o_move rfl) ?_
      refine l_val rfl (o_mulu rfl rfl) ?_
      refine l_val rfl (o_move rfl) ?_
      refine l_val rfl (o_quon rfl rfl ?_ ?_) ?_
      · omega
      · exact wrap_u64 (by omega)
      refine l_val rfl (o_addu rfl rfl) ?_
      refine l_val rfl (o_assign rfl) ?_
      refine l_nil ?_
      refine kt_norm ?_
      refine v_sel [12, 11, 8, 9, 1, 4, 7, 10] [4, 10] rfl rfl ?_
      refine v_seq ?_
      refine v_region ?_
      refine l_val rfl (o_move rfl) ?_
      refine l_val rfl (o_mulu rfl rfl) ?_
      refine l_val rfl (o_move rfl) ?_
      refine l_val rfl (o_quon rfl rfl ?_ ?_) ?_
      · omega
      · exact wrap_u64 (by omega)
      refine l_val rfl (o_addu rfl rfl) ?_
      refine l_val rfl (o_assign rfl) ?_
      refine l_nil ?_
      refine kt_norm ?_
      refine v_seq ?_
      refine v_region ?_
      refine l_val rfl (o_move rfl) ?_
      refine l_val rfl (o_mulu rfl rfl) ?_
      refine l_val rfl (o_assign rfl) ?_
      refine l_nil ?_
      refine kt_norm ?_
      refine v_sel [12, 11, 8, 9, 1, 4, 7, 10] [4, 10] rfl rfl ?_
      refine v_seq ?_
      refine v_region ?_
      refine l_val rfl (o_loadW (key := 10) rfl rfl rfl) ?_
      refine l_val rfl (o_loadW (key := 10) rfl rfl rfl) ?_
      refine l_ans (vs := [_, _]) rfl rfl (r_Add _ _ ?_ ?_ ?_) ?_
      · omega
      · omega
      · omega
      refine l_store rfl (o_storeW (key := 10) (xs := [_, _]) rfl rfl rfl rfl rfl rfl rfl) ?_
      refine l_nil ?_
      refine kt_norm ?_
      refine v_seq ?_
      refine v_region ?_
      refine l_val rfl (o_move rfl) ?_
      refine l_val rfl (o_move rfl) ?_
      refine l_val rfl (o_convu rfl) ?_
      refine l_split rfl (o_geq rfl rfl) (fun q4 => ?_) (fun q4 => ?_)
      · skip
        refine l_nil ?_
        refine kt_norm ?_
        refine v_sel [12, 11, 8, 9, 1, 4, 7, 10, 50] [4, 10] rfl rfl ?_
        refine v_condT rfl ?_
        refine v_seq ?_
        refine v_region ?_
        refine l_val rfl (o_move rfl) ?_
        refine l_val rfl (o_move rfl) ?_
        refine l_val rfl (o_convu rfl) ?_
        refine l_val rfl (o_subu rfl rfl) ?_
        refine l_val rfl (o_assign rfl) ?_
        refine l_nil ?_
        refine kt_norm ?_
        refine v_drawZ [[10], [], [], [10]] mixed ?_ (by kernel_rfl) (by kernel_rfl)
        refine d_val (fun _ => rfl) rfl rfl (fun _ => o_loadW (key := 10) rfl rfl rfl) ?_
        refine d_ans (vs := [_]) (fun _ => rfl) (fun _ => rfl) (r_Of _ ?_) ?_
        · omega
        refine d_ans (vs := [_, _]) (fun _ => rfl) (fun _ => rfl) (r_Add _ _ ?_ ?_ ?_) ?_
        · omega
        · omega
        · omega
        refine d_store (fun _ => rfl) rfl rfl (fun _ => o_storeW (key := 10) (xs := [_, _]) rfl rfl rfl rfl rfl rfl rfl) ?_
        refine d_nil (fun σ => ?_)
        refine l_nil ?_
        refine kb_norm ?_
        refine kt_norm ?_
        refine v_sel [12, 11, 8, 9, 1, 4, 7, 10] [4, 10] rfl rfl ?_
        refine v_region ?_
        refine l_val rfl (o_move rfl) ?_
        refine l_val rfl (o_addi rfl rfl ?_) ?_
        · omega
        refine l_val rfl (o_assign rfl) ?_
        refine l_nil ?_
        refine kt_norm ?_
        refine ⟨(i + 1, left * 2 + hi / 9223372036854775808 - b, hi * 2 % 18446744073709551616 + lo / 9223372036854775808, lo * 2 % 18446744073709551616, q + q + 1), hQ.big (by omega) (by omega), (by show 128 - (i + 1) < 128 - i; omega), le_app (And.intro rfl (And.intro (congrArg (fun q => some (Value.int .u64 q)) (by omega)) (And.intro (congrArg (fun q => some (Value.int .u64 q)) (by omega)) (And.intro rfl (True.intro))))) [1, 4, 7, 10] rfl (And.intro rfl (True.intro)) [4] rfl⟩
      · skip
        refine l_nil ?_
        refine kt_norm ?_
        refine v_sel [12, 11, 8, 9, 1, 4, 7, 10, 50] [4, 10] rfl rfl ?_
        refine v_condF rfl ?_
        refine v_skip ?_
        refine kb_norm ?_
        refine kt_norm ?_
        refine v_region ?_
        refine l_val rfl (o_move rfl) ?_
        refine l_val rfl (o_addi rfl rfl ?_) ?_
        · omega
        refine l_val rfl (o_assign rfl) ?_
        refine l_nil ?_
        refine kt_norm ?_
        refine ⟨(i + 1, left * 2 + hi / 9223372036854775808, hi * 2 % 18446744073709551616 + lo / 9223372036854775808, lo * 2 % 18446744073709551616, q + q), hQ.small (by omega) (by omega), (by show 128 - (i + 1) < 128 - i; omega), le_app (And.intro rfl (And.intro (congrArg (fun q => some (Value.int .u64 q)) (by omega)) (And.intro (congrArg (fun q => some (Value.int .u64 q)) (by omega)) (And.intro rfl (True.intro))))) [1, 4, 7, 10] rfl (And.intro rfl (True.intro)) [4] rfl⟩
    · skip
      refine l_nil ?_
      refine kt_norm ?_
      refine v_condF rfl ?_
      refine v_exit ?_
      refine kt_exit ?_
      refine kt_exit ?_
      refine kb_eq ?_
      refine kt_norm ?_
      refine v_seq ?_
      refine v_seq ?_
      refine v_region ?_
      have hd := hQ.done (by omega)
      refine l_val rfl (o_move rfl) ?_
      refine l_val rfl (o_move rfl) ?_
      refine l_val rfl (o_move rfl) ?_
      refine l_split rfl (o_gtr rfl rfl) (fun q5 => ?_) (fun q5 => ?_)
      · skip
        refine l_val rfl (o_pickT rfl rfl) ?_
        refine l_nil ?_
        refine kt_norm ?_
        refine v_sel [11, 1, 4, 7, 10, 62] [4, 10] rfl rfl ?_
        refine v_condT rfl ?_
        refine v_seq ?_
        refine v_region ?_
        refine l_val rfl (o_loadW (key := 10) rfl rfl rfl) ?_
        refine l_ans (vs := [_]) rfl rfl (r_neg _ ?_) ?_
        · omega
        refine l_ans (vs := [_]) rfl rfl (r_Of _ ?_) ?_
        · omega
        refine l_ans (vs := [_, _]) rfl rfl (r_Sub _ _ ?_ ?_) ?_
        · omega
        · omega
        refine l_val rfl (o_move rfl) ?_
        refine l_val rfl (o_move rfl) ?_
        refine l_val rfl (o_convi rfl ?_) ?_
        · omega
        refine l_val rfl (o_subi rfl rfl ?_) ?_
        · omega
        refine l_store rfl (o_storeW (key := 4) (xs := [_, _]) rfl rfl rfl rfl rfl rfl rfl) ?_
        refine l_val rfl (o_assign rfl) ?_
        refine l_val rfl (o_assign rfl) ?_
        refine l_nil ?_
        refine kt_norm ?_
        refine v_sel [4, 5, 6] [4] rfl rfl ?_
        refine v_ret ?_
        refine kt_ret ?_
        refine ⟨[_, _, _], .cons (.cellW (key := 4) rfl rfl rfl) (.cons (.tmp rfl) (.cons (.tmp rfl) (ResAll.nil))), ?_⟩
        first
          | (obtain ⟨n1, n2⟩ := div_neg1 (x := x) hb.1 (q := q) (left := left) (by omega) (by omega); refine tup3w (by omega) ?_ <;> omega)
          | (obtain ⟨n1, n2⟩ := div_neg0 (x := x) hb.1 (q := q) (left := left) (by omega) (by omega); refine tup3w (by omega) ?_ <;> omega)
          | (obtain ⟨n1, n2⟩ := div_pos (x := x) hb.1 (q := q) (left := left) (by omega) (by omega); refine tup3w (by omega) ?_ <;> omega)
      · skip
        refine l_val rfl (o_pickT rfl rfl) ?_
        refine l_nil ?_
        refine kt_norm ?_
        refine v_sel [11, 1, 4, 7, 10, 62] [4, 10] rfl rfl ?_
        refine v_condF rfl ?_
        refine v_skip ?_
        refine kt_norm ?_
        refine v_seq ?_
        refine v_seq ?_
        refine v_region ?_
        refine l_val rfl (o_move rfl) ?_
        refine l_nil ?_
        refine kt_norm ?_
        refine v_condT rfl ?_
        refine v_seq ?_
        refine v_region ?_
        refine l_val rfl (o_loadW (key := 10) rfl rfl rfl) ?_
        refine l_ans (vs := [_]) rfl rfl (r_neg _ ?_) ?_
        · omega
        refine l_store rfl (o_storeW (key := 4) (xs := [_, _]) rfl rfl rfl rfl rfl rfl rfl) ?_
        refine l_val rfl (o_assign rfl) ?_
        refine l_val rfl (o_assign rfl) ?_
        refine l_nil ?_
        refine kt_norm ?_
        refine v_sel [4, 5, 6] [4] rfl rfl ?_
        refine v_ret ?_
        refine kt_ret ?_
        refine ⟨[_, _, _], .cons (.cellW (key := 4) rfl rfl rfl) (.cons (.tmp rfl) (.cons (.tmp rfl) (ResAll.nil))), ?_⟩
        first
          | (obtain ⟨n1, n2⟩ := div_neg1 (x := x) hb.1 (q := q) (left := left) (by omega) (by omega); refine tup3w (by omega) ?_ <;> omega)
          | (obtain ⟨n1, n2⟩ := div_neg0 (x := x) hb.1 (q := q) (left := left) (by omega) (by omega); refine tup3w (by omega) ?_ <;> omega)
          | (obtain ⟨n1, n2⟩ := div_pos (x := x) hb.1 (q := q) (left := left) (by omega) (by omega); refine tup3w (by omega) ?_ <;> omega)
  · skip
    refine l_val rfl (o_assign rfl) ?_
    refine l_nil ?_
    refine kt_norm ?_
    refine v_sel [1, 2, 4, 7] [2, 4] rfl rfl ?_
    refine v_seq ?_
    refine v_seq ?_
    refine v_region ?_
    refine l_val rfl (o_move rfl) ?_
    refine l_nil ?_
    refine kt_norm ?_
    refine v_condF rfl ?_
    refine v_skip ?_
    refine kt_norm ?_
    refine v_seq ?_
    refine v_region ?_
    refine l_val rfl (o_fld rfl) ?_
    refine l_val rfl (o_load1 (key := 2) rfl rfl rfl) ?_
    refine l_val rfl (o_convu rfl) ?_
    refine l_val rfl (o_assign rfl) ?_
    refine l_nil ?_
    refine kt_norm ?_
    refine v_seq ?_
    refine v_region ?_
    refine l_val rfl (o_fld rfl) ?_
    refine l_val rfl (o_load1 (key := 2) rfl rfl rfl) ?_
    refine l_val rfl (o_assign rfl) ?_
    refine l_nil ?_
    refine kt_norm ?_
    refine v_sel [1, 4, 7, 8, 9] [4] rfl rfl ?_
    refine v_seq ?_
    refine v_region ?_
    refine l_val rfl (o_build (vs := []) (cs := [_, _]) rfl rfl) ?_
    refine l_new rfl o_alloc fun b10 => ?_
    refine l_store rfl (o_storeW (key := 10) (xs := [_, _]) rfl rfl rfl rfl rfl rfl rfl) ?_
    refine l_nil ?_
    refine kt_norm ?_
    refine v_seq ?_
    refine v_region ?_
    refine l_val rfl (o_assign rfl) ?_
    refine l_nil ?_
    refine kt_norm ?_
    refine v_seq ?_
    refine v_seq ?_
    refine v_region ?_
    refine l_val rfl (o_assign rfl) ?_
    refine l_nil ?_
    refine kt_norm ?_
    refine v_block ?_
    refine v_loopS (α := Nat × Int × Int × Int × Int) (fun ⟨i, left, hi, lo, q⟩ => [(12, .int .i64 (i : Int)), (11, .int .u64 left), (8, .int .u64 hi), (9, .int .u64 lo)]) (fun ⟨i, left, hi, lo, q⟩ => [(10, Hp.box b10 88 [.int .i64 (q / 18446744073709551616), .int .u64 (q % 18446744073709551616)])])  (fun ⟨i, left, hi, lo, q⟩ => DivQ X b i left hi lo q) (fun ⟨i, left, hi, lo, q⟩ => 128 - i) (0, 0, X / 18446744073709551616, X % 18446744073709551616, 0) [1, 4, 7, 10] [4] h0  (And.intro rfl (And.intro rfl (And.intro (congrArg (fun q => some (Value.int .u64 q)) (by omega)) (And.intro (congrArg (fun q => some (Value.int .u64 q)) (by omega)) (True.intro))))) rfl (And.intro rfl (True.intro)) rfl ?_
    rintro ⟨i, left, hi, lo, q⟩ hQ
    refine v_seq ?_
    refine v_seq ?_
    refine v_region ?_
    have hl1 := hQ.hl; have hh1 := hQ.hh; have ho1 := hQ.hlo; have hq1 := hQ.hq; have hqx := hQ.qX; have hle := hQ.le
    refine l_val rfl (o_move rfl) ?_
    refine l_split rfl (o_lss rfl rfl) (fun q6 => ?_) (fun q6 => ?_)
    · skip
      refine l_nil ?_
      refine kt_norm ?_
      refine v_condT rfl ?_
      refine v_skip ?_
      refine kt_norm ?_
      refine v_seq ?_
      refine v_block ?_
      refine v_seq ?_
      refine v_region ?_
      refine l_val rfl (o_move rfl) ?_
      refine l_val rfl (o_mulu rfl rfl) ?_
      refine l_val rfl (o_move rfl) ?_
      refine l_val rfl (o_quon rfl rfl ?_ ?_) ?_
      · omega
      · exact wrap_u64 (by omega)
      refine l_val rfl (o_addu rfl rfl) ?_
      refine l_val rfl (o_assign rfl) ?_
      refine l_nil ?_
      refine kt_norm ?_
      refine v_sel [12, 11, 8, 9, 1, 4, 7, 10] [4, 10] rfl rfl ?_
      refine v_seq ?_
      refine v_region ?_
      refine l_val rfl (o_move rfl) ?_
      refine l_val rfl (o_mulu rfl rfl) ?_
      refine l_val rfl (o_move rfl) ?_
      refine l_val rfl (o_quon rfl rfl ?_ ?_) ?_
      · omega
      · exact wrap_u64 (by omega)
      refine l_val rfl (o_addu rfl rfl) ?_
      refine l_val rfl (o_assign rfl) ?_
      refine l_nil ?_
      refine kt_norm ?_
      refine v_seq ?_
      refine v_region ?_
      refine l_val rfl (o_move rfl) ?_
      refine l_val rfl (o_mulu rfl rfl) ?_
      refine l_val rfl (o_assign rfl) ?_
      refine l_nil ?_
      refine kt_norm ?_
      refine v_sel [12, 11, 8, 9, 1, 4, 7, 10] [4, 10] rfl rfl ?_
      refine v_seq ?_
      refine v_region ?_
      refine l_val rfl (o_loadW (key := 10) rfl rfl rfl) ?_
      refine l_val rfl (o_loadW (key := 10) rfl rfl rfl) ?_
      refine l_ans (vs := [_, _]) rfl rfl (r_Add _ _ ?_ ?_ ?_) ?_
      · omega
      · omega
      · omega
      refine l_store rfl (o_storeW (key := 10) (xs := [_, _]) rfl rfl rfl rfl rfl rfl rfl) ?_
      refine l_nil ?_
      refine kt_norm ?_
      refine v_seq ?_
      refine v_region ?_
      refine l_val rfl (o_move rfl) ?_
      refine l_val rfl (o_move rfl) ?_
      refine l_val rfl (o_convu rfl) ?_
      refine l_split rfl (o_geq rfl rfl) (fun q7 => ?_) (fun q7 => ?_)
      · skip
        refine l_nil ?_
        refine kt_norm ?_
        refine v_sel [12, 11, 8, 9, 1, 4, 7, 10, 50] [4, 10] rfl rfl ?_
        refine v_condT rfl ?_
        refine v_seq ?_
        refine v_region ?_
        refine l_val rfl (o_move rfl) ?_
        refine l_val rfl (o_move rfl) ?_
        refine l_val rfl (o_convu rfl) ?_
        refine l_val rfl (o_subu rfl rfl) ?_
        refine l_val rfl (o_assign rfl) ?_
        refine l_nil ?_
        refine kt_norm ?_
        refine v_drawZ [[10], [], [], [10]] mixed ?_ (by kernel_rfl) (by kernel_rfl)
        refine d_val (fun _ => rfl) rfl rfl (fun _ => o_loadW (key := 10) rfl rfl rfl) ?_
        refine d_ans (vs := [_]) (fun _ => rfl) (fun _ => rfl) (r_Of _ ?_) ?_
        · omega
        refine d_ans (vs := [_, _]) (fun _ => rfl) (fun _ => rfl) (r_Add _ _ ?_ ?_ ?_) ?_
        · omega
        · omega
        · omega
        refine d_store (fun _ => rfl) rfl rfl (fun _ => o_storeW (key := 10) (xs := [_, _]) rfl rfl rfl rfl rfl rfl rfl) ?_
        refine d_nil (fun σ => ?_)
        refine l_nil ?_
        refine kb_norm ?_
        refine kt_norm ?_
        refine v_sel [12, 11, 8, 9, 1, 4, 7, 10] [4, 10] rfl rfl ?_
        refine v_region ?_
        refine l_val rfl (o_move rfl) ?_
        refine l_val rfl (o_addi rfl rfl ?_) ?_
        · omega
        refine l_val rfl (o_assign rfl) ?_
        refine l_nil ?_
        refine kt_norm ?_
        refine ⟨(i + 1, left * 2 + hi / 9223372036854775808 - b, hi * 2 % 18446744073709551616 + lo / 9223372036854775808, lo * 2 % 18446744073709551616, q + q + 1), hQ.big (by omega) (by omega), (by show 128 - (i + 1) < 128 - i; omega), le_app (And.intro rfl (And.intro (congrArg (fun q => some (Value.int .u64 q)) (by omega)) (And.intro (congrArg (fun q => some (Value.int .u64 q)) (by omega)) (And.intro rfl (True.intro))))) [1, 4, 7, 10] rfl (And.intro rfl (True.intro)) [4] rfl⟩
      · skip
        refine l_nil ?_
        refine kt_norm ?_
        refine v_sel [12, 11, 8, 9, 1, 4, 7, 10, 50] [4, 10] rfl rfl ?_
        refine v_condF rfl ?_
        refine v_skip ?_
        refine kb_norm ?_
        refine kt_norm ?_
        refine v_region ?_
        refine l_val rfl (o_move rfl) ?_
        refine l_val rfl (o_addi rfl rfl ?_) ?_
        · omega
        refine l_val rfl (o_assign rfl) ?_
        refine l_nil ?_
        refine kt_norm ?_
        refine ⟨(i + 1, left * 2 + hi / 9223372036854775808, hi * 2 % 18446744073709551616 + lo / 9223372036854775808, lo * 2 % 18446744073709551616, q + q), hQ.small (by omega) (by omega), (by show 128 - (i + 1) < 128 - i; omega), le_app (And.intro rfl (And.intro (congrArg (fun q => some (Value.int .u64 q)) (by omega)) (And.intro (congrArg (fun q => some (Value.int .u64 q)) (by omega)) (And.intro rfl (True.intro))))) [1, 4, 7, 10] rfl (And.intro rfl (True.intro)) [4] rfl⟩
    · skip
      refine l_nil ?_
      refine kt_norm ?_
      refine v_condF rfl ?_
      refine v_exit ?_
      refine kt_exit ?_
      refine kt_exit ?_
      refine kb_eq ?_
      refine kt_norm ?_
      refine v_seq ?_
      refine v_seq ?_
      refine v_region ?_
      have hd := hQ.done (by omega)
      refine l_val rfl (o_move rfl) ?_
      refine l_val rfl (o_move rfl) ?_
      refine l_no rfl ?_
      refine l_no rfl ?_
      refine l_val rfl (o_pickF rfl rfl) ?_
      refine l_nil ?_
      refine kt_norm ?_
      refine v_sel [11, 1, 4, 7, 10, 62] [4, 10] rfl rfl ?_
      refine v_condF rfl ?_
      refine v_skip ?_
      refine kt_norm ?_
      refine v_seq ?_
      refine v_seq ?_
      refine v_region ?_
      refine l_val rfl (o_move rfl) ?_
      refine l_nil ?_
      refine kt_norm ?_
      refine v_condF rfl ?_
      refine v_skip ?_
      refine kt_norm ?_
      refine v_seq ?_
      refine v_region ?_
      refine l_val rfl (o_loadW (key := 10) rfl rfl rfl) ?_
      refine l_val rfl (o_move rfl) ?_
      refine l_val rfl (o_convi rfl ?_) ?_
      · omega
      refine l_store rfl (o_storeW (key := 4) (xs := [_, _]) rfl rfl rfl rfl rfl rfl rfl) ?_
      refine l_val rfl (o_assign rfl) ?_
      refine l_val rfl (o_assign rfl) ?_
      refine l_nil ?_
      refine kt_norm ?_
      refine v_sel [4, 5, 6] [4] rfl rfl ?_
      refine v_ret ?_
      refine ⟨[_, _, _], .cons (.cellW (key := 4) rfl rfl rfl) (.cons (.tmp rfl) (.cons (.tmp rfl) (ResAll.nil))), ?_⟩
      first
        | (obtain ⟨n1, n2⟩ := div_neg1 (x := x) hb.1 (q := q) (left := left) (by omega) (by omega); refine tup3w (by omega) ?_ <;> omega)
        | (obtain ⟨n1, n2⟩ := div_neg0 (x := x) hb.1 (q := q) (left := left) (by omega) (by omega); refine tup3w (by omega) ?_ <;> omega)
        | (obtain ⟨n1, n2⟩ := div_pos (x := x) hb.1 (q := q) (left := left) (by omega) (by omega); refine tup3w (by omega) ?_ <;> omega)
theorem r_Narrow (x : Int) (hx : -9223372036854775808 ≤ x ∧ x < 9223372036854775808) : Ans Try.prog 90 [wideV x] (.tuple #[.int .i64 x, .bool true]) := by
  refine ans_of Try.func90 rfl Try.ntmps90 Try.results90 rfl rfl fun w => ?_
  refine v_seq ?_
  refine v_region ?_
  refine l_new rfl (o_box (cs := [_, _]) rfl rfl) fun b1 => ?_
  refine l_val rfl (o_assign rfl) ?_
  refine l_val rfl (o_assign rfl) ?_
  refine l_nil ?_
  refine kt_norm ?_
  refine v_seq ?_
  refine v_seq ?_
  refine v_drawZ [[1], [], [1], [], [], []] mixed ?_ (by kernel_rfl) (by kernel_rfl)
  refine d_val (fun _ => rfl) rfl rfl (fun _ => o_loadW (key := 1) rfl rfl rfl) ?_
  refine d_val (fun _ => rfl) rfl rfl (fun _ => o_fld rfl) ?_
  refine d_val (fun _ => rfl) rfl rfl (fun _ => o_load1 (key := 1) rfl rfl rfl) ?_
  refine d_val (fun _ => rfl) rfl rfl (fun _ => o_convm rfl) ?_
  refine d_ans (vs := [_]) (fun _ => rfl) (fun _ => rfl) (r_Of _ ?_) ?_
  · omega
  refine d_neqs (xl := [_, _]) (yl := [_, _]) (az := [_, _]) (bz := [_, _]) (fun _ => rfl) (fun _ => rfl) (fun _ => rfl) rfl rfl rfl rfl (fun q1 => ?_) (fun q1 => ?_)
  · simp only [List.map_cons, List.map_nil, List.cons.injEq, and_true, Decidable.not_not] at q1
    first
    | (exfalso; omega; done)
    | (
        refine d_nil (fun σ => ?_)
        refine l_nil ?_
        refine kt_norm ?_
        refine v_sel [1, 9] [1] rfl rfl ?_
        refine v_condT rfl ?_
        refine v_seq ?_
        refine v_region ?_
        refine l_val rfl (o_assign rfl) ?_
        refine l_val rfl (o_assign rfl) ?_
        refine l_nil ?_
        refine kt_norm ?_
        refine v_ret ?_
        refine kt_ret ?_
        refine ⟨[_, _], .cons (.tmp rfl) (.cons (.tmp rfl) (ResAll.nil)), ?_⟩
        show Value.tuple #[.int .i64 _, .bool true] = _
        rw [show (x % 18446744073709551616 + 9223372036854775808) % 18446744073709551616 - 9223372036854775808 = x by omega])
  · simp only [List.map_cons, List.map_nil, List.cons.injEq, and_true, Decidable.not_not] at q1
    first
    | (exfalso; omega; done)
    | (
        refine d_nil (fun σ => ?_)
        refine l_nil ?_
        refine kt_norm ?_
        refine v_sel [1, 9] [1] rfl rfl ?_
        refine v_condF rfl ?_
        refine v_skip ?_
        refine kt_norm ?_
        refine v_seq ?_
        refine v_region ?_
        refine l_val rfl (o_fld rfl) ?_
        refine l_val rfl (o_load1 (key := 1) rfl rfl rfl) ?_
        refine l_val rfl (o_convm rfl) ?_
        refine l_val rfl (o_assign rfl) ?_
        refine l_val rfl (o_assign rfl) ?_
        refine l_nil ?_
        refine kt_norm ?_
        refine v_ret ?_
        refine ⟨[_, _], .cons (.tmp rfl) (.cons (.tmp rfl) (ResAll.nil)), ?_⟩
        show Value.tuple #[.int .i64 _, .bool true] = _
        rw [show (x % 18446744073709551616 + 9223372036854775808) % 18446744073709551616 - 9223372036854775808 = x by omega])
theorem r_narrow (x : Int) (hx : -9223372036854775808 ≤ x ∧ x < 9223372036854775808) : Ans Try.prog 73 [wideV x] (.tuple #[.int .i64 x, .int .i64 0]) := by
  refine ans_of Try.func73 rfl Try.ntmps73 Try.results73 rfl rfl fun w => ?_
  refine v_seq ?_
  refine v_region ?_
  refine l_new rfl (o_box (cs := [_, _]) rfl rfl) fun b1 => ?_
  refine l_val rfl (o_assign rfl) ?_
  refine l_val rfl (o_assign rfl) ?_
  refine l_nil ?_
  refine kt_norm ?_
  refine v_seq ?_
  refine v_region ?_
  refine l_val rfl (o_loadW (key := 1) rfl rfl rfl) ?_
  refine l_ans (vs := [_]) rfl rfl (r_Narrow _ ?_) ?_
  · omega
  refine l_val rfl (o_move rfl) ?_
  refine l_val rfl (o_extract rfl rfl) ?_
  refine l_val rfl (o_extract rfl rfl) ?_
  refine l_val rfl (o_assign rfl) ?_
  refine l_val rfl (o_assign rfl) ?_
  refine l_nil ?_
  refine kt_norm ?_
  refine v_sel [4, 5] [] rfl rfl ?_
  refine v_seq ?_
  refine v_seq ?_
  refine v_region ?_
  refine l_val rfl (o_move rfl) ?_
  refine l_val rfl (o_not rfl rfl) ?_
  refine l_nil ?_
  refine kt_norm ?_
  refine v_condF rfl ?_
  refine v_skip ?_
  refine kt_norm ?_
  refine v_seq ?_
  refine v_region ?_
  refine l_val rfl (o_move rfl) ?_
  refine l_val rfl (o_assign rfl) ?_
  refine l_val rfl (o_assign rfl) ?_
  refine l_nil ?_
  refine kt_norm ?_
  refine v_ret ?_
  refine ⟨[_, _], .cons (.tmp rfl) (.cons (.tmp rfl) (ResAll.nil)), ?_⟩
  rfl



end Go.Proofs.Ytpgjbalnipinoaa

/- The sides of a piece; its area; what lies left of all its sides. Conditions: none. -/
namespace Go.Proofs.Ytpgjbalnipinoaa
open Go.Proofs Go.RowKit Go.Shelf

instance : TZero Try.prog 82 [.int .i64 0, .int .i64 0] := .of (by kernel_rfl)
instance : TElem Try.prog 82 (.agg #[.int .i64 0, .int .i64 0]) 2 16 := .of (by kernel_rfl) rfl (by decide)
instance : TAgg Try.prog 82 2 := .of (by kernel_rfl) (by kernel_rfl)
instance : TBuild Try.prog 82 [(0, 1), (1, 1)] [.int .i64 0, .int .i64 0] := .of (by kernel_rfl) (by kernel_rfl)
instance : TEqs Try.prog 82 2 := ⟨by kernel_rfl, by kernel_rfl, by kernel_rfl, by kernel_rfl⟩
instance : TFld Try.prog 82 0 0 := .of (by kernel_rfl)
instance : TFld Try.prog 82 1 1 := .of (by kernel_rfl)
instance : TZero Try.prog 84 [.int .i64 0, .int .i64 0, .int .i64 0, .int .i64 0] := .of (by kernel_rfl)
instance : TElem Try.prog 84 (.agg #[.int .i64 0, .int .i64 0, .int .i64 0, .int .i64 0]) 4 32 := .of (by kernel_rfl) rfl (by decide)
instance : TAgg Try.prog 84 4 := .of (by kernel_rfl) (by kernel_rfl)
instance : TBuild Try.prog 84 [(0, 2), (2, 2)] [.int .i64 0, .int .i64 0, .int .i64 0, .int .i64 0] := .of (by kernel_rfl) (by kernel_rfl)
instance : TFld Try.prog 84 0 0 := .of (by kernel_rfl)
instance : TFld Try.prog 84 1 2 := .of (by kernel_rfl)
def crossT (p q : PtT) : Int := p.x * q.y - p.y * q.x
def wr (x : Int) : Int := (x + 9223372036854775808) % 18446744073709551616 - 9223372036854775808
def sidesT (pc : List PtT) : List (PtT × PtT) := (List.range pc.length).map fun i => (pc.getD i dP, pc.getD ((i + 1) % pc.length) dP)
theorem sides_len (pc : List PtT) : (sidesT pc).length = pc.length := by simp [sidesT]
theorem sides_at {pc : List PtT} {i : Nat} (h : i < pc.length) : (sidesT pc)[i]? = some (pc.getD i dP, pc.getD ((i + 1) % pc.length) dP) := by
  unfold sidesT
  rw [List.getElem?_map, List.getElem?_range h]; rfl
theorem sides_get {pc : List PtT} {i : Nat} {p : PtT × PtT} (h : (sidesT pc)[i]? = some p) : i < pc.length ∧ p = (pc.getD i dP, pc.getD ((i + 1) % pc.length) dP) := by
  have h1 : i < (sidesT pc).length := (List.getElem?_eq_some_iff.1 h).1
  rw [sides_len] at h1
  rw [sides_at h1] at h
  exact ⟨h1, (Option.some.inj h).symm⟩
def areaTo (pc : List PtT) : Nat → Int
  | 0 => 0
  | k + 1 => wr (areaTo pc k + crossT (pc.getD k dP) (pc.getD ((k + 1) % pc.length) dP))
def areaT (pc : List PtT) : Int := areaTo pc pc.length
def sideT (a b c : PtT) : Int := sg (crossT ⟨b.x - a.x, b.y - a.y⟩ ⟨c.x - a.x, c.y - a.y⟩)
/-- p lies left of the first k sides -/
def leftTo (pc : List PtT) (p : PtT) (k : Nat) : Prop := ∀ i, i < k → ¬ sideT (pc.getD i dP) (pc.getD ((i + 1) % pc.length) dP) p < 0
theorem near_at {pc : List PtT} (h : ∀ p ∈ pc, NearT p) {i : Nat} (hi : i < pc.length) : NearT (pc.getD i dP) ∧ NearT (pc.getD ((i + 1) % pc.length) dP) := ⟨near_getD h hi, near_getD h (Nat.mod_lt _ (by omega))⟩
theorem a_PairCross (x y u v : Int) (hx : -1073741824 ≤ x ∧ x ≤ 1073741824) (hy : -1073741824 ≤ y ∧ y ≤ 1073741824) (hu : -1073741824 ≤ u ∧ u ≤ 1073741824) (hv : -1073741824 ≤ v ∧ v ≤ 1073741824) : Ans Try.prog 78 [.agg #[.int .i64 x, .int .i64 y, .int .i64 u, .int .i64 v]] (.int .i64 (x * v - y * u)) := by
  have m1 := mul_bound (A := 1073741824) (B := 1073741824) (x := x) (y := v) (by omega) (by omega) (by omega) (by omega)
  have m2 := mul_bound (A := 1073741824) (B := 1073741824) (x := y) (y := u) (by omega) (by omega) (by omega) (by omega)
  refine ans_of Try.func78 rfl Try.ntmps78 Try.results78 rfl rfl fun w => ?_
  refine v_seq ?_
  refine v_region ?_
  refine l_new rfl (o_box (cs := [_, _, _, _]) rfl rfl) fun b1 => ?_
  refine l_val rfl (o_assign rfl) ?_
  refine l_nil ?_
  refine kt_norm ?_
  refine v_seq ?_
  refine v_region ?_
  refine l_val rfl (o_fld rfl) ?_
  refine l_val rfl (o_fld rfl) ?_
  refine l_val rfl (o_load1 (key := 1) rfl rfl rfl) ?_
  refine l_val rfl (o_fld rfl) ?_
  refine l_val rfl (o_fld rfl) ?_
  refine l_val rfl (o_load1 (key := 1) rfl rfl rfl) ?_
  refine l_val rfl (o_muli rfl rfl ?_) ?_
  · omega
  refine l_val rfl (o_fld rfl) ?_
  refine l_val rfl (o_fld rfl) ?_
  refine l_val rfl (o_load1 (key := 1) rfl rfl rfl) ?_
  refine l_val rfl (o_fld rfl) ?_
  refine l_val rfl (o_fld rfl) ?_
  refine l_val rfl (o_load1 (key := 1) rfl rfl rfl) ?_
  refine l_val rfl (o_muli rfl rfl ?_) ?_
  · omega
  refine l_val rfl (o_subi rfl rfl ?_) ?_
  · omega
  refine l_val rfl (o_assign rfl) ?_
  refine l_nil ?_
  refine kt_norm ?_
  refine v_sel [2] [] rfl rfl ?_
  refine v_ret ?_
  refine ⟨[_], .cons (.tmp rfl) (ResAll.nil), ?_⟩
  rfl
theorem a_Cross (x y u v : Int) (hx : -1073741824 ≤ x ∧ x ≤ 1073741824) (hy : -1073741824 ≤ y ∧ y ≤ 1073741824) (hu : -1073741824 ≤ u ∧ u ≤ 1073741824) (hv : -1073741824 ≤ v ∧ v ≤ 1073741824) : Ans Try.prog 58 [.agg #[.int .i64 x, .int .i64 y], .agg #[.int .i64 u, .int .i64 v]] (.int .i64 (x * v - y * u)) := by
  refine ans_of Try.func58 rfl Try.ntmps58 Try.results58 rfl rfl fun w => ?_
  refine v_seq ?_
  refine v_region ?_
  refine l_new rfl (o_box (cs := [_, _]) rfl rfl) fun b2 => ?_
  refine l_new rfl (o_box (cs := [_, _]) rfl rfl) fun b3 => ?_
  refine l_val rfl (o_assign rfl) ?_
  refine l_nil ?_
  refine kt_norm ?_
  refine v_seq ?_
  refine v_region ?_
  refine l_val rfl (o_loadW (key := 2) rfl rfl rfl) ?_
  refine l_val rfl (o_loadW (key := 3) rfl rfl rfl) ?_
  refine l_val rfl (o_build (vs := [_, _]) (cs := [_, _, _, _]) rfl rfl) ?_
  refine l_ans (vs := [_]) rfl rfl (a_PairCross _ _ _ _ ?_ ?_ ?_ ?_) ?_
  · omega
  · omega
  · omega
  · omega
  refine l_val rfl (o_assign rfl) ?_
  refine l_nil ?_
  refine kt_norm ?_
  refine v_sel [4] [] rfl rfl ?_
  refine v_ret ?_
  refine ⟨[_], .cons (.tmp rfl) (ResAll.nil), ?_⟩
  rfl
theorem a_SCross (x y u v : Int) (hx : -2147483648 ≤ x ∧ x ≤ 2147483648) (hy : -2147483648 ≤ y ∧ y ≤ 2147483648) (hu : -2147483648 ≤ u ∧ u ≤ 2147483648) (hv : -2147483648 ≤ v ∧ v ≤ 2147483648) : Ans Try.prog 83 [.agg #[.int .i64 x, .int .i64 y], .agg #[.int .i64 u, .int .i64 v]] (wideV (x * v - y * u)) := by
  have m1 := mul_bound (A := 2147483648) (B := 2147483648) (x := x) (y := v) (by omega) (by omega) (by omega) (by omega)
  have m2 := mul_bound (A := 2147483648) (B := 2147483648) (x := y) (y := u) (by omega) (by omega) (by omega) (by omega)
  refine ans_of Try.func83 rfl Try.ntmps83 Try.results83 rfl rfl fun w => ?_
  refine v_seq ?_
  refine v_region ?_
  refine l_new rfl (o_box (cs := [_, _]) rfl rfl) fun b2 => ?_
  refine l_new rfl (o_box (cs := [_, _]) rfl rfl) fun b3 => ?_
  refine l_new rfl o_alloc fun b4 => ?_
  refine l_nil ?_
  refine kt_norm ?_
  refine v_seq ?_
  refine v_drawZ [[], [2], [], [3], [], [], [2], [], [3], [], [], [4]] mixed ?_ (by kernel_rfl) (by kernel_rfl)
  refine d_val (fun _ => rfl) rfl rfl (fun _ => o_fld rfl) ?_
  refine d_val (fun _ => rfl) rfl rfl (fun _ => o_load1 (key := 2) rfl rfl rfl) ?_
  refine d_val (fun _ => rfl) rfl rfl (fun _ => o_fld rfl) ?_
  refine d_val (fun _ => rfl) rfl rfl (fun _ => o_load1 (key := 3) rfl rfl rfl) ?_
  refine d_ans (vs := [_, _]) (fun _ => rfl) (fun _ => rfl) (a_Mul _ _ ?_ ?_) ?_
  · omega
  · omega
  refine d_val (fun _ => rfl) rfl rfl (fun _ => o_fld rfl) ?_
  refine d_val (fun _ => rfl) rfl rfl (fun _ => o_load1 (key := 2) rfl rfl rfl) ?_
  refine d_val (fun _ => rfl) rfl rfl (fun _ => o_fld rfl) ?_
  refine d_val (fun _ => rfl) rfl rfl (fun _ => o_load1 (key := 3) rfl rfl rfl) ?_
  refine d_ans (vs := [_, _]) (fun _ => rfl) (fun _ => rfl) (a_Mul _ _ ?_ ?_) ?_
  · omega
  · omega
  refine d_ans (vs := [_, _]) (fun _ => rfl) (fun _ => rfl) (a_Sub _ _ ?_ ?_) ?_
  · omega
  · omega
  refine d_store (fun _ => rfl) rfl rfl (fun _ => o_storeW (key := 4) (xs := [_, _]) rfl rfl rfl rfl rfl rfl rfl) ?_
  refine d_nil (fun σ => ?_)
  refine l_nil ?_
  refine kt_norm ?_
  refine v_sel [4] [4] rfl rfl ?_
  refine v_ret ?_
  refine ⟨[_], .cons (.cellW (key := 4) rfl rfl rfl) (ResAll.nil), ?_⟩
  rfl
theorem a_Side (a b c : PtT) (ha : NearT a) (hb : NearT b) (hc : NearT c) : Ans Try.prog 61 [.agg #[.int .i64 a.x, .int .i64 a.y], .agg #[.int .i64 b.x, .int .i64 b.y], .agg #[.int .i64 c.x, .int .i64 c.y]] (.int .i64 (sideT a b c)) := by
  unfold NearT at ha hb hc
  refine ans_of Try.func61 rfl Try.ntmps61 Try.results61 rfl rfl fun w => ?_
  refine v_seq ?_
  refine v_region ?_
  refine l_new rfl (o_box (cs := [_, _]) rfl rfl) fun b3 => ?_
  refine l_new rfl (o_box (cs := [_, _]) rfl rfl) fun b4 => ?_
  refine l_new rfl (o_box (cs := [_, _]) rfl rfl) fun b5 => ?_
  refine l_val rfl (o_assign rfl) ?_
  refine l_nil ?_
  refine kt_norm ?_
  refine v_seq ?_
  refine v_drawZ [[4], [3], [], [5], [3], [], [], [], []] mixed ?_ (by kernel_rfl) (by kernel_rfl)
  refine d_val (fun _ => rfl) rfl rfl (fun _ => o_loadW (key := 4) rfl rfl rfl) ?_
  refine d_val (fun _ => rfl) rfl rfl (fun _ => o_loadW (key := 3) rfl rfl rfl) ?_
  refine d_ans (vs := [_, _]) (fun _ => rfl) (fun _ => rfl) (a_PSub _ _ _ _ ?_ ?_ ?_ ?_) ?_
  · omega
  · omega
  · omega
  · omega
  refine d_val (fun _ => rfl) rfl rfl (fun _ => o_loadW (key := 5) rfl rfl rfl) ?_
  refine d_val (fun _ => rfl) rfl rfl (fun _ => o_loadW (key := 3) rfl rfl rfl) ?_
  refine d_ans (vs := [_, _]) (fun _ => rfl) (fun _ => rfl) (a_PSub _ _ _ _ ?_ ?_ ?_ ?_) ?_
  · omega
  · omega
  · omega
  · omega
  refine d_ans (vs := [_, _]) (fun _ => rfl) (fun _ => rfl) (a_SCross _ _ _ _ ?_ ?_ ?_ ?_) ?_
  · omega
  · omega
  · omega
  · omega
  refine d_ans (vs := [_]) (fun _ => rfl) (fun _ => rfl) (a_Sign _) ?_
  refine d_val (fun _ => rfl) rfl rfl (fun _ => o_assign rfl) ?_
  refine d_nil (fun σ => ?_)
  refine l_nil ?_
  refine kt_norm ?_
  refine v_sel [6] [] rfl rfl ?_
  refine v_ret ?_
  refine ⟨[_], .cons (.tmp rfl) (ResAll.nil), ?_⟩
  rfl
theorem a_sides (w : World) (a : Option Addr) (n c : Nat) : Calls Try.prog 57 #[.slice a n c] w fun e w' => ∃ b, e = .returned (.func (.func 77) #[] #[.pointer (some ⟨b, 0, none⟩)]) ∧ Below w.heap.size w w' ∧ Blk w' b #[.slice a n c] 32 ∧ w.heap.size ≤ b := by
  refine calls_box (args := [.slice a n c]) (X := fun b => .func (.func 77) #[] #[.pointer (some ⟨b, 0, none⟩)]) (cs := [.slice a n c]) Try.func57 rfl Try.ntmps57 Try.results57 rfl ?_
  refine v_seq ?_
  refine v_region ?_
  refine l_new rfl (o_box (cs := [_]) rfl rfl) fun b1 => ?_
  refine l_val rfl (o_assign rfl) ?_
  refine l_nil ?_
  refine kt_norm ?_
  refine v_seq ?_
  refine v_region ?_
  refine l_val rfl (o_makeFunc (vs := [_]) rfl) ?_
  refine l_val rfl (o_assign rfl) ?_
  refine l_nil ?_
  refine kt_norm ?_
  refine v_ret ?_
  refine ⟨[_], .cons (.tmp rfl) (ResAll.nil), ?_⟩
  exact ⟨1, b1, rfl, rfl⟩
theorem a_sides1 (b : Nat) (pv : Value) (pc : List PtT) (hs : pc.length ≤ 1000000) (hV : RowV pv pc.length) : Iter Try.prog 77 #[.pointer (some ⟨b, 0, none⟩)] (fun p : PtT × PtT => [.agg (eP p.1).toArray, .agg (eP p.2).toArray]) (sidesT pc) (fun w => Blk w b #[pv] 32 ∧ RowAt w pv 2 pc.length (pc.flatMap eP)) := by
  intro lp J Jx O0 W hJ hJx hJG hround hJ0
  have gst : ∀ {w w' : World}, Blk w b #[pv] 32 ∧ RowAt w pv 2 pc.length (pc.flatMap eP) → Chg (fun _ => False) w w' → Blk w' b #[pv] 32 ∧ RowAt w' pv 2 pc.length (pc.flatMap eP) := fun h hc => ⟨(hc.block b (Blk.lt h.1) (fun h => h)).trans h.1, h.2.chg hc (fun h => h)⟩
  have hG0 := (hJG _ _ _ hJ0).1
  refine enterI (A := fun W' => (∃ O', J (sidesT pc).length O' W') ∨ Jx W') (args := [.func (.yield lp) #[] #[], .pointer (some ⟨b, 0, none⟩)]) Try.func77 rfl Try.ntmps77 Try.results77 rfl (fun w w' h hc => h.imp (fun ⟨O, h⟩ => ⟨O, hJ _ _ _ _ h hc⟩) (fun h => hJx _ _ h hc)) ?_
  refine v_seq ?_
  refine v_region ?_
  refine l_val rfl (o_loadG1 rfl (fun w hg => (gst hG0 hg).1.cell 0 _ rfl)) ?_
  refine l_val rfl (o_len rfl hV) ?_
  refine l_val rfl (o_move rfl) ?_
  refine l_nil ?_
  refine kt_norm ?_
  refine v_block ?_
  refine v_loopL (α := Nat × World) (fun ⟨i, W2⟩ => [(8, .int .i64 (i : Int))]) (fun ⟨i, W2⟩ => []) (fun ⟨i, W2⟩ => fun w => Chg (fun _ => False) W2 w) (fun ⟨i, W2⟩ => fun b => b < W2.heap.size) (fun ⟨i, W2⟩ => i ≤ pc.length ∧ ∃ O2, J i O2 W2) (fun ⟨i, W2⟩ => pc.length - i) (0, W) [0, 1, 6, 7] [] ⟨Nat.zero_le _, O0, hJ0⟩ rfl rfl (And.intro rfl (True.intro)) rfl (True.intro) rfl ?_
  rintro ⟨i, W2⟩ ⟨hi, O2, hJ2⟩
  have hGk := fun w (hg : Chg (fun _ => False) W2 w) => gst (hJG _ _ _ hJ2).1 hg
  refine v_seq ?_
  refine v_region ?_
  refine l_split rfl (o_lss rfl rfl) (fun q1 => ?_) (fun q1 => ?_)
  · have hil : i < pc.length := by omega
    refine l_nil ?_
    refine kt_norm ?_
    refine v_seq ?_
    refine v_condT rfl ?_
    refine v_skip ?_
    refine kt_norm ?_
    refine v_seq ?_
    refine v_block ?_
    refine v_seq ?_
    refine v_region ?_
    refine l_val rfl (o_move rfl) ?_
    refine l_val rfl (o_idx (i) rfl hV rfl (by first | rfl | omega) (by omega)) ?_
    refine l_val rfl (o_loadRE (c' := [_, _]) rfl (row_imm (fun w hg => (hGk w hg).2)) (el_flat eP_len dP pc (i) (by omega)) rfl) ?_
    refine l_new rfl o_alloc fun b4 => ?_
    refine l_val rfl (o_assign rfl) ?_
    refine l_store rfl (o_storeW (key := 4) (xs := [_, _]) rfl rfl rfl rfl rfl rfl rfl) ?_
    refine l_nil ?_
    refine kt_norm ?_
    refine v_seq ?_
    refine v_drawZ [[], [], [], [], [], [], [], [], [], [5]] mixed ?_ (by kernel_rfl) (by kernel_rfl)
    refine d_val (fun _ => rfl) rfl rfl (fun _ => o_loadG1 rfl (fun w hg => (hGk w hg).1.cell 0 _ rfl)) ?_
    refine d_val (fun _ => rfl) rfl rfl (fun _ => o_move rfl) ?_
    refine d_val (fun _ => rfl) rfl rfl (fun _ => o_addi rfl rfl ?_) ?_
    · omega
    refine d_val (fun _ => rfl) rfl rfl (fun _ => o_loadG1 rfl (fun w hg => (hGk w hg).1.cell 0 _ rfl)) ?_
    refine d_val (fun _ => rfl) rfl rfl (fun _ => o_len rfl hV) ?_
    refine d_val (fun _ => rfl) rfl rfl (fun _ => o_remn rfl rfl ?_) ?_
    · omega
    refine d_val (fun _ => rfl) rfl rfl (fun _ => o_idx ((i + 1) % pc.length) rfl hV rfl (by first | rfl | omega) (Nat.mod_lt _ (by omega))) ?_
    refine d_val (fun _ => rfl) rfl rfl (fun _ => o_loadRE (c' := [_, _]) rfl (row_imm (fun w hg => (hGk w hg).2)) (el_flat eP_len dP pc ((i + 1) % pc.length) (Nat.mod_lt _ (by omega))) rfl) ?_
    refine d_new (fun _ => rfl) rfl rfl (fun _ => o_alloc) ?_
    refine d_store (fun _ => rfl) rfl rfl (fun _ => o_storeW (key := 5) (xs := [_, _]) rfl rfl rfl rfl rfl rfl rfl) ?_
    refine d_nil (fun σ => ?_)
    refine l_nil ?_
    refine kt_norm ?_
    refine v_sel [8, 0, 1, 6, 7, 4, 5] [4, 5] rfl rfl ?_
    refine v_seq ?_
    refine v_region ?_
    refine l_val rfl (o_move rfl) ?_
    refine l_val rfl (o_loadW (key := 4) rfl rfl rfl) ?_
    refine l_val rfl (o_loadW (key := 5) rfl rfl rfl) ?_
    refine l_yield (k := 0) (vs := [_, _]) (A := fun W3 => ∃ O3, J (i + 1) O3 W3) (B := Jx) rfl rfl (fun _ => trivial) (fun h => h) rfl rfl rfl (fun w hg => ⟨O2, yieldAt_mono (hround _ _ O2 w (sides_at hil) (hJ _ _ _ _ hJ2 hg)) (fun e w2 h => h.imp (fun h => ⟨h.1, h.2.1, h.2.2.imp fun O h => h.1⟩) id)⟩) (fun W3 hA => ?_) (fun W3 hBx => ?_)
    · obtain ⟨O3, hJ3⟩ := hA
      refine l_val rfl (o_not rfl rfl) ?_
      refine l_nil ?_
      refine kt_norm ?_
      refine v_sel [8, 0, 1, 6, 7, 25] [] rfl rfl ?_
      refine v_condF rfl ?_
      refine v_skip ?_
      refine kb_norm ?_
      refine kt_norm ?_
      refine v_region ?_
      refine l_val rfl (o_addi rfl rfl ?_) ?_
      · omega
      refine l_val rfl (o_move rfl) ?_
      refine l_nil ?_
      refine kt_norm ?_
      refine ⟨(i + 1, W3), ⟨hil, O3, hJ3⟩, (by show pc.length - (i + 1) < pc.length - i; omega), le_app (And.intro rfl (True.intro)) [0, 1, 6, 7] rfl (True.intro) [] rfl⟩
    · skip
      refine l_val rfl (o_not rfl rfl) ?_
      refine l_nil ?_
      refine kt_norm ?_
      refine v_sel [8, 0, 1, 6, 7, 25] [] rfl rfl ?_
      refine v_condT rfl ?_
      refine v_ret ?_
      refine kb_ret ?_
      refine kt_ret ?_
      refine kt_ret ?_
      refine kb_ret ?_
      refine ⟨[], ResAll.nil, ?_⟩
      first
        | exact ⟨rfl, fun w hg => .inr (hJx _ _ hBx hg)⟩
        | exact ⟨rfl, fun w hg => .inl ⟨O2, hJ _ _ _ _ (by rw [sides_len, show pc.length = i by omega]; exact hJ2) hg⟩⟩
  · skip
    refine l_nil ?_
    refine kt_norm ?_
    refine v_seq ?_
    refine v_condF rfl ?_
    refine v_exit ?_
    refine kt_exit ?_
    refine kt_exit ?_
    refine kb_eq ?_
    refine ⟨[], ResAll.nil, ?_⟩
    first
      | exact ⟨rfl, fun w hg => .inr (hJx _ _ hBx hg)⟩
      | exact ⟨rfl, fun w hg => .inl ⟨O2, hJ _ _ _ _ (by rw [sides_len, show pc.length = i by omega]; exact hJ2) hg⟩⟩
end Go.Proofs.Ytpgjbalnipinoaa

/- The area of a piece; what lies left of all its sides. Conditions: none. -/
namespace Go.Proofs.Ytpgjbalnipinoaa
open Go.Proofs Go.RowKit Go.Shelf

def leftB (pc : List PtT) (p : PtT) : Bool := (sidesT pc).all fun s => !(decide (sideT s.1 s.2 p < 0))
theorem left_no {pc : List PtT} {p : PtT} {i : Nat} (hi : i < pc.length) (h : sideT (pc.getD i dP) (pc.getD ((i + 1) % pc.length) dP) p < 0) : leftB pc p = false := by
  unfold leftB
  rw [List.all_eq_false]
  exact ⟨_, List.mem_of_getElem? (sides_at hi), by simp only [h, decide_true, Bool.not_true]; simp⟩
theorem left_yes {pc : List PtT} {p : PtT} (h : ∀ i, i < pc.length → ¬ sideT (pc.getD i dP) (pc.getD ((i + 1) % pc.length) dP) p < 0) : leftB pc p = true := by
  unfold leftB
  rw [List.all_eq_true]
  intro s hs
  obtain ⟨i, hi, rfl⟩ := List.getElem_of_mem hs
  obtain ⟨h1, h2⟩ := sides_get (pc := pc) (i := i) (List.getElem?_eq_getElem hi)
  rw [h2]
  have := h i h1
  simp only [this, decide_false, Bool.not_false]
theorem a_Area (w : World) (v : Value) (pc : List PtT) (hs : pc.length ≤ 1000000) (hV : RowV v pc.length) (hrow : RowAt w v 2 pc.length (pc.flatMap eP)) (hnear : ∀ p ∈ pc, NearT p) :
    Calls Try.prog 40 #[v] w fun e w' => e = .returned (.int .i64 (areaT pc)) ∧ Below w.heap.size w w' := by
  have hr : ∀ w', Chg (fun _ => False) w w' → RowAt w' v 2 pc.length (pc.flatMap eP) := fun w' h => hrow.chg h (fun h => h)
  obtain ⟨a0, c0, rfl⟩ := hV.sl
  refine calls_of (args := [.slice a0 pc.length c0]) Try.func40 rfl Try.ntmps40 Try.results40 rfl ?_
  refine v_seq ?_
  refine v_region ?_
  refine l_new rfl o_alloc fun b2 => ?_
  refine l_nil ?_
  refine kt_norm ?_
  refine v_seq ?_
  refine v_seq ?_
  refine v_region ?_
  refine l_val rfl (o_move rfl) ?_
  refine l_gbox (ks := []) (caps := #[]) (vs := [_]) (T := 32) (cs := [_]) rfl rfl (ent_of Try.func57 rfl rfl) rfl (fun w' _ _ => a_sides w' a0 pc.length c0) fun b6 => ?_
  refine l_nil ?_
  refine kt_norm ?_
  refine v_block ?_
  refine v_freeze 6 [2] rfl rfl rfl ?_
  refine v_range (τ := Int) rfl rfl rfl (ent_of Try.func77 rfl rfl) (a_sides1 b6 (.slice a0 pc.length c0) pc hs hV) (fun w' hg => ⟨hg.2, hr w' hg.1⟩) (fun _ => rfl) (fun t => [(2, .box b2 3 [.int .i64 t])]) (fun k t => t = areaTo pc k) 0 rfl [2] rfl ?_ ?_
  · rintro k x t lp W1 Wa hx rfl
    obtain ⟨hk, rfl⟩ := sides_get hx
    have hn := near_at hnear hk
    unfold NearT at hn
    dsimp only
    refine v_seq ?_
    refine v_region ?_
    refine l_new rfl o_alloc fun b3 => ?_
    refine l_store rfl (o_storeW (key := 3) (xs := [_, _]) rfl rfl rfl rfl rfl rfl rfl) ?_
    refine l_nil ?_
    refine kt_norm ?_
    refine v_region ?_
    refine l_new rfl o_alloc fun b4 => ?_
    refine l_store rfl (o_storeW (key := 4) (xs := [_, _]) rfl rfl rfl rfl rfl rfl rfl) ?_
    refine l_nil ?_
    refine ⟨rfl, rfl, rfl, rfl, fun W2 Wb => ?_⟩
    refine v_block ?_
    refine v_drawZ [[2], [3], [4], [], [], [2]] mixed ?_ (by kernel_rfl) (by kernel_rfl)
    refine d_val (fun _ => rfl) rfl rfl (fun _ => o_load1 (key := 2) rfl rfl rfl) ?_
    refine d_val (fun _ => rfl) rfl rfl (fun _ => o_loadW (key := 3) rfl rfl rfl) ?_
    refine d_val (fun _ => rfl) rfl rfl (fun _ => o_loadW (key := 4) rfl rfl rfl) ?_
    refine d_ans (vs := [_, _]) (fun _ => rfl) (fun _ => rfl) (a_Cross _ _ _ _ ?_ ?_ ?_ ?_) ?_
    · omega
    · omega
    · omega
    · omega
    refine d_val (fun _ => rfl) rfl rfl (fun _ => o_add rfl rfl (wrap_i64m _)) ?_
    refine d_store (fun _ => rfl) rfl rfl (fun _ => o_store1 (key := 2) (rs := [_]) rfl rfl rfl rfl rfl rfl rfl) ?_
    refine d_nil (fun σ => ?_)
    refine l_nil ?_
    refine kb_norm ?_
    exact ⟨rfl, areaTo pc (k + 1), rfl, ⟨fun _ _ h => (by cases h), leL_ok _ (And.intro rfl True.intro), rfl, rfl, rfl⟩⟩
  · rintro t D hQ
    rw [sides_len] at hQ
    subst hQ
    refine kb_norm ?_
    refine kt_norm ?_
    refine v_seq ?_
    refine v_region ?_
    refine l_val rfl (o_load1 (key := 2) rfl rfl rfl) ?_
    refine l_store rfl (o_store1 (key := 2) (rs := [_]) rfl rfl rfl rfl rfl rfl rfl) ?_
    refine l_nil ?_
    refine kt_norm ?_
    refine v_ret ?_
    refine ⟨[_], .cons (.cell1 (key := 2) rfl rfl) (ResAll.nil), ?_⟩
    rfl
theorem a_left (w : World) (v : Value) (pc : List PtT) (p : PtT) (hs : pc.length ≤ 1000000) (hV : RowV v pc.length) (hrow : RowAt w v 2 pc.length (pc.flatMap eP)) (hnear : ∀ p ∈ pc, NearT p) (hp : NearT p) :
    Calls Try.prog 42 #[v, .agg #[.int .i64 p.x, .int .i64 p.y]] w fun e w' => e = .returned (.bool (leftB pc p)) ∧ Below w.heap.size w w' := by
  have hr : ∀ w', Chg (fun _ => False) w w' → RowAt w' v 2 pc.length (pc.flatMap eP) := fun w' h => hrow.chg h (fun h => h)
  obtain ⟨a0, c0, rfl⟩ := hV.sl
  refine calls_of (args := [.slice a0 pc.length c0, .agg #[.int .i64 p.x, .int .i64 p.y]]) Try.func42 rfl Try.ntmps42 Try.results42 rfl ?_
  refine v_seq ?_
  refine v_region ?_
  refine l_new rfl (o_box (cs := [_, _]) rfl rfl) fun b3 => ?_
  refine l_new rfl o_alloc fun b4 => ?_
  refine l_nil ?_
  refine kt_norm ?_
  refine v_seq ?_
  refine v_seq ?_
  refine v_region ?_
  refine l_val rfl (o_move rfl) ?_
  refine l_gbox (ks := []) (caps := #[]) (vs := [_]) (T := 32) (cs := [_]) rfl rfl (ent_of Try.func57 rfl rfl) rfl (fun w' _ _ => a_sides w' a0 pc.length c0) fun b8 => ?_
  refine l_nil ?_
  refine kt_norm ?_
  refine v_block ?_
  refine v_freeze 8 [3, 4] rfl rfl rfl ?_
  refine v_rangeR (τ := Bool) rfl rfl rfl (ent_of Try.func77 rfl rfl) (a_sides1 b8 (.slice a0 pc.length c0) pc hs hV) (fun w' hg => ⟨hg.2, hr w' hg.1⟩) (fun _ => rfl) (fun t => [(3, .box b3 23 [.int .i64 p.x, .int .i64 p.y]), (4, .box b4 4 [.bool t])]) (fun k t => t = false ∧ ∀ i, i < k → ¬ sideT (pc.getD i dP) (pc.getD ((i + 1) % pc.length) dP) p < 0) (fun t => t = false ∧ leftB pc p = false) false ⟨rfl, fun i hi => absurd hi (Nat.not_lt_zero i)⟩ [3, 4] rfl ?_ ?_ ?_
  · rintro k x t lp W1 Wa hx ⟨rfl, hB⟩
    obtain ⟨hk, rfl⟩ := sides_get hx
    have hn := near_at hnear hk
    dsimp only
    refine v_seq ?_
    refine v_region ?_
    refine l_new rfl o_alloc fun b5 => ?_
    refine l_store rfl (o_storeW (key := 5) (xs := [_, _]) rfl rfl rfl rfl rfl rfl rfl) ?_
    refine l_nil ?_
    refine kt_norm ?_
    refine v_region ?_
    refine l_new rfl o_alloc fun b6 => ?_
    refine l_store rfl (o_storeW (key := 6) (xs := [_, _]) rfl rfl rfl rfl rfl rfl rfl) ?_
    refine l_nil ?_
    refine ⟨rfl, rfl, rfl, rfl, fun W2 Wb => ?_⟩
    refine v_block ?_
    refine v_seq ?_
    refine v_region ?_
    refine l_val rfl (o_loadW (key := 5) rfl rfl rfl) ?_
    refine l_val rfl (o_loadW (key := 6) rfl rfl rfl) ?_
    refine l_val rfl (o_loadW (key := 3) rfl rfl rfl) ?_
    refine l_ans (vs := [_, _, _]) rfl rfl (a_Side (pc.getD k dP) (pc.getD ((k + 1) % pc.length) dP) p hn.1 hn.2 hp) ?_
    refine l_split rfl (o_lss rfl rfl) (fun h44 => ?_) (fun h44 => ?_)
    · skip
      refine l_nil ?_
      refine kt_norm ?_
      refine v_sel [0, 1, 3, 4, 7, 8, 5, 6, 15] [3, 4, 5, 6] rfl rfl ?_
      refine v_condT rfl ?_
      refine v_seq ?_
      refine v_region ?_
      refine l_store rfl (o_store1 (key := 4) (rs := [_]) rfl rfl rfl rfl rfl rfl rfl) ?_
      refine l_nil ?_
      refine kt_norm ?_
      refine v_sel [4] [3, 4] rfl rfl ?_
      refine v_ret ?_
      refine kb_ret ?_
      exact .inr ⟨rfl, false, ⟨rfl, left_no hk h44⟩, ⟨fun _ _ h => (by cases h), leL_ok _ (And.intro rfl (And.intro rfl True.intro)), rfl, rfl, rfl⟩⟩
    · skip
      refine l_nil ?_
      refine kt_norm ?_
      refine v_sel [0, 1, 3, 4, 7, 8, 5, 6, 15] [3, 4, 5, 6] rfl rfl ?_
      refine v_condF rfl ?_
      refine v_skip ?_
      refine kb_norm ?_
      exact .inl ⟨rfl, false, ⟨rfl, fun i hi => by rcases Nat.lt_or_eq_of_le (Nat.le_of_lt_succ hi) with h | h; exact hB i h; subst h; exact h44⟩, ⟨fun _ _ h => (by cases h), leL_ok _ (And.intro rfl (And.intro rfl True.intro)), rfl, rfl, rfl⟩⟩
  · rintro t D ⟨rfl, hB⟩
    rw [sides_len] at hB
    refine kb_norm ?_
    refine kt_norm ?_
    refine v_seq ?_
    refine v_region ?_
    refine l_store rfl (o_store1 (key := 4) (rs := [_]) rfl rfl rfl rfl rfl rfl rfl) ?_
    refine l_nil ?_
    refine kt_norm ?_
    refine v_ret ?_
    refine ⟨[_], .cons (.cell1 (key := 4) rfl rfl) (ResAll.nil), ?_⟩
    first
      | exact congrArg Value.bool (left_yes hB).symm
      | exact congrArg Value.bool hL.symm
  · rintro t D ⟨rfl, hL⟩
    refine kb_ret ?_
    refine kt_ret ?_
    refine ⟨[_], .cons (.cell1 (key := 4) rfl rfl) (ResAll.nil), ?_⟩
    first
      | exact congrArg Value.bool (left_yes hB).symm
      | exact congrArg Value.bool hL.symm
end Go.Proofs.Ytpgjbalnipinoaa

/- Whether a piece is convex. Conditions: none. -/
namespace Go.Proofs.Ytpgjbalnipinoaa
open Go.Proofs Go.RowKit Go.Shelf

def idxG {α : Type} (p : α → Bool) (l : List α) : Int := if l.findIdx p = l.length then -1 else ((l.findIdx p : Nat) : Int)
theorem idxG_yes {α : Type} {d : α} {p : α → Bool} {l : List α} {i : Nat} (hi : i < l.length) (hb : ∀ j, j < i → p (l.getD j d) = false) (h : p (l.getD i d) = true) : idxG p l = i := by
  have e : l.findIdx p = i := (List.findIdx_eq hi).2 ⟨by simpa [List.getD_eq_getElem?_getD, hi] using h, fun j hj => by
    have := hb j hj
    simpa [List.getD_eq_getElem?_getD, show j < l.length by omega] using this⟩
  unfold idxG; rw [e, if_neg (by omega)]
theorem idxG_no {α : Type} {d : α} {p : α → Bool} {l : List α} (hb : ∀ j, j < l.length → p (l.getD j d) = false) : idxG p l = -1 := by
  have e : l.findIdx p = l.length := List.findIdx_eq_length.2 fun x hx => by
    obtain ⟨j, hj, rfl⟩ := List.getElem_of_mem hx
    simpa [List.getD_eq_getElem?_getD, hj] using hb j hj
  unfold idxG; rw [if_pos e]
theorem idxG_any {α : Type} (p : α → Bool) (l : List α) : decide (0 ≤ idxG p l) = l.any p := by
  unfold idxG
  by_cases h : l.findIdx p = l.length
  · rw [if_pos h]
    have := List.findIdx_eq_length.1 h
    rw [Bool.eq_iff_iff]
    simp only [decide_eq_true_eq, List.any_eq_true]
    exact ⟨fun h => by omega, fun ⟨x, hx, e⟩ => by have := this x hx; rw [e] at this; cases this⟩
  · rw [if_neg h]
    have hlt : l.findIdx p < l.length := by have := List.findIdx_le_length (p := p) (xs := l); omega
    have := (List.findIdx_eq hlt).1 rfl
    rw [Bool.eq_iff_iff]
    simp only [decide_eq_true_eq, List.any_eq_true]
    exact ⟨fun _ => ⟨_, List.getElem_mem hlt, this.1⟩, fun _ => by omega⟩
theorem pt_mem {pc : List PtT} {i : Nat} (h : i < pc.length) : pc.getD i dP ∈ pc := by
  rw [List.getD_eq_getElem?_getD, List.getElem?_eq_getElem h]; exact List.getElem_mem h
def convexB (pc : List PtT) : Bool := decide (3 ≤ pc.length) && (decide (0 < areaT pc) && !(pc.any fun p => !leftB pc p))
theorem a_IndexP {f : Nat} {caps : Array Value} {p : PtT → Bool} (w : World) (v : Value) (l : List PtT) (hn : l.length ≤ 1000000) (hV : RowV v l.length) (hrow : RowAt w v 2 l.length (l.flatMap eP)) (hent : ∀ args w, (callFunc f args).run Try.prog w = .ok (.enter f args) w) (hp : ∀ (w' : World) (x : PtT), x ∈ l → Chg (fun _ => False) w w' → Calls Try.prog f (#[.agg (eP x).toArray] ++ caps) w' fun e w2 => e = .returned (.bool (p x)) ∧ Below w'.heap.size w' w2) :
    Calls Try.prog 62 #[v, .func (.func f) #[] caps] w fun e w' => e = .returned (.int .i64 (idxG p l)) ∧ Below w.heap.size w w' := by
  have hr : ∀ w', Chg (fun _ => False) w w' → RowAt w' v 2 l.length (l.flatMap eP) := fun w' h => hrow.chg h (fun h => h)
  refine calls_of (args := [v, .func (.func f) #[] caps]) Try.func62 rfl Try.ntmps62 Try.results62 rfl ?_
  refine v_seq ?_
  refine v_region ?_
  refine l_val rfl (o_assign rfl) ?_
  refine l_nil ?_
  refine kt_norm ?_
  refine v_seq ?_
  refine v_seq ?_
  refine v_region ?_
  refine l_val rfl (o_move rfl) ?_
  refine l_val rfl (o_len rfl hV) ?_
  refine l_val rfl (o_move rfl) ?_
  refine l_nil ?_
  refine kt_norm ?_
  refine v_block ?_
  refine v_loopS (α := Nat) (fun i => [(8, .int .i64 (i : Int))]) (fun i => [])  (fun i => i ≤ l.length ∧ ∀ j, j < i → p (l.getD j dP) = false) (fun i => l.length - i) 0 [0, 1, 7] [] ⟨by omega, fun j h => by omega⟩  (And.intro rfl (True.intro)) rfl (True.intro) rfl ?_
  rintro i ⟨hi, hb⟩
  refine v_seq ?_
  refine v_region ?_
  refine l_split rfl (o_lss rfl rfl) (fun q1 => ?_) (fun q1 => ?_)
  · first
    | (exfalso; assumption; done)
    | (
        refine l_nil ?_
        refine kt_norm ?_
        refine v_seq ?_
        refine v_condT rfl ?_
        refine v_skip ?_
        refine kt_norm ?_
        refine v_seq ?_
        refine v_block ?_
        refine v_seq ?_
        refine v_region ?_
        refine l_val rfl (o_move rfl) ?_
        refine l_val rfl (o_assign rfl) ?_
        refine l_nil ?_
        refine kt_norm ?_
        refine v_seq ?_
        refine v_region ?_
        refine l_val rfl (o_move rfl) ?_
        refine l_val rfl (o_move rfl) ?_
        refine l_val rfl (o_move rfl) ?_
        refine l_val rfl (o_idx (i) rfl hV rfl (by first | rfl | omega) (by omega)) ?_
        refine l_val rfl (o_loadRE (c' := [_, _]) rfl (row_imm hr) (el_flat eP_len dP l (i) (by omega)) rfl) ?_
        refine l_call (ks := []) rfl (o_callF (caps := caps) (vs := [_]) (r := .bool (p (l.getD i dP))) rfl hent rfl (fun w' hg _ => hp w' (l.getD i dP) (pt_mem (by omega)) hg)) ?_
        refine lz_cases (fun q2 => ?_) (fun q2 => ?_)
        · first
          | (exfalso; assumption; done)
          | (
              refine l_nil ?_
              refine kt_norm ?_
              refine v_sel [8, 0, 1, 7, 5, 16] [] rfl rfl ?_
              refine v_condT rfl ?_
              refine v_seq ?_
              refine v_region ?_
              refine l_val rfl (o_move rfl) ?_
              refine l_val rfl (o_assign rfl) ?_
              refine l_nil ?_
              refine kt_norm ?_
              refine v_sel [4] [] rfl rfl ?_
              refine v_ret ?_
              refine kb_ret ?_
              refine kt_ret ?_
              refine kt_ret ?_
              refine kb_ret ?_
              refine kt_ret ?_
              refine ⟨[_], .cons (.tmp rfl) (ResAll.nil), ?_⟩
              first
                | exact congrArg (Value.int .i64) (idxG_yes (d := dP) (by omega) hb (by assumption)).symm
                | exact congrArg (Value.int .i64) (idxG_no (d := dP) (fun j hj => hb j (by omega))).symm)
        · first
          | (exfalso; assumption; done)
          | (
              refine l_nil ?_
              refine kt_norm ?_
              refine v_sel [8, 0, 1, 7, 5, 16] [] rfl rfl ?_
              refine v_condF rfl ?_
              refine v_skip ?_
              refine kb_norm ?_
              refine kt_norm ?_
              refine v_region ?_
              refine l_val rfl (o_addi rfl rfl ?_) ?_
              · omega
              refine l_val rfl (o_move rfl) ?_
              refine l_nil ?_
              refine kt_norm ?_
              refine ⟨i + 1, ⟨by omega, fun j hj => by rcases Nat.lt_or_eq_of_le (Nat.le_of_lt_succ hj) with h | h; exact hb j h; subst h; assumption⟩, by omega, le_app (And.intro rfl (True.intro)) [0, 1, 7] rfl (True.intro) [] rfl⟩))
  · first
    | (exfalso; assumption; done)
    | (
        refine l_nil ?_
        refine kt_norm ?_
        refine v_seq ?_
        refine v_condF rfl ?_
        refine v_exit ?_
        refine kt_exit ?_
        refine kt_exit ?_
        refine kb_eq ?_
        refine kt_norm ?_
        refine v_seq ?_
        refine v_region ?_
        refine l_val rfl (o_assign rfl) ?_
        refine l_nil ?_
        refine kt_norm ?_
        refine v_ret ?_
        refine ⟨[_], .cons (.tmp rfl) (ResAll.nil), ?_⟩
        first
          | exact congrArg (Value.int .i64) (idxG_yes (d := dP) (by omega) hb (by assumption)).symm
          | exact congrArg (Value.int .i64) (idxG_no (d := dP) (fun j hj => hb j (by omega))).symm)
theorem a_ContP {f : Nat} {caps : Array Value} {p : PtT → Bool} (w : World) (v : Value) (l : List PtT) (hn : l.length ≤ 1000000) (hV : RowV v l.length) (hrow : RowAt w v 2 l.length (l.flatMap eP)) (hent : ∀ args w, (callFunc f args).run Try.prog w = .ok (.enter f args) w) (hp : ∀ (w' : World) (x : PtT), x ∈ l → Chg (fun _ => False) w w' → Calls Try.prog f (#[.agg (eP x).toArray] ++ caps) w' fun e w2 => e = .returned (.bool (p x)) ∧ Below w'.heap.size w' w2) :
    Calls Try.prog 43 #[v, .func (.func f) #[] caps] w fun e w' => e = .returned (.bool (l.any p)) ∧ Below w.heap.size w w' := by
  have hr : ∀ w', Chg (fun _ => False) w w' → RowAt w' v 2 l.length (l.flatMap eP) := fun w' h => hrow.chg h (fun h => h)
  refine calls_of (args := [v, .func (.func f) #[] caps]) Try.func43 rfl Try.ntmps43 Try.results43 rfl ?_
  refine v_seq ?_
  refine v_region ?_
  refine l_val rfl (o_assign rfl) ?_
  refine l_nil ?_
  refine kt_norm ?_
  refine v_seq ?_
  refine v_region ?_
  refine l_val rfl (o_move rfl) ?_
  refine l_val rfl (o_move rfl) ?_
  refine l_call (ks := []) rfl (o_callC (vs := [_, _]) (r := .int .i64 (idxG p l)) (ent_of Try.func62 rfl rfl) rfl (fun w' hg hh => a_IndexP w' v l hn hV (hr w' hg) hent (fun w2 x hx hc => hp w2 x hx (hg.trans (hc.mono fun k _ h => h.elim))))) ?_
  refine l_val rfl (o_geq rfl rfl) ?_
  refine l_val rfl (o_assign rfl) ?_
  refine l_nil ?_
  refine kt_norm ?_
  refine v_sel [4] [] rfl rfl ?_
  refine v_ret ?_
  refine ⟨[_], .cons (.tmp rfl) (ResAll.nil), ?_⟩
  exact congrArg Value.bool (idxG_any p l)
theorem a_Convex1 (w : World) (b : Nat) (v : Value) (pc : List PtT) (x : PtT) (hs : pc.length ≤ 1000000) (hV : RowV v pc.length) (hrow : RowAt w v 2 pc.length (pc.flatMap eP)) (hnear : ∀ p ∈ pc, NearT p) (hx : NearT x) (hG : Blk w b #[v] 32) :
    Calls Try.prog 44 #[.agg #[.int .i64 x.x, .int .i64 x.y], .pointer (some ⟨b, 0, none⟩)] w fun e w' => e = .returned (.bool (!leftB pc x)) ∧ Below w.heap.size w w' := by
  have hr : ∀ w', Chg (fun _ => False) w w' → RowAt w' v 2 pc.length (pc.flatMap eP) := fun w' h => hrow.chg h (fun h => h)
  have hGk : ∀ w', Chg (fun _ => False) w w' → Blk w' b #[v] 32 := fun w' h => (h.block b (Blk.lt hG) (fun h => h)).trans hG
  refine calls_of (args := [.agg #[.int .i64 x.x, .int .i64 x.y], .pointer (some ⟨b, 0, none⟩)]) Try.func44 rfl Try.ntmps44 Try.results44 rfl ?_
  refine v_seq ?_
  refine v_region ?_
  refine l_new rfl (o_box (cs := [_, _]) rfl rfl) fun b2 => ?_
  refine l_val rfl (o_assign rfl) ?_
  refine l_nil ?_
  refine kt_norm ?_
  refine v_seq ?_
  refine v_region ?_
  refine l_val rfl (o_loadG1 rfl (fun w hg => (hGk w hg).cell 0 _ rfl)) ?_
  refine l_val rfl (o_loadW (key := 2) rfl rfl rfl) ?_
  refine l_call (ks := []) rfl (o_callC (vs := [_, _]) (r := .bool (leftB pc x)) (ent_of Try.func42 rfl rfl) rfl (fun w' hg hh => a_left w' v pc x hs hV (hr w' hg) hnear hx)) ?_
  refine l_val rfl (o_not rfl rfl) ?_
  refine l_val rfl (o_assign rfl) ?_
  refine l_nil ?_
  refine kt_norm ?_
  refine v_sel [3] [] rfl rfl ?_
  refine v_ret ?_
  refine ⟨[_], .cons (.tmp rfl) (ResAll.nil), ?_⟩
  rfl
theorem a_Convex (w : World) (v : Value) (pc : List PtT) (hs : pc.length ≤ 1000000) (hV : RowV v pc.length) (hrow : RowAt w v 2 pc.length (pc.flatMap eP)) (hnear : ∀ p ∈ pc, NearT p) :
    Calls Try.prog 22 #[v] w fun e w' => e = .returned (.bool (convexB pc)) ∧ Below w.heap.size w w' := by
  have hr : ∀ w', Chg (fun _ => False) w w' → RowAt w' v 2 pc.length (pc.flatMap eP) := fun w' h => hrow.chg h (fun h => h)
  obtain ⟨a0, c0, rfl⟩ := hV.sl
  refine calls_of (args := [.slice a0 pc.length c0]) Try.func22 rfl Try.ntmps22 Try.results22 rfl ?_
  refine v_seq ?_
  refine v_region ?_
  refine l_new rfl (o_box (cs := [_]) rfl rfl) fun b1 => ?_
  refine l_val rfl (o_assign rfl) ?_
  refine l_nil ?_
  refine kt_norm ?_
  refine v_seq ?_
  refine v_region ?_
  skip
  refine l_val rfl (o_load1 (key := 1) rfl rfl rfl) ?_
  refine l_val rfl (o_len rfl hV) ?_
  refine l_split rfl (o_geq rfl rfl) (fun h3 => ?_) (fun h3 => ?_)
  · skip
    refine l_val rfl (o_move rfl) ?_
    refine l_val rfl (o_load1 (key := 1) rfl rfl rfl) ?_
    refine l_call (ks := []) rfl (o_callC (vs := [_]) (r := .int .i64 (areaT pc)) (ent_of Try.func40 rfl rfl) rfl (fun w' hg hh => a_Area w' (.slice a0 pc.length c0) pc hs hV (hr w' hg) hnear)) ?_
    refine l_split rfl (o_gtr rfl rfl) (fun ha => ?_) (fun ha => ?_)
    · skip
      refine l_val rfl (o_pickT rfl rfl) ?_
      refine l_val rfl (o_move rfl) ?_
      refine l_val rfl (o_load1 (key := 1) rfl rfl rfl) ?_
      refine l_val rfl (o_makeFunc (vs := [_]) rfl) ?_
      refine l_call (ks := [1]) rfl (o_callC (vs := [_, _]) (r := .bool (pc.any fun p => !leftB pc p)) (ent_of Try.func43 rfl rfl) rfl (fun w' hg hh => a_ContP w' (.slice a0 pc.length c0) pc hs hV (hr w' hg) (ent_of Try.func44 rfl rfl) (fun w2 x hx hc => a_Convex1 w2 b1 (.slice a0 pc.length c0) pc x hs hV ((hr w' hg).chg hc (fun h => h)) hnear (hnear x hx) ((hc.block b1 (Blk.lt (hh 1 (by simp) _ rfl)) (fun h => h)).trans (hh 1 (by simp) _ rfl))))) ?_
      refine l_val rfl (o_not rfl rfl) ?_
      refine l_val rfl (o_pickT rfl rfl) ?_
      refine l_val rfl (o_assign rfl) ?_
      refine l_nil ?_
      refine kt_norm ?_
      refine v_sel [2] [1] rfl rfl ?_
      refine v_ret ?_
      refine ⟨[_], .cons (.tmp rfl) (ResAll.nil), ?_⟩
      refine congrArg Value.bool ?_
      unfold convexB
      first
        | (rw [decide_eq_false (show ¬ 3 ≤ pc.length by omega)]; rfl)
        | (rw [decide_eq_true (show 3 ≤ pc.length by omega), decide_eq_false (show ¬ 0 < areaT pc by omega)]; rfl)
        | (rw [decide_eq_true (show 3 ≤ pc.length by omega), decide_eq_true (show 0 < areaT pc by omega)]; rfl)
    · skip
      refine l_val rfl (o_pickT rfl rfl) ?_
      refine l_val rfl (o_move rfl) ?_
      refine l_no rfl ?_
      refine l_no rfl ?_
      refine l_no rfl ?_
      refine l_no rfl ?_
      refine l_val rfl (o_pickF rfl rfl) ?_
      refine l_val rfl (o_assign rfl) ?_
      refine l_nil ?_
      refine kt_norm ?_
      refine v_sel [2] [1] rfl rfl ?_
      refine v_ret ?_
      refine ⟨[_], .cons (.tmp rfl) (ResAll.nil), ?_⟩
      refine congrArg Value.bool ?_
      unfold convexB
      first
        | (rw [decide_eq_false (show ¬ 3 ≤ pc.length by omega)]; rfl)
        | (rw [decide_eq_true (show 3 ≤ pc.length by omega), decide_eq_false (show ¬ 0 < areaT pc by omega)]; rfl)
        | (rw [decide_eq_true (show 3 ≤ pc.length by omega), decide_eq_true (show 0 < areaT pc by omega)]; rfl)
  · skip
    refine l_val rfl (o_move rfl) ?_
    refine l_no rfl ?_
    refine l_no rfl ?_
    refine l_no rfl ?_
    refine l_val rfl (o_pickF rfl rfl) ?_
    refine l_val rfl (o_move rfl) ?_
    refine l_no rfl ?_
    refine l_no rfl ?_
    refine l_no rfl ?_
    refine l_no rfl ?_
    refine l_val rfl (o_pickF rfl rfl) ?_
    refine l_val rfl (o_assign rfl) ?_
    refine l_nil ?_
    refine kt_norm ?_
    refine v_sel [2] [1] rfl rfl ?_
    refine v_ret ?_
    refine ⟨[_], .cons (.tmp rfl) (ResAll.nil), ?_⟩
    refine congrArg Value.bool ?_
    unfold convexB
    first
      | (rw [decide_eq_false (show ¬ 3 ≤ pc.length by omega)]; rfl)
      | (rw [decide_eq_true (show 3 ≤ pc.length by omega), decide_eq_false (show ¬ 0 < areaT pc by omega)]; rfl)
      | (rw [decide_eq_true (show 3 ≤ pc.length by omega), decide_eq_true (show 0 < areaT pc by omega)]; rfl)
end Go.Proofs.Ytpgjbalnipinoaa

/- Points that are copied, and told backwards. Conditions: none. -/
namespace Go.Proofs.Ytpgjbalnipinoaa
open Go.Proofs Go.RowKit Go.Shelf

def swapP (l : List PtT) (i j : Nat) : List PtT := (l.set i (l.getD j dP)).set j (l.getD i dP)
theorem flat_swapP {l : List PtT} {i j : Nat} (hi : i < l.length) (hj : j < l.length) : ((l.flatMap eP).take (i * 2) ++ eP (l.getD j dP) ++ (l.flatMap eP).drop (i * 2 + 2)).take (j * 2) ++ eP (l.getD i dP) ++ ((l.flatMap eP).take (i * 2) ++ eP (l.getD j dP) ++ (l.flatMap eP).drop (i * 2 + 2)).drop (j * 2 + 2) = (swapP l i j).flatMap eP := by
  rw [flat_set eP_len l i _ hi, flat_set eP_len _ j _ (by simpa using hj)]; rfl
theorem setP {l : List PtT} {i k : Nat} {x : PtT} (hi : i < l.length) : (l.set i x).getD k dP = if k = i then x else l.getD k dP := by
  rw [List.getD_eq_getElem?_getD, List.getElem?_set]
  by_cases e : i = k
  · subst e; rw [if_pos rfl, if_pos hi, if_pos rfl]; rfl
  · rw [if_neg e, if_neg (fun h => e h.symm), List.getD_eq_getElem?_getD]
/-- i points from each end have changed places -/
structure RevQ (pc : List PtT) (i : Nat) (cur : List PtT) : Prop where
  len : cur.length = pc.length
  at_ : ∀ k, k < pc.length → cur.getD k dP = if k < i ∨ pc.length - i ≤ k then pc.getD (pc.length - 1 - k) dP else pc.getD k dP
theorem RevQ.start (pc : List PtT) : RevQ pc 0 pc := ⟨rfl, fun k hk => by rw [if_neg (by omega)]⟩
theorem RevQ.step {pc cur : List PtT} {i : Nat} (h : RevQ pc i cur) (hi : 2 * i + 1 < pc.length) : RevQ pc (i + 1) (swapP cur i (pc.length - 1 - i)) := by
  have hl := h.len
  refine ⟨by simp [swapP, hl], fun k hk => ?_⟩
  unfold swapP
  rw [setP (by simp; omega), setP (by omega)]
  have h1 := h.at_ i (by omega)
  have h2 := h.at_ (pc.length - 1 - i) (by omega)
  rw [if_neg (by omega)] at h1 h2
  by_cases e1 : k = pc.length - 1 - i
  · rw [if_pos e1, if_pos (by omega), h1, e1, show pc.length - 1 - (pc.length - 1 - i) = i by omega]
  · rw [if_neg e1]
    by_cases e2 : k = i
    · rw [if_pos e2, if_pos (by omega), h2, e2]
    · rw [if_neg e2, h.at_ k hk]
      by_cases c : k < i ∨ pc.length - i ≤ k
      · rw [if_pos c, if_pos (by omega)]
      · rw [if_neg c, if_neg (by omega)]
theorem RevQ.done {pc cur : List PtT} {i : Nat} (h : RevQ pc i cur) (h1 : 2 * i ≤ pc.length) (h2 : pc.length ≤ 2 * i + 1) : cur = pc.reverse := by
  have hl := h.len
  apply List.ext_getElem
  · simp [hl]
  · intro k hk1 hk2
    have hk : k < pc.length := by omega
    have h3 := h.at_ k hk
    have e : cur.getD k dP = pc.getD (pc.length - 1 - k) dP := by
      by_cases c : k < i ∨ pc.length - i ≤ k
      · rw [h3, if_pos c]
      · rw [h3, if_neg c, show pc.length - 1 - k = k by omega]
    rw [List.getElem_reverse]
    rw [List.getD_eq_getElem?_getD, List.getElem?_eq_getElem hk1, List.getD_eq_getElem?_getD, List.getElem?_eq_getElem (show pc.length - 1 - k < pc.length by omega)] at e
    exact e
theorem a_CloneP (w : World) (v : Value) (es : List PtT) (hn : es.length ≤ 1099511627776) (hV : RowV v es.length) (hrow : RowAt w v 2 es.length (es.flatMap eP)) :
    Calls Try.prog 79 #[v] w fun e w' => ∃ y, e = .returned y ∧ Below w.heap.size w w' ∧ OwnAt w.heap.size w' y 23 2 es.length (es.flatMap eP) := by
  have hr : ∀ w', Chg (fun _ => False) w w' → RowAt w' v 2 es.length (es.flatMap eP) := fun w' h => hrow.chg h (fun h => h)
  have hV0 := hV
  have hV1 : (∃ a c, v = .slice (some a) es.length c) ∨ (v = .slice none 0 0 ∧ es.length = 0) := by
    rcases hV0 with ⟨b, o, c, h⟩ | h | ⟨a, c, h, e⟩
    · exact .inl ⟨_, c, h⟩
    · exact .inr h
    · exact .inl ⟨a, c, by rw [e]; exact h⟩
  rcases hV1 with ⟨aa, cc, rfl⟩ | ⟨rfl, h0⟩
  · refine calls_own (args := [.slice (some aa) es.length cc]) Try.func79 rfl Try.ntmps79 Try.results79 rfl ?_
    refine v_seq ?_
    refine v_region ?_
    refine l_val rfl (o_assign rfl) ?_
    refine l_nil ?_
    refine kt_norm ?_
    refine v_seq ?_
    refine v_seq ?_
    refine v_region ?_
    refine l_val rfl (o_move rfl) ?_
    refine l_val rfl (o_eqnil rfl) ?_
    refine l_nil ?_
    refine kt_norm ?_
    refine v_condF rfl ?_
    refine v_skip ?_
    refine kt_norm ?_
    refine v_seq ?_
    refine v_region ?_
    refine l_buildSlice (vs := []) (cs := []) rfl rfl rfl rfl rfl rfl fun v1 hv1 => ?_
    refine l_val rfl (o_move rfl) ?_
    refine l_append 5 [] rfl rfl rfl rfl rfl rfl rfl hV (row_imm hr) (by omega) fun v2 hv2 => ?_
    refine l_val rfl (o_assign rfl) ?_
    refine l_nil ?_
    refine kt_norm ?_
    refine v_sel [2] [7] rfl rfl ?_
    refine v_ret ?_
    refine ⟨[_], .cons (.tmp rfl) (ResAll.nil), ?_⟩
    exact ⟨7, congrArg some (own_congr (Nat.zero_add _) (List.nil_append _))⟩
  · have : es = [] := List.length_eq_zero_iff.1 h0
    subst this
    refine calls_own (args := [.slice none 0 0]) Try.func79 rfl Try.ntmps79 Try.results79 rfl ?_
    refine v_ghost 77 23 2 ?_
    refine v_seq ?_
    refine v_region ?_
    refine l_val rfl (o_assign rfl) ?_
    refine l_nil ?_
    refine kt_norm ?_
    refine v_seq ?_
    refine v_seq ?_
    refine v_region ?_
    refine l_val rfl (o_move rfl) ?_
    refine l_val rfl (o_eqnil rfl) ?_
    refine l_nil ?_
    refine kt_norm ?_
    refine v_condT rfl ?_
    refine v_seq ?_
    refine v_region ?_
    refine l_val rfl (o_assign rfl) ?_
    refine l_nil ?_
    refine kt_norm ?_
    refine v_ret ?_
    refine kt_ret ?_
    refine ⟨[_], .cons (.tmp rfl) (ResAll.nil), ?_⟩
    exact ⟨77, rfl⟩
theorem a_ReverseP (w : World) (v : Value) (pc : List PtT) (hs : pc.length ≤ 1000000) (hok : (Hp.own v 23 2 pc.length (pc.flatMap eP)).ok w) :
    Calls Try.prog 80 #[v] w fun e w' => (∃ y, e = .returned y) ∧ ∃ l' : List PtT, l' = pc.reverse ∧ Chg (fun b => v.ownBlock = some b) w w' ∧ (Hp.own v 23 2 pc.length (l'.flatMap eP)).ok w' := by
  have hV := rowV_own hok
  refine calls_mutX (args := [v]) v (fun l' => l' = pc.reverse) (fun l' => l'.flatMap eP) Try.func80 rfl Try.ntmps80 Try.results80 rfl hok ?_
  refine v_seq ?_
  refine v_region ?_
  refine l_val rfl (o_move rfl) ?_
  refine l_val rfl (o_len rfl hV) ?_
  refine l_val rfl (o_subi rfl rfl ?_) ?_
  · omega
  refine l_val rfl (o_assign rfl) ?_
  refine l_val rfl (o_assign rfl) ?_
  refine l_nil ?_
  refine kt_norm ?_
  refine v_block ?_
  refine v_loopS (α := Nat × List PtT) (fun ⟨i, cur⟩ => [(2, .int .i64 (i : Int)), (3, .int .i64 ((pc.length : Int) - 1 - i))]) (fun ⟨i, cur⟩ => [(1000, Hp.own v 23 2 pc.length (cur.flatMap eP))])  (fun ⟨i, cur⟩ => 2 * i ≤ pc.length ∧ RevQ pc i cur) (fun ⟨i, cur⟩ => pc.length - i) (0, pc) [0] [] ⟨Nat.zero_le _, RevQ.start pc⟩  (And.intro rfl (And.intro (congrArg (fun q => some (Value.int .i64 q)) (by omega)) (True.intro))) rfl (And.intro rfl (True.intro)) rfl ?_
  rintro ⟨i, cur⟩ ⟨hi, hQ⟩
  have hcl := hQ.len
  refine v_seq ?_
  refine v_seq ?_
  refine v_region ?_
  refine l_val rfl (o_move rfl) ?_
  refine l_val rfl (o_move rfl) ?_
  refine l_split rfl (o_lss rfl rfl) (fun q1 => ?_) (fun q1 => ?_)
  · skip
    refine l_nil ?_
    refine kt_norm ?_
    refine v_condT rfl ?_
    refine v_skip ?_
    refine kt_norm ?_
    refine v_seq ?_
    refine v_block ?_
    refine v_drawZ [[], [], [], [], [], [], [], [1000], [], [], [], [1000], [], [1000], [], [1000]] mixed ?_ (by kernel_rfl) (by kernel_rfl)
    refine d_val (fun _ => rfl) rfl rfl (fun _ => o_move rfl) ?_
    refine d_val (fun _ => rfl) rfl rfl (fun _ => o_move rfl) ?_
    refine d_val (fun _ => rfl) rfl rfl (fun _ => o_move rfl) ?_
    refine d_val (fun _ => rfl) rfl rfl (fun _ => o_move rfl) ?_
    refine d_val (fun _ => rfl) rfl rfl (fun _ => o_move rfl) ?_
    refine d_val (fun _ => rfl) rfl rfl (fun _ => o_move rfl) ?_
    refine d_val (fun _ => rfl) rfl rfl (fun _ => o_idx ((pc.length - 1 - i)) rfl hV rfl (by omega) (by omega)) ?_
    refine d_val (fun _ => rfl) rfl rfl (fun _ => o_loadRE (c' := [_, _]) rfl (row_own (key := 1000) rfl) (el_flat eP_len dP cur ((pc.length - 1 - i)) (by have := hQ.len; omega)) rfl) ?_
    refine d_val (fun _ => rfl) rfl rfl (fun _ => o_move rfl) ?_
    refine d_val (fun _ => rfl) rfl rfl (fun _ => o_move rfl) ?_
    refine d_val (fun _ => rfl) rfl rfl (fun _ => o_idx (i) rfl hV rfl (by first | rfl | omega) (by omega)) ?_
    refine d_val (fun _ => rfl) rfl rfl (fun _ => o_loadRE (c' := [_, _]) rfl (row_own (key := 1000) rfl) (el_flat eP_len dP cur (i) (by have := hQ.len; omega)) rfl) ?_
    refine d_val (fun _ => rfl) rfl rfl (fun _ => o_idx (i) rfl hV rfl (by first | rfl | omega) (by omega)) ?_
    refine d_store (fun _ => rfl) rfl rfl (fun _ => o_storeRE (key := 1000) (c := [_, _]) (by decide) rfl rfl rfl rfl rfl rfl (by omega)) ?_
    refine d_val (fun _ => rfl) rfl rfl (fun _ => o_idx ((pc.length - 1 - i)) rfl hV rfl (by omega) (by omega)) ?_
    refine d_store (fun _ => rfl) rfl rfl (fun _ => o_storeRE (key := 1000) (c := [_, _]) (by decide) rfl rfl rfl rfl rfl rfl (by omega)) ?_
    refine d_nil (fun σ => ?_)
    refine l_nil ?_
    refine kb_norm ?_
    refine kt_norm ?_
    refine v_sel [2, 3, 0] [1000] rfl rfl ?_
    refine v_region ?_
    refine l_val rfl (o_move rfl) ?_
    refine l_val rfl (o_addi rfl rfl ?_) ?_
    · omega
    refine l_val rfl (o_move rfl) ?_
    refine l_val rfl (o_subi rfl rfl ?_) ?_
    · omega
    refine l_val rfl (o_assign rfl) ?_
    refine l_val rfl (o_assign rfl) ?_
    refine l_nil ?_
    refine kt_norm ?_
    refine ⟨(i + 1, swapP cur i (pc.length - 1 - i)), ⟨by omega, hQ.step (by omega)⟩, (by show pc.length - (i + 1) < pc.length - i; omega), le_app (And.intro rfl (And.intro (congrArg (fun q => some (Value.int .i64 q)) (by omega)) (True.intro))) [0] rfl (And.intro (congrArg some (own_congr rfl (flat_swapP (by omega) (by omega)))) (True.intro)) [] rfl⟩
  · skip
    refine l_nil ?_
    refine kt_norm ?_
    refine v_condF rfl ?_
    refine v_exit ?_
    refine kt_exit ?_
    refine kt_exit ?_
    refine kb_eq ?_
    refine ⟨[], ResAll.nil, ?_⟩
    exact ⟨cur, hQ.done hi (by omega), rfl⟩
end Go.Proofs.Ytpgjbalnipinoaa

/- A slice whose capacity is cut to its length. Conditions: none. -/
namespace Go.Proofs.Ytpgjbalnipinoaa
open Go.Proofs Go.RowKit Go.Shelf

theorem addr_add0 (a : Addr) : a.add 0 = a := by cases a; simp [Addr.add]
theorem o_slice3 {C : Cx} {s : St} {d : Option Nat} {x z z' : Operand} {T E ty : TypeId} {pos : String} {aft : Array Edge} {gd : Option (Nat × Bool)} {a : Option Addr} {n c esz : Nat} {k k' : IntKind} [ht : TSl C.P T E esz] (h : ev C s x = some (.slice a n c)) (hcap : n ≤ c) (h2 : ev C s z = some (.int k (n : Int))) (h3 : ev C s z' = some (.int k' (n : Int))) :
    OpV C s ⟨d, .slice T x none (some z) (some z'), ty, pos, aft, gd⟩ [] (.slice a n n) := opv _ _ (by simp) fun ρ w hr => by
  have hx := rd1 hr (x := x) (by simp [Op.operands]) h
  have hz := rd1 hr (x := z) (by simp [Op.operands]) h2
  have hz' := rd1 hr (x := z') (by simp [Op.operands]) h3
  have e1 : (if n = 0 then a else a.map (·.add 0)) = a := by
    split
    · rfl
    · cases a with
      | none => rfl
      | some b => simp [addr_add0]
  simp [execOp, hx, hz, hz', Instr.sliceAt, Instr.slice, Instr.sliceBounds, Instr.sliceBound, asIntOf, Sem.run_bind, run_underlying ht.h, hcap, ht.sz, Result.andThen, e1]
theorem a_ClipP (w : World) (a : Option Addr) (n c : Nat) (hn : n ≤ 1000000) (hcap : n ≤ c) (hV : RowV (.slice a n c) n) :
    Calls Try.prog 81 #[.slice a n c] w fun e w' => e = .returned (.slice a n n) ∧ Below w.heap.size w w' := by
  refine calls_of (args := [.slice a n c]) Try.func81 rfl Try.ntmps81 Try.results81 rfl ?_
  refine v_seq ?_
  refine v_region ?_
  refine l_val rfl (o_assign rfl) ?_
  refine l_nil ?_
  refine kt_norm ?_
  refine v_seq ?_
  refine v_region ?_
  refine l_val rfl (o_move rfl) ?_
  refine l_val rfl (o_move rfl) ?_
  refine l_val rfl (o_len rfl hV) ?_
  refine l_val rfl (o_move rfl) ?_
  refine l_val rfl (o_len rfl hV) ?_
  refine l_val rfl (o_slice3 rfl hcap rfl rfl) ?_
  refine l_val rfl (o_assign rfl) ?_
  refine l_nil ?_
  refine kt_norm ?_
  refine v_sel [2] [] rfl rfl ?_
  refine v_ret ?_
  refine ⟨[_], .cons (.tmp rfl) (ResAll.nil), ?_⟩
  rfl
end Go.Proofs.Ytpgjbalnipinoaa

/- A piece is put to others, if it is convex. Conditions: none. -/
namespace Go.Proofs.Ytpgjbalnipinoaa
open Go.Proofs Go.RowKit Go.Shelf

def oriT (pc : List PtT) : List PtT := if areaT pc < 0 then pc.reverse else pc
theorem rowAt_cap {w : World} {a : Option Addr} {n c c' esz : Nat} {xs : List Value} (h : RowAt w (.slice a n c) esz n xs) : RowAt w (.slice a n c') esz n xs := by
  refine ⟨h.len, fun j u hu => ?_, h.one⟩
  have := h.at_ j u hu
  cases a <;> exact this
theorem rowV_cap {a : Option Addr} {n c : Nat} (h : RowV (.slice a n c) n) : RowV (.slice a n n) n := by
  rcases h with ⟨b, o, c', h⟩ | ⟨h, h0⟩ | ⟨a', c', h, h0⟩
  · cases h; exact .inl ⟨b, o, n, rfl⟩
  · cases h; exact .inr (.inl ⟨rfl, rfl⟩)
  · cases h; exact .inr (.inr ⟨a', 0, rfl, rfl⟩)
theorem full_cap {a : Option Addr} {n : Nat} : ∀ a' n' c', Value.slice a n n = .slice a' n' c' → c' = n' := fun _ _ _ h => by cases h; rfl
theorem a_PutNo (w : World) (a : Option Addr) (n c : Nat) (pvs : List Value) (u : Value) (pc : List PtT) (hn : n ≤ 1000000) (hcap : n ≤ c) (hV : RowV (.slice a n c) n) (hrow : RowAt w (.slice a n c) 1 n pvs) (hs : pc.length ≤ 1000000) (hU : RowV u pc.length) (hrowU : RowAt w u 2 pc.length (pc.flatMap eP)) (hnear : ∀ p ∈ pc, NearT p) (hcx : convexB (oriT pc) = false) :
    Calls Try.prog 59 #[.slice a n c, u] w fun e w' => e = .returned (.slice a n c) ∧ Below w.heap.size w w' := by
  have hr : ∀ w', Chg (fun _ => False) w w' → RowAt w' (.slice a n c) 1 n pvs := fun w' h => hrow.chg h (fun h => h)
  have hrU : ∀ w', Chg (fun _ => False) w w' → RowAt w' u 2 pc.length (pc.flatMap eP) := fun w' h => hrowU.chg h (fun h => h)
  refine calls_of (args := [.slice a n c, u]) Try.func59 rfl Try.ntmps59 Try.results59 rfl ?_
  refine v_seq ?_
  refine v_region ?_
  refine l_val rfl (o_assign rfl) ?_
  refine l_nil ?_
  refine kt_norm ?_
  refine v_seq ?_
  refine v_region ?_
  refine l_val rfl (o_move rfl) ?_
  refine l_gown (ks := []) (caps := #[]) (vs := [_]) rfl rfl (ent_of Try.func79 rfl rfl) rfl (fun w' hg hh => a_CloneP w' u pc (by omega) hU (hrU w' hg)) fun cv hcv => ?_
  obtain ⟨ac, cc, rfl⟩ := hcv.sl
  refine l_val rfl (o_assign rfl) ?_
  refine l_nil ?_
  refine kt_norm ?_
  refine v_seq ?_
  refine v_seq ?_
  refine v_region ?_
  refine l_val rfl (o_move rfl) ?_
  refine l_call (ks := [7]) rfl (o_callC (vs := [_]) (r := .int .i64 (areaT pc)) (ent_of Try.func40 rfl rfl) rfl (fun w' hg hh => a_Area w' (.slice ac pc.length cc) pc hs hcv (rowAt_own (hh 7 (by simp) _ rfl)) hnear)) ?_
  refine l_split rfl (o_lss rfl rfl) (fun ha => ?_) (fun ha => ?_)
  · skip
    refine l_nil ?_
    refine kt_norm ?_
    refine v_sel [0, 5, 10] [7] rfl rfl ?_
    refine v_condT rfl ?_
    refine v_region ?_
    refine l_val rfl (o_move rfl) ?_
    refine l_gmutX (ks := []) 7 (fun l2 => l2 = pc.reverse) (fun l2 => l2.flatMap eP) (n := pc.length) (caps := #[]) (vs := [_]) rfl rfl (ent_of Try.func80 rfl rfl) rfl rfl (fun w' hg hh hok => a_ReverseP w' (.slice ac pc.length cc) pc hs hok) (fun l2 y12 hl2 => ?_)
    subst hl2
    refine l_nil ?_
    refine kt_norm ?_
    refine v_seq ?_
    refine v_seq ?_
    refine v_region ?_
    refine l_val rfl (o_move rfl) ?_
    have hL : oriT pc = pc.reverse := if_pos ha
    rw [hL] at hcx
    refine l_call (ks := [7]) rfl (o_callC (vs := [_]) (r := .bool false) (ent_of Try.func22 rfl rfl) rfl (fun w' hg hh => hcx ▸ a_Convex w' (.slice ac pc.length cc) pc.reverse (by rw [List.length_reverse]; exact hs) (by rw [List.length_reverse]; exact hcv) (by rw [List.length_reverse]; exact rowAt_own (hh 7 (by simp) _ rfl)) (fun p hp => hnear p (List.mem_reverse.1 hp)))) ?_
    refine l_val rfl (o_not rfl rfl) ?_
    refine l_nil ?_
    refine kt_norm ?_
    refine v_condT rfl ?_
    refine v_seq ?_
    refine v_region ?_
    refine l_val rfl (o_move rfl) ?_
    refine l_val rfl (o_assign rfl) ?_
    refine l_nil ?_
    refine kt_norm ?_
    refine v_sel [4] [7] rfl rfl ?_
    refine v_ret ?_
    refine kt_ret ?_
    refine ⟨[_], .cons (.tmp rfl) (ResAll.nil), ?_⟩
    rfl
  · skip
    refine l_nil ?_
    refine kt_norm ?_
    refine v_sel [0, 5, 10] [7] rfl rfl ?_
    refine v_condF rfl ?_
    refine v_skip ?_
    refine kt_norm ?_
    refine v_seq ?_
    refine v_seq ?_
    refine v_region ?_
    refine l_val rfl (o_move rfl) ?_
    have hL : oriT pc = pc := if_neg ha
    rw [hL] at hcx
    refine l_call (ks := [7]) rfl (o_callC (vs := [_]) (r := .bool false) (ent_of Try.func22 rfl rfl) rfl (fun w' hg hh => hcx ▸ a_Convex w' (.slice ac pc.length cc) pc hs hcv (rowAt_own (hh 7 (by simp) _ rfl)) hnear)) ?_
    refine l_val rfl (o_not rfl rfl) ?_
    refine l_nil ?_
    refine kt_norm ?_
    refine v_condT rfl ?_
    refine v_seq ?_
    refine v_region ?_
    refine l_val rfl (o_move rfl) ?_
    refine l_val rfl (o_assign rfl) ?_
    refine l_nil ?_
    refine kt_norm ?_
    refine v_sel [4] [7] rfl rfl ?_
    refine v_ret ?_
    refine kt_ret ?_
    refine ⟨[_], .cons (.tmp rfl) (ResAll.nil), ?_⟩
    rfl
theorem a_PutYes (w : World) (a : Option Addr) (n c : Nat) (pvs : List Value) (u : Value) (pc : List PtT) (hn : n ≤ 1000000) (hcap : n ≤ c) (hV : RowV (.slice a n c) n) (hrow : RowAt w (.slice a n c) 1 n pvs) (hs : pc.length ≤ 1000000) (hU : RowV u pc.length) (hrowU : RowAt w u 2 pc.length (pc.flatMap eP)) (hnear : ∀ p ∈ pc, NearT p) (hcx : convexB (oriT pc) = true) :
    Calls Try.prog 59 #[.slice a n c, u] w fun e w' => ∃ x : Value × Value, e = .returned x.1 ∧ Below w.heap.size w w' ∧ ((Hp.own x.1 32 1 (n + 1) (pvs ++ [x.2])).ok w' ∧ (Hp.own x.2 23 2 pc.length ((oriT pc).flatMap eP)).ok w') ∧ ∀ b, (x.1.ownBlock = some b ∨ x.2.ownBlock = some b) → w.heap.size ≤ b := by
  have hr : ∀ w', Chg (fun _ => False) w w' → RowAt w' (.slice a n c) 1 n pvs := fun w' h => hrow.chg h (fun h => h)
  have hrU : ∀ w', Chg (fun _ => False) w w' → RowAt w' u 2 pc.length (pc.flatMap eP) := fun w' h => hrowU.chg h (fun h => h)
  refine calls_said (args := [.slice a n c, u]) (fun x : Value × Value => x.1) (fun x w' => (Hp.own x.1 32 1 (n + 1) (pvs ++ [x.2])).ok w' ∧ (Hp.own x.2 23 2 pc.length ((oriT pc).flatMap eP)).ok w') (fun x b => x.1.ownBlock = some b ∨ x.2.ownBlock = some b) Try.func59 rfl Try.ntmps59 Try.results59 rfl ?_
  refine v_seq ?_
  refine v_region ?_
  refine l_val rfl (o_assign rfl) ?_
  refine l_nil ?_
  refine kt_norm ?_
  refine v_seq ?_
  refine v_region ?_
  refine l_val rfl (o_move rfl) ?_
  refine l_gown (ks := []) (caps := #[]) (vs := [_]) rfl rfl (ent_of Try.func79 rfl rfl) rfl (fun w' hg hh => a_CloneP w' u pc (by omega) hU (hrU w' hg)) fun cv hcv => ?_
  obtain ⟨ac, cc, rfl⟩ := hcv.sl
  refine l_val rfl (o_assign rfl) ?_
  refine l_nil ?_
  refine kt_norm ?_
  refine v_seq ?_
  refine v_seq ?_
  refine v_region ?_
  refine l_val rfl (o_move rfl) ?_
  refine l_call (ks := [7]) rfl (o_callC (vs := [_]) (r := .int .i64 (areaT pc)) (ent_of Try.func40 rfl rfl) rfl (fun w' hg hh => a_Area w' (.slice ac pc.length cc) pc hs hcv (rowAt_own (hh 7 (by simp) _ rfl)) hnear)) ?_
  refine l_split rfl (o_lss rfl rfl) (fun ha => ?_) (fun ha => ?_)
  · skip
    refine l_nil ?_
    refine kt_norm ?_
    refine v_sel [0, 5, 10] [7] rfl rfl ?_
    refine v_condT rfl ?_
    refine v_region ?_
    refine l_val rfl (o_move rfl) ?_
    refine l_gmutX (ks := []) 7 (fun l2 => l2 = pc.reverse) (fun l2 => l2.flatMap eP) (n := pc.length) (caps := #[]) (vs := [_]) rfl rfl (ent_of Try.func80 rfl rfl) rfl rfl (fun w' hg hh hok => a_ReverseP w' (.slice ac pc.length cc) pc hs hok) (fun l2 y12 hl2 => ?_)
    subst hl2
    refine l_nil ?_
    refine kt_norm ?_
    refine v_seq ?_
    refine v_seq ?_
    refine v_region ?_
    refine l_val rfl (o_move rfl) ?_
    have hL : oriT pc = pc.reverse := if_pos ha
    rw [hL] at hcx
    refine l_call (ks := [7]) rfl (o_callC (vs := [_]) (r := .bool true) (ent_of Try.func22 rfl rfl) rfl (fun w' hg hh => hcx ▸ a_Convex w' (.slice ac pc.length cc) pc.reverse (by rw [List.length_reverse]; exact hs) (by rw [List.length_reverse]; exact hcv) (by rw [List.length_reverse]; exact rowAt_own (hh 7 (by simp) _ rfl)) (fun p hp => hnear p (List.mem_reverse.1 hp)))) ?_
    refine l_val rfl (o_not rfl rfl) ?_
    refine l_nil ?_
    refine kt_norm ?_
    refine v_condF rfl ?_
    refine v_skip ?_
    refine kt_norm ?_
    refine v_sel [0, 5] [7] rfl rfl ?_
    refine v_seq ?_
    refine v_region ?_
    refine l_val rfl (o_move rfl) ?_
    refine l_call (ks := []) rfl (o_callC (vs := [_]) (r := .slice a n n) (ent_of Try.func81 rfl rfl) rfl (fun w' hg hh => a_ClipP w' a n c hn hcap hV)) ?_
    refine l_val rfl (o_move rfl) ?_
    refine l_buildSlice (vs := [_]) (cs := [_]) rfl rfl rfl rfl rfl rfl fun v20 hv20 => ?_
    refine l_appendF (n := n) (xs := pvs) (ks2 := []) rfl rfl rfl (row_imm (fun w hg => rowAt_cap (hr w hg))) (rowV_cap hV) full_cap hv20 (by omega) (row_own (key := 20) rfl) (by omega) rfl fun v21 hv21 => ?_
    refine l_val rfl (o_assign rfl) ?_
    refine l_nil ?_
    refine kt_norm ?_
    refine v_sel [4] [7, 20, 21] rfl rfl ?_
    refine v_ret ?_
    refine ⟨[_], .cons (.tmp rfl) (ResAll.nil), ?_⟩
    exact ⟨(v21, .slice ac pc.length cc), rfl, fun w2 ho => ⟨⟨(ho.mo 21 _ rfl).1, by rw [hL]; exact (ho.mo 7 _ rfl).1⟩, fun b hb => by rcases hb with hb | hb; exact ((ho.mo 21 _ rfl).2 b hb).elim id False.elim; exact ((ho.mo 7 _ rfl).2 b hb).elim id False.elim⟩⟩
  · skip
    refine l_nil ?_
    refine kt_norm ?_
    refine v_sel [0, 5, 10] [7] rfl rfl ?_
    refine v_condF rfl ?_
    refine v_skip ?_
    refine kt_norm ?_
    refine v_seq ?_
    refine v_seq ?_
    refine v_region ?_
    refine l_val rfl (o_move rfl) ?_
    have hL : oriT pc = pc := if_neg ha
    rw [hL] at hcx
    refine l_call (ks := [7]) rfl (o_callC (vs := [_]) (r := .bool true) (ent_of Try.func22 rfl rfl) rfl (fun w' hg hh => hcx ▸ a_Convex w' (.slice ac pc.length cc) pc hs hcv (rowAt_own (hh 7 (by simp) _ rfl)) hnear)) ?_
    refine l_val rfl (o_not rfl rfl) ?_
    refine l_nil ?_
    refine kt_norm ?_
    refine v_condF rfl ?_
    refine v_skip ?_
    refine kt_norm ?_
    refine v_seq ?_
    refine v_region ?_
    refine l_val rfl (o_move rfl) ?_
    refine l_call (ks := []) rfl (o_callC (vs := [_]) (r := .slice a n n) (ent_of Try.func81 rfl rfl) rfl (fun w' hg hh => a_ClipP w' a n c hn hcap hV)) ?_
    refine l_val rfl (o_move rfl) ?_
    refine l_buildSlice (vs := [_]) (cs := [_]) rfl rfl rfl rfl rfl rfl fun v20 hv20 => ?_
    refine l_appendF (n := n) (xs := pvs) (ks2 := []) rfl rfl rfl (row_imm (fun w hg => rowAt_cap (hr w hg))) (rowV_cap hV) full_cap hv20 (by omega) (row_own (key := 20) rfl) (by omega) rfl fun v21 hv21 => ?_
    refine l_val rfl (o_assign rfl) ?_
    refine l_nil ?_
    refine kt_norm ?_
    refine v_sel [4] [7, 20, 21] rfl rfl ?_
    refine v_ret ?_
    refine ⟨[_], .cons (.tmp rfl) (ResAll.nil), ?_⟩
    exact ⟨(v21, .slice ac pc.length cc), rfl, fun w2 ho => ⟨⟨(ho.mo 21 _ rfl).1, by rw [hL]; exact (ho.mo 7 _ rfl).1⟩, fun b hb => by rcases hb with hb | hb; exact ((ho.mo 21 _ rfl).2 b hb).elim id False.elim; exact ((ho.mo 7 _ rfl).2 b hb).elim id False.elim⟩⟩
end Go.Proofs.Ytpgjbalnipinoaa

/- The root of a number of 64 bits, by guesses. Conditions: none. -/
namespace Go.Proofs.Ytpgjbalnipinoaa
open Go.Proofs Go.RowKit Go.Shelf

/-! ### roots -/
def isqB (n : Nat) : Nat → Nat → Nat
  | 0, x => x
  | k + 1, x => isqB n k (if (x + 2 ^ k) * (x + 2 ^ k) ≤ n then x + 2 ^ k else x)
/-- the root of a number of 64 bits -/
def isq (n : Nat) : Nat := isqB n 32 0
theorem isqB_ok (n : Nat) : ∀ k x, x * x ≤ n → n < (x + 2 ^ k) * (x + 2 ^ k) → isqB n k x * isqB n k x ≤ n ∧ n < (isqB n k x + 1) * (isqB n k x + 1)
  | 0, x, h1, h2 => ⟨h1, by simpa [isqB] using h2⟩
  | k + 1, x, h1, h2 => by
    rw [isqB]
    have e : x + 2 ^ (k + 1) = x + 2 ^ k + 2 ^ k := by rw [Nat.pow_succ]; omega
    split
    · rename_i h; exact isqB_ok n k _ h (by rw [← e]; exact h2)
    · rename_i h; exact isqB_ok n k x h1 (by omega)
theorem isq_ok {n : Nat} (h : n < 18446744073709551616) : isq n * isq n ≤ n ∧ n < (isq n + 1) * (isq n + 1) :=
  isqB_ok n 32 0 (Nat.zero_le _) (by rw [Nat.zero_add]; omega)
theorem sq_le {x y : Nat} (h : x * x ≤ y * y) : x ≤ y := by
  rcases Nat.lt_or_ge y x with h1 | h1
  · have := Nat.mul_self_lt_mul_self h1; omega
  · exact h1
theorem sq_lt {x y : Nat} (h : x * x < y * y) : x < y := by
  rcases Nat.lt_or_ge x y with h1 | h1
  · exact h1
  · have := Nat.mul_self_le_mul_self h1; omega
theorem isq_le {n x : Nat} (h : n < 18446744073709551616) (h1 : n < (x + 1) * (x + 1)) : isq n ≤ x := by
  have := isq_ok h
  have h2 : isq n * isq n < (x + 1) * (x + 1) := by omega
  have := sq_lt h2; omega
theorem le_isq {n x : Nat} (h : n < 18446744073709551616) (h1 : x * x ≤ n) : x ≤ isq n := by
  have := isq_ok h
  have h2 : x * x < (isq n + 1) * (isq n + 1) := by omega
  have := sq_lt h2; omega
theorem isq_small {n : Nat} (h : n < 18446744073709551616) : isq n < 4294967296 := by
  have := isq_ok h
  have h2 : isq n * isq n < 4294967296 * 4294967296 := by omega
  exact sq_lt h2
theorem isq_pos {n : Nat} (h : n < 18446744073709551616) (h0 : 0 < n) : 0 < isq n := le_isq (x := 1) h (by omega)
theorem isq_zero : isq 0 = 0 := by
  have := isq_ok (n := 0) (by omega)
  have := sq_le (x := isq 0) (y := 0) (by omega)
  omega
/-- Newton's guesses -/
def nwt (n : Nat) : Nat → Nat → List Nat
  | 0, _ => []
  | f + 1, x => x :: (if x ≤ (x + n / x) / 2 then [] else nwt n f ((x + n / x) / 2))
theorem nwt_ge {n x : Nat} (h : n < 18446744073709551616) (hx : 0 < x) : isq n ≤ (x + n / x) / 2 := by
  have h1 := (isq_ok h).1
  generalize isq n = s at *
  rcases Nat.lt_or_ge (2 * s) x with h2 | h2
  · have : s ≤ x / 2 := by omega
    have : x / 2 ≤ (x + n / x) / 2 := Nat.div_le_div_right (Nat.le_add_right x (n / x))
    omega
  · obtain ⟨d, hd⟩ : ∃ d, 2 * s = x + d := ⟨2 * s - x, by omega⟩
    have h3 : d * x ≤ s * s := by
      rcases Nat.lt_or_ge x s with h4 | h4
      · obtain ⟨e, rfl⟩ : ∃ e, s = x + e := ⟨s - x, by omega⟩
        have : d = x + 2 * e := by omega
        subst this
        have e1 : (x + e) * (x + e) = (x + 2 * e) * x + e * e := by grind
        omega
      · obtain ⟨e, rfl⟩ : ∃ e, x = s + e := ⟨x - s, by omega⟩
        have : s = d + e := by omega
        subst this
        have e1 : (d + e) * (d + e) = d * (d + e + e) + e * e := by grind
        omega
    have h5 : d ≤ n / x := (Nat.le_div_iff_mul_le hx).2 (by omega)
    omega
theorem nwt_end {n x : Nat} (h : n < 18446744073709551616) (hx : 0 < x) (hs : isq n ≤ x) (hn : x ≤ (x + n / x) / 2) : x = isq n := by
  have h1 : x ≤ n / x := by omega
  have h2 := (Nat.le_div_iff_mul_le hx).1 h1
  have := le_isq h h2
  omega
theorem nwt_lastS {n s : Nat} (h0 : 0 < s) (hg : ∀ x, 0 < x → s ≤ (x + n / x) / 2) (he : ∀ x, 0 < x → s ≤ x → x ≤ (x + n / x) / 2 → x = s) (f : Nat) : ∀ x, x ≤ f → s ≤ x → (nwt n f x).getLast? = some s := by
  induction f with
  | zero => intro x h1 h2; omega
  | succ f ih =>
    intro x h1 h2
    have hx : 0 < x := by omega
    rw [nwt]
    by_cases hc : x ≤ (x + n / x) / 2
    · rw [if_pos hc, List.getLast?_singleton, he x hx h2 hc]
    · rw [if_neg hc, List.getLast?_cons, ih ((x + n / x) / 2) (by omega) (hg x hx), Option.getD_some]
theorem nwt_last {n : Nat} (h : n < 18446744073709551616) (hn : 0 < n) (f x : Nat) (h1 : x ≤ f) (h2 : isq n ≤ x) : (nwt n f x).getLast? = some (isq n) :=
  nwt_lastS (isq_pos h hn) (fun _ hx => nwt_ge h hx) (fun _ hx hs hc => nwt_end h hx hs hc) f x h1 h2
/-! ### how many bits -/
def l8 (b : Nat) : Nat := if b < 1 then 0 else if b < 2 then 1 else if b < 4 then 2 else if b < 8 then 3 else if b < 16 then 4 else if b < 32 then 5 else if b < 64 then 6 else if b < 128 then 7 else 8
theorem l8_ok {b : Nat} (h : b < 256) : b < 2 ^ l8 b ∧ l8 b ≤ 8 := by
  unfold l8; (repeat' split) <;> omega
def cutN (x p : Nat) : Nat := if p ≤ x then x / p else x
def addN (x p k : Nat) : Nat := if p ≤ x then k else 0
def lenN (x : Nat) : Nat := addN x 4294967296 32 + addN (cutN x 4294967296) 65536 16 + addN (cutN (cutN x 4294967296) 65536) 256 8 + l8 (cutN (cutN (cutN x 4294967296) 65536) 256)
theorem cut_pow {x m k p : Nat} (hp : p = 2 ^ k) (h : cutN x p < 2 ^ m) : x < 2 ^ (addN x p k + m) := by
  unfold cutN at h; unfold addN
  have h0 : 0 < p := by rw [hp]; exact Nat.pow_pos (by omega)
  split at h
  · rename_i hc
    rw [if_pos hc, Nat.pow_add, ← hp]
    have := (Nat.div_lt_iff_lt_mul h0).1 h
    rw [Nat.mul_comm]; exact this
  · rename_i hc; rw [if_neg hc, Nat.zero_add]; exact h
theorem lenN_ok {x : Nat} (h : x < 18446744073709551616) : x < 2 ^ lenN x ∧ lenN x ≤ 64 := by
  have h1 : cutN x 4294967296 < 4294967296 := by unfold cutN; split <;> omega
  have h2 : cutN (cutN x 4294967296) 65536 < 65536 := by
    generalize cutN x 4294967296 = y at h1 ⊢
    unfold cutN; split <;> omega
  have h3 : cutN (cutN (cutN x 4294967296) 65536) 256 < 256 := by
    generalize cutN (cutN x 4294967296) 65536 = y at *
    unfold cutN; split <;> omega
  have h4 := l8_ok h3
  have h5 := cut_pow (k := 8) rfl h4.1
  have h6 := cut_pow (k := 16) rfl h5
  have h7 := cut_pow (k := 32) rfl h6
  have e : lenN x = addN x 4294967296 32 + (addN (cutN x 4294967296) 65536 16 + (addN (cutN (cutN x 4294967296) 65536) 256 8 + l8 (cutN (cutN (cutN x 4294967296) 65536) 256))) := by unfold lenN; omega
  refine ⟨by rw [e]; exact h7, ?_⟩
  rw [e]
  have a1 : addN x 4294967296 32 ≤ 32 := by unfold addN; split <;> omega
  have a2 : addN (cutN x 4294967296) 65536 16 ≤ 16 := by unfold addN; split <;> omega
  have a3 : addN (cutN (cutN x 4294967296) 65536) 256 8 ≤ 8 := by unfold addN; split <;> omega
  omega
theorem guess0 {x : Nat} (h : x < 18446744073709551616) : x < 2 ^ ((lenN x + 1) / 2) * 2 ^ ((lenN x + 1) / 2) := by
  have h1 := (lenN_ok h).1
  have h2 : 2 ^ lenN x ≤ 2 ^ ((lenN x + 1) / 2 + (lenN x + 1) / 2) := Nat.pow_le_pow_right (by omega) (by omega)
  rw [Nat.pow_add] at h2
  omega
theorem guess_le {x : Nat} (h : x < 18446744073709551616) : 2 ^ ((lenN x + 1) / 2) ≤ 4294967296 ∧ 0 < 2 ^ ((lenN x + 1) / 2) := by
  have h1 := (lenN_ok h).2
  have h2 : 2 ^ ((lenN x + 1) / 2) ≤ 2 ^ 32 := Nat.pow_le_pow_right (by omega) (by omega)
  exact ⟨h2, Nat.pow_pos (by omega)⟩
/-! ### the nearest quotient -/
def nearQ (p c : Int) : Int := p / c + (if c - p % c ≤ p % c then 1 else 0)

theorem o_idxStr {C : Cx} {s : St} {d : Option Nat} {x z : Operand} {T ty : TypeId} {pos : String} {aft : Array Edge} {gd : Option (Nat × Bool)} {k : IntKind} {a : Int} {bs : ByteArray} (j : Nat) (u : Nat) (ht : C.P.underlying T = some .string) (h : ev C s x = some (.string bs)) (h2 : ev C s z = some (.int k a)) (hj : a = ((j : Nat) : Int)) (hb : (bs[j]?).map (·.toNat) = some u) :
    OpV C s ⟨d, .index T x z, ty, pos, aft, gd⟩ [] (.int .u8 (u : Int)) := opv _ _ (by simp) fun ρ w hr => by
  have hx := rd1 hr (x := x) (by simp [Op.operands]) h
  have hz := rd1 hr (x := z) (by simp [Op.operands]) h2
  subst hj
  cases hq : bs[j]? with
  | none => rw [hq] at hb; cases hb
  | some b =>
    rw [hq] at hb
    simp at hb
    have h0 : (0 : Int) ≤ (j : Int) := by omega
    simp [execOp, hx, hz, Instr.index, asIntOf, Sem.run_bind, run_underlying ht, hq, Result.andThen, hb]
theorem and63_nat (a : Int) : (BitVec.ofInt 64 a &&& BitVec.ofInt 64 63).toNat = (a % 64).toNat := by
  rw [BitVec.toNat_and, show (BitVec.ofInt 64 63).toNat = 2 ^ 6 - 1 by decide, Nat.and_two_pow_sub_one_eq_mod, BitVec.toNat_ofInt]
  show (a % 18446744073709551616).toNat % 64 = (a % 64).toNat
  omega
theorem wrap_and63 (a : Int) : IntKind.wrap .i64 ((BitVec.ofInt (IntKind.bits .i64) a &&& BitVec.ofInt (IntKind.bits .i64) 63).toNat) = a % 64 := by
  show IntKind.wrap .i64 (((BitVec.ofInt 64 a &&& BitVec.ofInt 64 63).toNat : Nat) : Int) = a % 64
  rw [and63_nat, wrap_i64 (by omega)]; omega
theorem wrap_or0 {a : Int} (h : 0 ≤ a ∧ a < 18446744073709551616) : IntKind.wrap .u64 ((BitVec.ofInt (IntKind.bits .u64) a ||| BitVec.ofInt (IntKind.bits .u64) 0).toNat) = a := by
  show IntKind.wrap .u64 (((BitVec.ofInt 64 a ||| BitVec.ofInt 64 0).toNat : Nat) : Int) = a
  have e : BitVec.ofInt 64 0 = 0#64 := by decide
  rw [e, BitVec.or_zero, BitVec.toNat_ofInt]
  have : ((a % 18446744073709551616).toNat : Int) = a := by omega
  simp [IntKind.wrap, IntKind.bits, IntKind.signed]
  omega
theorem wrap_u64n {n : Nat} (h : n < 18446744073709551616) : IntKind.wrap .u64 (n : Int) = n := by
  simp [IntKind.wrap, IntKind.bits, IntKind.signed]
  omega
theorem pow_nat (n : Nat) : (2 : Int) ^ n = ((2 ^ n : Nat) : Int) := by
  rw [Int.natCast_pow]; rfl

theorem l8_le (b : Nat) : l8 b ≤ 8 := by unfold l8; (repeat' split) <;> omega
theorem tab8 {b : Nat} (h : b < 256) : (((⟨#[0, 1, 2, 2, 3, 3, 3, 3, 4, 4, 4, 4, 4, 4, 4, 4, 5, 5, 5, 5, 5, 5, 5, 5, 5, 5, 5, 5, 5, 5, 5, 5, 6, 6, 6, 6, 6, 6, 6, 6, 6, 6, 6, 6, 6, 6, 6, 6, 6, 6, 6, 6, 6, 6, 6, 6, 6, 6, 6, 6, 6, 6, 6, 6, 7, 7, 7, 7, 7, 7, 7, 7, 7, 7, 7, 7, 7, 7, 7, 7, 7, 7, 7, 7, 7, 7, 7, 7, 7, 7, 7, 7, 7, 7, 7, 7, 7, 7, 7, 7, 7, 7, 7, 7, 7, 7, 7, 7, 7, 7, 7, 7, 7, 7, 7, 7, 7, 7, 7, 7, 7, 7, 7, 7, 7, 7, 7, 7, 8, 8, 8, 8, 8, 8, 8, 8, 8, 8, 8, 8, 8, 8, 8, 8, 8, 8, 8, 8, 8, 8, 8, 8, 8, 8, 8, 8, 8, 8, 8, 8, 8, 8, 8, 8, 8, 8, 8, 8, 8, 8, 8, 8, 8, 8, 8, 8, 8, 8, 8, 8, 8, 8, 8, 8, 8, 8, 8, 8, 8, 8, 8, 8, 8, 8, 8, 8, 8, 8, 8, 8, 8, 8, 8, 8, 8, 8, 8, 8, 8, 8, 8, 8, 8, 8, 8, 8, 8, 8, 8, 8, 8, 8, 8, 8, 8, 8, 8, 8, 8, 8, 8, 8, 8, 8, 8, 8, 8, 8, 8, 8, 8, 8, 8, 8, 8, 8, 8, 8, 8, 8, 8, 8, 8, 8, 8, 8]⟩ : ByteArray))[b]?).map (·.toNat) = some (l8 b) := by
  have h2 : ∀ i : Fin 256, (((⟨#[0, 1, 2, 2, 3, 3, 3, 3, 4, 4, 4, 4, 4, 4, 4, 4, 5, 5, 5, 5, 5, 5, 5, 5, 5, 5, 5, 5, 5, 5, 5, 5, 6, 6, 6, 6, 6, 6, 6, 6, 6, 6, 6, 6, 6, 6, 6, 6, 6, 6, 6, 6, 6, 6, 6, 6, 6, 6, 6, 6, 6, 6, 6, 6, 7, 7, 7, 7, 7, 7, 7, 7, 7, 7, 7, 7, 7, 7, 7, 7, 7, 7, 7, 7, 7, 7, 7, 7, 7, 7, 7, 7, 7, 7, 7, 7, 7, 7, 7, 7, 7, 7, 7, 7, 7, 7, 7, 7, 7, 7, 7, 7, 7, 7, 7, 7, 7, 7, 7, 7, 7, 7, 7, 7, 7, 7, 7, 7, 8, 8, 8, 8, 8, 8, 8, 8, 8, 8, 8, 8, 8, 8, 8, 8, 8, 8, 8, 8, 8, 8, 8, 8, 8, 8, 8, 8, 8, 8, 8, 8, 8, 8, 8, 8, 8, 8, 8, 8, 8, 8, 8, 8, 8, 8, 8, 8, 8, 8, 8, 8, 8, 8, 8, 8, 8, 8, 8, 8, 8, 8, 8, 8, 8, 8, 8, 8, 8, 8, 8, 8, 8, 8, 8, 8, 8, 8, 8, 8, 8, 8, 8, 8, 8, 8, 8, 8, 8, 8, 8, 8, 8, 8, 8, 8, 8, 8, 8, 8, 8, 8, 8, 8, 8, 8, 8, 8, 8, 8, 8, 8, 8, 8, 8, 8, 8, 8, 8, 8, 8, 8, 8, 8, 8, 8, 8, 8]⟩ : ByteArray))[i.1]?).map (·.toNat) = some (l8 i.1) := by decide +kernel
  exact h2 ⟨b, h⟩
set_option maxRecDepth 100000 in
theorem a_Len64 (x : Nat) (hx : x < 18446744073709551616) : Ans Try.prog 107 [.int .u64 (x : Int)] (.int .i64 ((lenN x : Nat) : Int)) := by
  refine ans_of Try.func107 rfl Try.ntmps107 Try.results107 rfl rfl fun w => ?_
  refine v_seq ?_
  refine v_region ?_
  refine l_val rfl (o_assign rfl) ?_
  refine l_nil ?_
  refine kt_norm ?_
  refine v_seq ?_
  refine v_seq ?_
  refine v_region ?_
  refine l_val rfl (o_move rfl) ?_
  refine l_split rfl (o_geq rfl rfl) (fun q1 => ?_) (fun q1 => ?_)
  · first
    | (exfalso; omega; done)
    | (
        refine l_nil ?_
        refine kt_norm ?_
        refine v_condT rfl ?_
        refine v_seq ?_
        refine v_region ?_
        refine l_val rfl (o_move rfl) ?_
        refine l_val rfl (o_shr (n := 32) (p := 4294967296) rfl rfl (by decide) rfl (by decide)) ?_
        refine l_val rfl (o_assign rfl) ?_
        refine l_nil ?_
        refine kt_norm ?_
        refine v_region ?_
        refine l_val rfl (o_assign rfl) ?_
        refine l_nil ?_
        refine kt_norm ?_
        refine v_seq ?_
        refine v_seq ?_
        refine v_region ?_
        refine l_val rfl (o_move rfl) ?_
        refine l_split rfl (o_geq rfl rfl) (fun q2 => ?_) (fun q2 => ?_)
        · first
          | (exfalso; omega; done)
          | (
              refine l_nil ?_
              refine kt_norm ?_
              refine v_condT rfl ?_
              refine v_seq ?_
              refine v_region ?_
              refine l_val rfl (o_move rfl) ?_
              refine l_val rfl (o_shr (n := 16) (p := 65536) rfl rfl (by decide) rfl (by decide)) ?_
              refine l_val rfl (o_assign rfl) ?_
              refine l_nil ?_
              refine kt_norm ?_
              refine v_sel [0, 2] [] rfl rfl ?_
              refine v_region ?_
              refine l_val rfl (o_move rfl) ?_
              refine l_val rfl (o_addi rfl rfl ?_) ?_
              · omega
              refine l_val rfl (o_assign rfl) ?_
              refine l_nil ?_
              refine kt_norm ?_
              refine v_seq ?_
              refine v_seq ?_
              refine v_region ?_
              refine l_val rfl (o_move rfl) ?_
              refine l_split rfl (o_geq rfl rfl) (fun q3 => ?_) (fun q3 => ?_)
              · first
                | (exfalso; omega; done)
                | (
                    refine l_nil ?_
                    refine kt_norm ?_
                    refine v_condT rfl ?_
                    refine v_seq ?_
                    refine v_region ?_
                    refine l_val rfl (o_move rfl) ?_
                    refine l_val rfl (o_shr (n := 8) (p := 256) rfl rfl (by decide) rfl (by decide)) ?_
                    refine l_val rfl (o_assign rfl) ?_
                    refine l_nil ?_
                    refine kt_norm ?_
                    refine v_sel [0, 2] [] rfl rfl ?_
                    refine v_region ?_
                    refine l_val rfl (o_move rfl) ?_
                    refine l_val rfl (o_addi rfl rfl ?_) ?_
                    · omega
                    refine l_val rfl (o_assign rfl) ?_
                    refine l_nil ?_
                    refine kt_norm ?_
                    refine v_seq ?_
                    refine v_region ?_
                    refine l_val rfl (o_move rfl) ?_
                    refine l_val rfl (o_move rfl) ?_
                    refine l_val rfl (o_conv8 rfl ?_) ?_
                    · omega
                    have hl8 := l8_le (((x / 4294967296) / 65536) / 256)
                    refine l_val rfl (o_idxStr (((x / 4294967296) / 65536) / 256) (l8 (((x / 4294967296) / 65536) / 256)) (by kernel_rfl) rfl rfl (by omega) (tab8 (by omega))) ?_
                    refine l_val rfl (o_convi rfl ?_) ?_
                    · omega
                    refine l_val rfl (o_addi rfl rfl ?_) ?_
                    · omega
                    refine l_val rfl (o_assign rfl) ?_
                    refine l_nil ?_
                    refine kt_norm ?_
                    refine v_sel [2] [] rfl rfl ?_
                    refine v_ret ?_
                    refine ⟨[_], .cons (.tmp rfl) (ResAll.nil), ?_⟩
                    exact congrArg (Value.int .i64) (by unfold lenN addN cutN; (repeat' split) <;> omega))
              · first
                | (exfalso; omega; done)
                | (
                    refine l_nil ?_
                    refine kt_norm ?_
                    refine v_condF rfl ?_
                    refine v_skip ?_
                    refine kt_norm ?_
                    refine v_seq ?_
                    refine v_region ?_
                    refine l_val rfl (o_move rfl) ?_
                    refine l_val rfl (o_move rfl) ?_
                    refine l_val rfl (o_conv8 rfl ?_) ?_
                    · omega
                    have hl8 := l8_le ((x / 4294967296) / 65536)
                    refine l_val rfl (o_idxStr ((x / 4294967296) / 65536) (l8 ((x / 4294967296) / 65536)) (by kernel_rfl) rfl rfl (by omega) (tab8 (by omega))) ?_
                    refine l_val rfl (o_convi rfl ?_) ?_
                    · omega
                    refine l_val rfl (o_addi rfl rfl ?_) ?_
                    · omega
                    refine l_val rfl (o_assign rfl) ?_
                    refine l_nil ?_
                    refine kt_norm ?_
                    refine v_sel [2] [] rfl rfl ?_
                    refine v_ret ?_
                    refine ⟨[_], .cons (.tmp rfl) (ResAll.nil), ?_⟩
                    exact congrArg (Value.int .i64) (by unfold lenN addN cutN; (repeat' split) <;> omega)))
        · first
          | (exfalso; omega; done)
          | (
              refine l_nil ?_
              refine kt_norm ?_
              refine v_condF rfl ?_
              refine v_skip ?_
              refine kt_norm ?_
              refine v_sel [0, 2] [] rfl rfl ?_
              refine v_seq ?_
              refine v_seq ?_
              refine v_region ?_
              refine l_val rfl (o_move rfl) ?_
              refine l_split rfl (o_geq rfl rfl) (fun q4 => ?_) (fun q4 => ?_)
              · first
                | (exfalso; omega; done)
                | (
                    refine l_nil ?_
                    refine kt_norm ?_
                    refine v_condT rfl ?_
                    refine v_seq ?_
                    refine v_region ?_
                    refine l_val rfl (o_move rfl) ?_
                    refine l_val rfl (o_shr (n := 8) (p := 256) rfl rfl (by decide) rfl (by decide)) ?_
                    refine l_val rfl (o_assign rfl) ?_
                    refine l_nil ?_
                    refine kt_norm ?_
                    refine v_region ?_
                    refine l_val rfl (o_move rfl) ?_
                    refine l_val rfl (o_addi rfl rfl ?_) ?_
                    · omega
                    refine l_val rfl (o_assign rfl) ?_
                    refine l_nil ?_
                    refine kt_norm ?_
                    refine v_sel [0, 2] [] rfl rfl ?_
                    refine v_seq ?_
                    refine v_region ?_
                    refine l_val rfl (o_move rfl) ?_
                    refine l_val rfl (o_move rfl) ?_
                    refine l_val rfl (o_conv8 rfl ?_) ?_
                    · omega
                    have hl8 := l8_le ((x / 4294967296) / 256)
                    refine l_val rfl (o_idxStr ((x / 4294967296) / 256) (l8 ((x / 4294967296) / 256)) (by kernel_rfl) rfl rfl (by omega) (tab8 (by omega))) ?_
                    refine l_val rfl (o_convi rfl ?_) ?_
                    · omega
                    refine l_val rfl (o_addi rfl rfl ?_) ?_
                    · omega
                    refine l_val rfl (o_assign rfl) ?_
                    refine l_nil ?_
                    refine kt_norm ?_
                    refine v_sel [2] [] rfl rfl ?_
                    refine v_ret ?_
                    refine ⟨[_], .cons (.tmp rfl) (ResAll.nil), ?_⟩
                    exact congrArg (Value.int .i64) (by unfold lenN addN cutN; (repeat' split) <;> omega))
              · first
                | (exfalso; omega; done)
                | (
                    refine l_nil ?_
                    refine kt_norm ?_
                    refine v_condF rfl ?_
                    refine v_skip ?_
                    refine kt_norm ?_
                    refine v_seq ?_
                    refine v_region ?_
                    refine l_val rfl (o_move rfl) ?_
                    refine l_val rfl (o_move rfl) ?_
                    refine l_val rfl (o_conv8 rfl ?_) ?_
                    · omega
                    have hl8 := l8_le (x / 4294967296)
                    refine l_val rfl (o_idxStr (x / 4294967296) (l8 (x / 4294967296)) (by kernel_rfl) rfl rfl (by omega) (tab8 (by omega))) ?_
                    refine l_val rfl (o_convi rfl ?_) ?_
                    · omega
                    refine l_val rfl (o_addi rfl rfl ?_) ?_
                    · omega
                    refine l_val rfl (o_assign rfl) ?_
                    refine l_nil ?_
                    refine kt_norm ?_
                    refine v_sel [2] [] rfl rfl ?_
                    refine v_ret ?_
                    refine ⟨[_], .cons (.tmp rfl) (ResAll.nil), ?_⟩
                    exact congrArg (Value.int .i64) (by unfold lenN addN cutN; (repeat' split) <;> omega))))
  · first
    | (exfalso; omega; done)
    | (
        refine l_nil ?_
        refine kt_norm ?_
        refine v_condF rfl ?_
        refine v_skip ?_
        refine kt_norm ?_
        refine v_seq ?_
        refine v_seq ?_
        refine v_region ?_
        refine l_val rfl (o_move rfl) ?_
        refine l_split rfl (o_geq rfl rfl) (fun q5 => ?_) (fun q5 => ?_)
        · first
          | (exfalso; omega; done)
          | (
              refine l_nil ?_
              refine kt_norm ?_
              refine v_condT rfl ?_
              refine v_seq ?_
              refine v_region ?_
              refine l_val rfl (o_move rfl) ?_
              refine l_val rfl (o_shr (n := 16) (p := 65536) rfl rfl (by decide) rfl (by decide)) ?_
              refine l_val rfl (o_assign rfl) ?_
              refine l_nil ?_
              refine kt_norm ?_
              refine v_sel [0, 2] [] rfl rfl ?_
              refine v_region ?_
              refine l_val rfl (o_move rfl) ?_
              refine l_val rfl (o_addi rfl rfl ?_) ?_
              · omega
              refine l_val rfl (o_assign rfl) ?_
              refine l_nil ?_
              refine kt_norm ?_
              refine v_seq ?_
              refine v_seq ?_
              refine v_region ?_
              refine l_val rfl (o_move rfl) ?_
              refine l_split rfl (o_geq rfl rfl) (fun q6 => ?_) (fun q6 => ?_)
              · first
                | (exfalso; omega; done)
                | (
                    refine l_nil ?_
                    refine kt_norm ?_
                    refine v_condT rfl ?_
                    refine v_seq ?_
                    refine v_region ?_
                    refine l_val rfl (o_move rfl) ?_
                    refine l_val rfl (o_shr (n := 8) (p := 256) rfl rfl (by decide) rfl (by decide)) ?_
                    refine l_val rfl (o_assign rfl) ?_
                    refine l_nil ?_
                    refine kt_norm ?_
                    refine v_sel [0, 2] [] rfl rfl ?_
                    refine v_region ?_
                    refine l_val rfl (o_move rfl) ?_
                    refine l_val rfl (o_addi rfl rfl ?_) ?_
                    · omega
                    refine l_val rfl (o_assign rfl) ?_
                    refine l_nil ?_
                    refine kt_norm ?_
                    refine v_seq ?_
                    refine v_region ?_
                    refine l_val rfl (o_move rfl) ?_
                    refine l_val rfl (o_move rfl) ?_
                    refine l_val rfl (o_conv8 rfl ?_) ?_
                    · omega
                    have hl8 := l8_le ((x / 65536) / 256)
                    refine l_val rfl (o_idxStr ((x / 65536) / 256) (l8 ((x / 65536) / 256)) (by kernel_rfl) rfl rfl (by omega) (tab8 (by omega))) ?_
                    refine l_val rfl (o_convi rfl ?_) ?_
                    · omega
                    refine l_val rfl (o_addi rfl rfl ?_) ?_
                    · omega
                    refine l_val rfl (o_assign rfl) ?_
                    refine l_nil ?_
                    refine kt_norm ?_
                    refine v_sel [2] [] rfl rfl ?_
                    refine v_ret ?_
                    refine ⟨[_], .cons (.tmp rfl) (ResAll.nil), ?_⟩
                    exact congrArg (Value.int .i64) (by unfold lenN addN cutN; (repeat' split) <;> omega))
              · first
                | (exfalso; omega; done)
                | (
                    refine l_nil ?_
                    refine kt_norm ?_
                    refine v_condF rfl ?_
                    refine v_skip ?_
                    refine kt_norm ?_
                    refine v_seq ?_
                    refine v_region ?_
                    refine l_val rfl (o_move rfl) ?_
                    refine l_val rfl (o_move rfl) ?_
                    refine l_val rfl (o_conv8 rfl ?_) ?_
                    · omega
                    have hl8 := l8_le (x / 65536)
                    refine l_val rfl (o_idxStr (x / 65536) (l8 (x / 65536)) (by kernel_rfl) rfl rfl (by omega) (tab8 (by omega))) ?_
                    refine l_val rfl (o_convi rfl ?_) ?_
                    · omega
                    refine l_val rfl (o_addi rfl rfl ?_) ?_
                    · omega
                    refine l_val rfl (o_assign rfl) ?_
                    refine l_nil ?_
                    refine kt_norm ?_
                    refine v_sel [2] [] rfl rfl ?_
                    refine v_ret ?_
                    refine ⟨[_], .cons (.tmp rfl) (ResAll.nil), ?_⟩
                    exact congrArg (Value.int .i64) (by unfold lenN addN cutN; (repeat' split) <;> omega)))
        · first
          | (exfalso; omega; done)
          | (
              refine l_nil ?_
              refine kt_norm ?_
              refine v_condF rfl ?_
              refine v_skip ?_
              refine kt_norm ?_
              refine v_seq ?_
              refine v_seq ?_
              refine v_region ?_
              refine l_val rfl (o_move rfl) ?_
              refine l_split rfl (o_geq rfl rfl) (fun q7 => ?_) (fun q7 => ?_)
              · first
                | (exfalso; omega; done)
                | (
                    refine l_nil ?_
                    refine kt_norm ?_
                    refine v_condT rfl ?_
                    refine v_seq ?_
                    refine v_region ?_
                    refine l_val rfl (o_move rfl) ?_
                    refine l_val rfl (o_shr (n := 8) (p := 256) rfl rfl (by decide) rfl (by decide)) ?_
                    refine l_val rfl (o_assign rfl) ?_
                    refine l_nil ?_
                    refine kt_norm ?_
                    refine v_sel [0, 2] [] rfl rfl ?_
                    refine v_region ?_
                    refine l_val rfl (o_move rfl) ?_
                    refine l_val rfl (o_addi rfl rfl ?_) ?_
                    · omega
                    refine l_val rfl (o_assign rfl) ?_
                    refine l_nil ?_
                    refine kt_norm ?_
                    refine v_seq ?_
                    refine v_region ?_
                    refine l_val rfl (o_move rfl) ?_
                    refine l_val rfl (o_move rfl) ?_
                    refine l_val rfl (o_conv8 rfl ?_) ?_
                    · omega
                    have hl8 := l8_le (x / 256)
                    refine l_val rfl (o_idxStr (x / 256) (l8 (x / 256)) (by kernel_rfl) rfl rfl (by omega) (tab8 (by omega))) ?_
                    refine l_val rfl (o_convi rfl ?_) ?_
                    · omega
                    refine l_val rfl (o_addi rfl rfl ?_) ?_
                    · omega
                    refine l_val rfl (o_assign rfl) ?_
                    refine l_nil ?_
                    refine kt_norm ?_
                    refine v_sel [2] [] rfl rfl ?_
                    refine v_ret ?_
                    refine ⟨[_], .cons (.tmp rfl) (ResAll.nil), ?_⟩
                    exact congrArg (Value.int .i64) (by unfold lenN addN cutN; (repeat' split) <;> omega))
              · first
                | (exfalso; omega; done)
                | (
                    refine l_nil ?_
                    refine kt_norm ?_
                    refine v_condF rfl ?_
                    refine v_skip ?_
                    refine kt_norm ?_
                    refine v_sel [0, 2] [] rfl rfl ?_
                    refine v_seq ?_
                    refine v_region ?_
                    refine l_val rfl (o_move rfl) ?_
                    refine l_val rfl (o_move rfl) ?_
                    refine l_val rfl (o_conv8 rfl ?_) ?_
                    · omega
                    have hl8 := l8_le x
                    refine l_val rfl (o_idxStr x (l8 x) (by kernel_rfl) rfl rfl (by omega) (tab8 (by omega))) ?_
                    refine l_val rfl (o_convi rfl ?_) ?_
                    · omega
                    refine l_val rfl (o_addi rfl rfl ?_) ?_
                    · omega
                    refine l_val rfl (o_assign rfl) ?_
                    refine l_nil ?_
                    refine kt_norm ?_
                    refine v_sel [2] [] rfl rfl ?_
                    refine v_ret ?_
                    refine ⟨[_], .cons (.tmp rfl) (ResAll.nil), ?_⟩
                    exact congrArg (Value.int .i64) (by unfold lenN addN cutN; (repeat' split) <;> omega))))
theorem lenN_zero : lenN 0 = 0 := by decide
theorem a_Len64z : Ans Try.prog 107 [.int .u64 0] (.int .i64 0) := by
  have := a_Len64 0 (by omega)
  rwa [lenN_zero] at this
theorem a_Lead64z  : Ans Try.prog 106 [.int .u64 0] (.int .i64 64) := by
  refine ans_of Try.func106 rfl Try.ntmps106 Try.results106 rfl rfl fun w => ?_
  refine v_seq ?_
  refine v_region ?_
  refine l_val rfl (o_assign rfl) ?_
  refine l_nil ?_
  refine kt_norm ?_
  refine v_seq ?_
  refine v_region ?_
  refine l_val rfl (o_move rfl) ?_
  refine l_ans (vs := [_]) rfl rfl (a_Len64z) ?_
  refine l_val rfl (o_subi rfl rfl ?_) ?_
  · omega
  refine l_val rfl (o_assign rfl) ?_
  refine l_nil ?_
  refine kt_norm ?_
  refine v_ret ?_
  refine ⟨[_], .cons (.tmp rfl) (ResAll.nil), ?_⟩
  rfl
theorem a_half (a b : Int) (ha : 0 ≤ a ∧ a < 4611686018427387904) (hb : 0 ≤ b ∧ b < 4611686018427387904) : Ans Try.prog 109 [.int .u64 a, .int .u64 b] (.int .u64 ((a + b) / 2)) := by
  refine ans_of Try.func109 rfl Try.ntmps109 Try.results109 rfl rfl fun w => ?_
  refine v_seq ?_
  refine v_region ?_
  refine l_val rfl (o_assign rfl) ?_
  refine l_nil ?_
  refine kt_norm ?_
  refine v_seq ?_
  refine v_region ?_
  refine l_val rfl (o_move rfl) ?_
  refine l_val rfl (o_move rfl) ?_
  refine l_ans (vs := [_, _, _]) rfl rfl (a_Add64 _ _ _ ?_ ?_ ?_) ?_
  · omega
  · omega
  · omega
  refine l_val rfl (o_move rfl) ?_
  refine l_val rfl (o_extract rfl rfl) ?_
  refine l_val rfl (o_extract rfl rfl) ?_
  refine l_val rfl (o_assign rfl) ?_
  refine l_val rfl (o_assign rfl) ?_
  refine l_nil ?_
  refine kt_norm ?_
  refine v_sel [5, 6] [] rfl rfl ?_
  refine v_seq ?_
  refine v_region ?_
  refine l_val rfl (o_move rfl) ?_
  refine l_val rfl (o_shr (n := 1) (p := 2) rfl rfl (by decide) rfl (by decide)) ?_
  refine l_val rfl (o_move rfl) ?_
  have hc0 : (a + b + 0) / 18446744073709551616 = 0 := by omega
  have hs0 : (a + b + 0) % 18446744073709551616 = a + b := by omega
  refine l_val rfl (o_shl (n := 63) (p := 9223372036854775808) (r := 0) rfl rfl (by decide) rfl (by decide) (by rw [hc0]; decide)) ?_
  refine l_val rfl (o_or (r := (a + b + 0) % 18446744073709551616 / 2) rfl rfl (wrap_or0 (by omega))) ?_
  refine l_val rfl (o_assign rfl) ?_
  refine l_nil ?_
  refine kt_norm ?_
  refine v_sel [4] [] rfl rfl ?_
  refine v_ret ?_
  refine ⟨[_], .cons (.tmp rfl) (ResAll.nil), ?_⟩
  exact congrArg (Value.int .u64) (by rw [hs0])
set_option maxHeartbeats 1000000 in
theorem a_guess1 (bh bl : Nat) (n : Nat) (hn : 0 < n) (hx : n < 4611686018427387904) : Iter Try.prog 105 #[.pointer (some ⟨bh, 0, none⟩), .pointer (some ⟨bl, 0, none⟩)] (fun x : Nat => [.int .u64 (x : Int)]) (nwt n (2 ^ ((lenN n + 1) / 2)) (2 ^ ((lenN n + 1) / 2))) (fun w => (Blk w bh #[.int .u64 0] 68 ∧ Blk w bl #[.int .u64 (n : Int)] 68)) := by
  intro lp J Jx O0 W hJ hJx hJG hround hJ0
  have gst : ∀ {w w' : World}, (Blk w bh #[.int .u64 0] 68 ∧ Blk w bl #[.int .u64 (n : Int)] 68) → Chg (fun _ => False) w w' → (Blk w' bh #[.int .u64 0] 68 ∧ Blk w' bl #[.int .u64 (n : Int)] 68) := fun h hc => ⟨(hc.block bh (Blk.lt h.1) (fun h => h)).trans h.1, (hc.block bl (Blk.lt h.2) (fun h => h)).trans h.2⟩
  have hG0 := (hJG _ _ _ hJ0).1
  have hgl := guess_le (x := n) (by omega)
  have hg0 := guess0 (x := n) (by omega)
  have hlo := (lenN_ok (x := n) (by omega)).2
  have hs0 : isq n ≤ 2 ^ ((lenN n + 1) / 2) := by
    have := (isq_ok (n := n) (by omega)).1
    exact Nat.le_of_lt (sq_lt (by omega))
  obtain ⟨XS, hXS⟩ : ∃ XS, nwt n (2 ^ ((lenN n + 1) / 2)) (2 ^ ((lenN n + 1) / 2)) = XS := ⟨_, rfl⟩
  rw [hXS] at hround ⊢
  refine enterI (A := fun W' => (∃ O', J XS.length O' W') ∨ Jx W') (args := [.func (.yield lp) #[] #[], .pointer (some ⟨bh, 0, none⟩), .pointer (some ⟨bl, 0, none⟩)]) Try.func105 rfl Try.ntmps105 Try.results105 rfl (fun w w' h hc => h.imp (fun ⟨O, h⟩ => ⟨O, hJ _ _ _ _ h hc⟩) (fun h => hJx _ _ h hc)) ?_
  refine v_seq ?_
  refine v_region ?_
  refine l_val rfl (o_loadG1 rfl (fun w hg => (gst hG0 hg).1.cell 0 _ rfl)) ?_
  refine l_ans (vs := [_]) rfl rfl (a_Lead64z) ?_
  refine l_val rfl (o_subi rfl rfl ?_) ?_
  · omega
  refine l_val rfl (o_assign rfl) ?_
  refine l_nil ?_
  refine kt_norm ?_
  refine v_seq ?_
  refine v_seq ?_
  refine v_region ?_
  refine l_val rfl (o_loadG1 rfl (fun w hg => (gst hG0 hg).1.cell 0 _ rfl)) ?_
  refine l_split rfl (o_eql rfl rfl) (fun q1 => ?_) (fun q1 => absurd (show _ by omega) q1)
  refine l_nil ?_
  refine kt_norm ?_
  refine v_condT rfl ?_
  refine v_region ?_
  refine l_val rfl (o_loadG1 rfl (fun w hg => (gst hG0 hg).2.cell 0 _ rfl)) ?_
  refine l_ans (vs := [_]) rfl rfl (a_Len64 n (by omega)) ?_
  refine l_val rfl (o_assign rfl) ?_
  refine l_nil ?_
  refine kt_norm ?_
  refine v_sel [0, 1, 2, 4] [] rfl rfl ?_
  refine v_seq ?_
  refine v_region ?_
  refine l_val rfl (o_move rfl) ?_
  refine l_val rfl (o_addi rfl rfl ?_) ?_
  · omega
  refine l_val rfl (o_shr (n := 1) (p := 2) rfl rfl (by decide) rfl (by decide)) ?_
  refine l_val rfl (o_and rfl rfl (wrap_and63 _)) ?_
  refine l_val rfl (o_shl (n := (lenN n + 1) / 2) (p := ((2 ^ ((lenN n + 1) / 2) : Nat) : Int)) (r := ((2 ^ ((lenN n + 1) / 2) : Nat) : Int)) rfl rfl (by omega) (by show min ((((lenN n : Nat) : Int) + 1) / 2 % 64).toNat 64 = _; omega) (pow_nat _) (by rw [Int.one_mul]; exact wrap_u64n (by omega))) ?_
  refine l_val rfl (o_move rfl) ?_
  refine l_val rfl (o_addi rfl rfl ?_) ?_
  · omega
  refine l_val rfl (o_shr (n := 7) (p := 128) rfl rfl (by decide) rfl (by decide)) ?_
  refine l_val rfl (o_convu rfl) ?_
  refine l_val rfl (o_subu rfl rfl) ?_
  refine l_val rfl (o_assign rfl) ?_
  refine l_nil ?_
  refine kt_norm ?_
  refine v_sel [0, 1, 2, 4, 5] [] rfl rfl ?_
  refine v_seq ?_
  refine v_seq ?_
  refine v_region ?_
  refine l_val rfl (o_move rfl) ?_
  refine l_split rfl (o_geq rfl rfl) (fun q2 => absurd q2 (by omega)) (fun q2 => ?_)
  refine l_nil ?_
  refine kt_norm ?_
  refine v_condF rfl ?_
  refine v_skip ?_
  refine kt_norm ?_
  refine v_block ?_
  refine v_loopL (α := Nat × Nat × World) (fun ⟨i, x, W2⟩ => [(5, .int .u64 (x : Int))]) (fun ⟨i, x, W2⟩ => []) (fun ⟨i, x, W2⟩ => fun w => Chg (fun _ => False) W2 w) (fun ⟨i, x, W2⟩ => fun b => b < W2.heap.size) (fun ⟨i, x, W2⟩ => (∃ O2, J i O2 W2) ∧ isq n ≤ x ∧ x ≤ 4294967296 ∧ ∃ f, XS.drop i = nwt n f x ∧ x ≤ f) (fun ⟨i, x, W2⟩ => x) (0, 2 ^ ((lenN n + 1) / 2), W) [0, 1, 2] [] ⟨⟨O0, hJ0⟩, hs0, hgl.1, _, hXS.symm, Nat.le_refl _⟩ rfl rfl (And.intro (congrArg (fun z => some (Value.int .u64 z)) (by omega)) (True.intro)) rfl (True.intro) rfl ?_
  rintro ⟨i, x, W2⟩ ⟨⟨O2, hJ2⟩, hsx, hxl, f, hdr, hxf⟩
  have hGk := fun w (hg : Chg (fun _ => False) W2 w) => gst (hJG _ _ _ hJ2).1 hg
  have hx1 : 0 < x := by have := isq_pos (n := n) (by omega) hn; omega
  obtain ⟨f, rfl⟩ : ∃ f2, f = f2 + 1 := ⟨f - 1, by omega⟩
  rw [nwt] at hdr
  have hxi : XS[i]? = some x := by have := congrArg List.head? hdr; rwa [List.head?_drop] at this
  refine v_seq ?_
  refine v_seq ?_
  refine v_region ?_
  have hx0 : 0 < x := by have := isq_pos (n := n) (by omega) hn; omega
  refine l_val rfl (o_move rfl) ?_
  refine l_val rfl (o_move rfl) ?_
  refine l_yield (k := 0) (vs := [_]) (A := fun W3 => ∃ O3, J (i + 1) O3 W3) (B := Jx) rfl rfl (fun _ => trivial) (fun h => h) rfl rfl rfl (fun w hg => ⟨O2, yieldAt_mono (hround _ _ O2 w hxi (hJ _ _ _ _ hJ2 hg)) (fun e w2 h => h.imp (fun h => ⟨h.1, h.2.1, h.2.2.imp fun O h => h.1⟩) id)⟩) (fun W3 hA => ?_) (fun W3 hBx => ?_)
  · skip
    obtain ⟨O3, hJ3⟩ := hA
    have hGk3 := fun w (hg : Chg (fun _ => False) W3 w) => gst (hJG _ _ _ hJ3).1 hg
    refine l_nil ?_
    refine kt_norm ?_
    refine v_condT rfl ?_
    refine v_skip ?_
    refine kt_norm ?_
    refine v_block ?_
    refine v_seq ?_
    refine v_seq ?_
    refine v_region ?_
    refine l_val rfl (o_move rfl) ?_
    refine l_val rfl (o_loadG1 rfl (fun w hg => (hGk3 w hg).1.cell 0 _ rfl)) ?_
    refine l_split rfl (o_leq rfl rfl) (fun q3 => absurd q3 (by omega)) (fun q3 => ?_)
    refine l_nil ?_
    refine kt_norm ?_
    refine v_condF rfl ?_
    refine v_skip ?_
    refine kt_norm ?_
    refine v_sel [5, 0, 1, 2] [] rfl rfl ?_
    refine v_seq ?_
    refine v_region ?_
    have hnx : ((n / x : Nat) : Int) = (n : Int) / (x : Int) := Int.natCast_ediv n x
    have hnl : n / x ≤ n := Nat.div_le_self n x
    have hnx0 : 0 ≤ (n : Int) / (x : Int) := by rw [← hnx]; exact Int.natCast_nonneg _
    have hge0 := nwt_ge (n := n) (x := x) (by omega) hx0
    refine l_val rfl (o_loadG1 rfl (fun w hg => (hGk3 w hg).1.cell 0 _ rfl)) ?_
    refine l_val rfl (o_loadG1 rfl (fun w hg => (hGk3 w hg).2.cell 0 _ rfl)) ?_
    refine l_val rfl (o_move rfl) ?_
    refine l_ans (vs := [_, _, _]) rfl rfl (a_Div64 0 (n : Int) (x : Int) rfl (by omega) (by omega)) ?_
    refine l_val rfl (o_move rfl) ?_
    refine l_val rfl (o_extract rfl rfl) ?_
    refine l_val rfl (o_extract rfl rfl) ?_
    refine l_val rfl (o_assign rfl) ?_
    refine l_val rfl (o_assign rfl) ?_
    refine l_nil ?_
    refine kt_norm ?_
    refine v_sel [5, 0, 1, 2, 6] [] rfl rfl ?_
    refine v_seq ?_
    refine v_region ?_
    refine l_val rfl (o_move rfl) ?_
    refine l_val rfl (o_move rfl) ?_
    refine l_ans (vs := [_, _]) rfl rfl (a_half (x : Int) ((n : Int) / (x : Int)) (by omega) (by omega)) ?_
    refine l_val rfl (o_assign rfl) ?_
    refine l_nil ?_
    refine kt_norm ?_
    refine v_seq ?_
    refine v_seq ?_
    refine v_region ?_
    refine l_val rfl (o_move rfl) ?_
    refine l_val rfl (o_move rfl) ?_
    refine l_split rfl (o_geq rfl rfl) (fun hge => ?_) (fun hge => ?_)
    · skip
      refine l_nil ?_
      refine kt_norm ?_
      refine v_sel [0, 1, 2, 8, 46] [] rfl rfl ?_
      refine v_condT rfl ?_
      refine v_ret ?_
      refine kt_ret ?_
      refine kb_ret ?_
      refine kt_ret ?_
      refine kb_ret ?_
      refine ⟨[], ResAll.nil, ?_⟩
      first
        | exact ⟨rfl, fun w hg => .inr (hJx _ _ hBx hg)⟩
        | exact ⟨rfl, fun w hg => .inl ⟨O3, hJ _ _ _ _ (by rw [if_pos (by omega)] at hdr; have hl := congrArg List.length hdr; rw [List.length_drop] at hl; simp at hl; rw [show XS.length = i + 1 by omega]; exact hJ3) hg⟩⟩
    · skip
      refine l_nil ?_
      refine kt_norm ?_
      refine v_sel [0, 1, 2, 8, 46] [] rfl rfl ?_
      refine v_condF rfl ?_
      refine v_skip ?_
      refine kt_norm ?_
      refine v_region ?_
      refine l_val rfl (o_move rfl) ?_
      refine l_val rfl (o_assign rfl) ?_
      refine l_nil ?_
      refine kb_norm ?_
      refine kt_norm ?_
      have hdr2 : XS.drop (i + 1) = nwt n f ((x + n / x) / 2) := by rw [← List.drop_drop, hdr, if_neg (by omega)]; rfl
      refine ⟨(i + 1, ((x + n / x) / 2), W3), ⟨⟨O3, hJ3⟩, hge0, by omega, f, hdr2, by omega⟩, (by show ((x + n / x) / 2) < x; omega), le_app (And.intro (congrArg (fun z => some (Value.int .u64 z)) (by omega)) (True.intro)) [0, 1, 2] rfl (True.intro) [] rfl⟩
  · skip
    refine l_nil ?_
    refine kt_norm ?_
    refine v_condF rfl ?_
    refine v_exit ?_
    refine kt_exit ?_
    refine kt_exit ?_
    refine kb_eq ?_
    refine ⟨[], ResAll.nil, ?_⟩
    first
      | exact ⟨rfl, fun w hg => .inr (hJx _ _ hBx hg)⟩
      | exact ⟨rfl, fun w hg => .inl ⟨O3, hJ _ _ _ _ (by rw [if_pos (by omega)] at hdr; have hl := congrArg List.length hdr; rw [List.length_drop] at hl; simp at hl; rw [show XS.length = i + 1 by omega]; exact hJ3) hg⟩⟩
theorem a_guesses (w : World) (n : Nat) : Calls Try.prog 98 #[.int .u64 0, .int .u64 (n : Int)] w fun e w' => ∃ x : Nat × Nat, e = .returned (.func (.func 105) #[] #[.pointer (some ⟨x.1, 0, none⟩), .pointer (some ⟨x.2, 0, none⟩)]) ∧ Below w.heap.size w w' ∧ (Blk w' x.1 #[.int .u64 0] 68 ∧ Blk w' x.2 #[.int .u64 (n : Int)] 68) ∧ ∀ b, (b = x.1 ∨ b = x.2) → w.heap.size ≤ b := by
  refine calls_said (args := [.int .u64 0, .int .u64 (n : Int)]) (fun x : Nat × Nat => .func (.func 105) #[] #[.pointer (some ⟨x.1, 0, none⟩), .pointer (some ⟨x.2, 0, none⟩)]) (fun x w' => Blk w' x.1 #[.int .u64 0] 68 ∧ Blk w' x.2 #[.int .u64 (n : Int)] 68) (fun x b => b = x.1 ∨ b = x.2) Try.func98 rfl Try.ntmps98 Try.results98 rfl ?_
  refine v_seq ?_
  refine v_region ?_
  refine l_new rfl (o_box (cs := [_]) rfl rfl) fun b2 => ?_
  refine l_new rfl (o_box (cs := [_]) rfl rfl) fun b3 => ?_
  refine l_val rfl (o_assign rfl) ?_
  refine l_nil ?_
  refine kt_norm ?_
  refine v_seq ?_
  refine v_region ?_
  refine l_val rfl (o_makeFunc (vs := [_, _]) rfl) ?_
  refine l_val rfl (o_assign rfl) ?_
  refine l_nil ?_
  refine kt_norm ?_
  refine v_ret ?_
  refine ⟨[_], .cons (.tmp rfl) (ResAll.nil), ?_⟩
  exact ⟨(b2, b3), rfl, fun w' ho => ⟨⟨(ho.mo 2 _ rfl).1, (ho.mo 3 _ rfl).1⟩, fun b hb => by rcases hb with hb | hb; exact ((ho.mo 2 _ rfl).2 b (congrArg some hb.symm)).elim id False.elim; exact ((ho.mo 3 _ rfl).2 b (congrArg some hb.symm)).elim id False.elim⟩⟩
theorem a_rootS (n s : Nat) (XS : List Nat) (hn : 0 < n) (hx : n < 4611686018427387904) (hlast : XS.getLast? = some s) (hit : ∀ bh bl : Nat, Iter Try.prog 105 #[.pointer (some ⟨bh, 0, none⟩), .pointer (some ⟨bl, 0, none⟩)] (fun x : Nat => [.int .u64 (x : Int)]) XS (fun w => (Blk w bh #[.int .u64 0] 68 ∧ Blk w bl #[.int .u64 (n : Int)] 68))) : Ans Try.prog 85 [.int .u64 0, .int .u64 (n : Int)] (.int .u64 (s : Int)) := by
  refine ans_of Try.func85 rfl Try.ntmps85 Try.results85 rfl rfl fun w => ?_
  refine v_seq ?_
  refine v_region ?_
  refine l_new rfl o_alloc fun b4 => ?_
  refine l_nil ?_
  refine kt_norm ?_
  refine v_seq ?_
  refine v_seq ?_
  refine v_region ?_
  refine l_val rfl (o_move rfl) ?_
  refine l_split rfl (o_eql rfl rfl) (fun q1 => ?_) (fun q1 => absurd (show _ by omega) q1)
  refine l_val rfl (o_move rfl) ?_
  refine l_val rfl (o_move rfl) ?_
  refine l_split rfl (o_eql rfl rfl) (fun q2 => absurd q2 (by omega)) (fun q2 => ?_)
  refine l_val rfl (o_pickT rfl rfl) ?_
  refine l_nil ?_
  refine kt_norm ?_
  refine v_condF rfl ?_
  refine v_skip ?_
  refine kt_norm ?_
  refine v_sel [0, 1, 4] [4] rfl rfl ?_
  refine v_seq ?_
  refine v_seq ?_
  refine v_region ?_
  refine l_val rfl (o_move rfl) ?_
  refine l_val rfl (o_move rfl) ?_
  refine l_gsaid (ks := []) (caps := #[]) (vs := [_, _]) (α := Nat × Nat) (fun x => .func (.func 105) #[] #[.pointer (some ⟨x.1, 0, none⟩), .pointer (some ⟨x.2, 0, none⟩)]) (fun x w' => Blk w' x.1 #[.int .u64 0] 68 ∧ Blk w' x.2 #[.int .u64 (n : Int)] 68) (fun x b => b = x.1 ∨ b = x.2) rfl rfl (ent_of Try.func98 rfl rfl) rfl (fun x w1 w2 h hb => ⟨(hb _ (.inl rfl)).trans h.1, (hb _ (.inr rfl)).trans h.2⟩) (fun x w1 b h hb => hb.elim (fun e => e ▸ Blk.lt h.1) (fun e => e ▸ Blk.lt h.2)) (fun w' hg hh => a_guesses w' n) fun xb => ?_
  refine l_nil ?_
  refine kt_norm ?_
  refine v_block ?_
  refine v_range (τ := Nat) rfl rfl rfl (ent_of Try.func105 rfl rfl) (hit xb.1 xb.2) (fun w' hg => hg.2) (fun _ => rfl) (fun t => [(4, .box b4 68 [.int .u64 (t : Int)])]) (fun k t => t = if k = 0 then 0 else XS.getD (k - 1) 0) 0 rfl [4] rfl ?_ ?_
  · rintro k x t lp W1 Wa hx2 hQ
    dsimp only
    refine v_region ?_
    refine l_store rfl (o_store1 (key := 4) (rs := [_]) rfl rfl rfl rfl rfl rfl rfl) ?_
    refine l_nil ?_
    refine ⟨rfl, rfl, rfl, rfl, fun W2 Wb => ?_⟩
    refine v_block ?_
    refine v_skip ?_
    refine kb_norm ?_
    exact ⟨rfl, x, by rw [if_neg (by omega), Nat.add_sub_cancel, List.getD_eq_getElem?_getD, hx2]; rfl, ⟨fun _ _ h => (by cases h), leL_ok _ (And.intro rfl True.intro), rfl, rfl, rfl⟩⟩
  · rintro t D hQ
    have ht : t = s := by
      rw [List.getLast?_eq_getElem?] at hlast
      have hne : XS.length ≠ 0 := by intro h0; rw [h0] at hlast; have := List.eq_nil_of_length_eq_zero h0; rw [this] at hlast; cases hlast
      rw [hQ, if_neg hne, List.getD_eq_getElem?_getD, hlast]; rfl
    subst ht
    refine kb_norm ?_
    refine kt_norm ?_
    refine v_seq ?_
    refine v_region ?_
    refine l_val rfl (o_load1 (key := 4) rfl rfl rfl) ?_
    refine l_store rfl (o_store1 (key := 4) (rs := [_]) rfl rfl rfl rfl rfl rfl rfl) ?_
    refine l_nil ?_
    refine kt_norm ?_
    refine v_sel [4] [4] rfl rfl ?_
    refine v_ret ?_
    refine ⟨[_], .cons (.cell1 (key := 4) rfl rfl) (ResAll.nil), ?_⟩
    rfl
theorem a_root (n : Nat) (hn : 0 < n) (hx : n < 4611686018427387904) : Ans Try.prog 85 [.int .u64 0, .int .u64 (n : Int)] (.int .u64 ((isq n : Nat) : Int)) :=
  a_rootS n (isq n) _ hn hx (nwt_last (by omega) hn _ _ (Nat.le_refl _) (by
    have := (isq_ok (n := n) (by omega)).1
    have := guess0 (x := n) (by omega)
    exact Nat.le_of_lt (sq_lt (by omega)))) fun bh bl => a_guess1 bh bl n hn hx

end Go.Proofs.Ytpgjbalnipinoaa

/- The root; the nearest quotient; the vector of a length. Conditions: none. -/
namespace Go.Proofs.Ytpgjbalnipinoaa
open Go.Proofs Go.RowKit Go.Shelf

theorem a_root0  : Ans Try.prog 85 [.int .u64 0, .int .u64 0] (.int .u64 0) := by
  refine ans_of Try.func85 rfl Try.ntmps85 Try.results85 rfl rfl fun w => ?_
  refine v_seq ?_
  refine v_region ?_
  refine l_new rfl o_alloc fun b4 => ?_
  refine l_nil ?_
  refine kt_norm ?_
  refine v_seq ?_
  refine v_seq ?_
  refine v_region ?_
  refine l_val rfl (o_move rfl) ?_
  refine l_split rfl (o_eql rfl rfl) (fun q1 => ?_) (fun q1 => absurd (show _ by omega) q1)
  refine l_val rfl (o_move rfl) ?_
  refine l_val rfl (o_move rfl) ?_
  refine l_split rfl (o_eql rfl rfl) (fun q2 => ?_) (fun q2 => absurd (show _ by omega) q2)
  refine l_val rfl (o_pickT rfl rfl) ?_
  refine l_nil ?_
  refine kt_norm ?_
  refine v_condT rfl ?_
  refine v_seq ?_
  refine v_region ?_
  refine l_store rfl (o_store1 (key := 4) (rs := [_]) rfl rfl rfl rfl rfl rfl rfl) ?_
  refine l_nil ?_
  refine kt_norm ?_
  refine v_sel [4] [4] rfl rfl ?_
  refine v_ret ?_
  refine kt_ret ?_
  refine ⟨[_], .cons (.cell1 (key := 4) rfl rfl) (ResAll.nil), ?_⟩
  rfl
theorem a_Sqrt0  : Ans Try.prog 66 [.int .u64 0] (.int .u64 0) := by
  refine ans_of Try.func66 rfl Try.ntmps66 Try.results66 rfl rfl fun w => ?_
  refine v_seq ?_
  refine v_region ?_
  refine l_val rfl (o_assign rfl) ?_
  refine l_nil ?_
  refine kt_norm ?_
  refine v_seq ?_
  refine v_region ?_
  refine l_val rfl (o_move rfl) ?_
  refine l_ans (vs := [_, _]) rfl rfl (a_root0) ?_
  refine l_val rfl (o_assign rfl) ?_
  refine l_nil ?_
  refine kt_norm ?_
  refine v_ret ?_
  refine ⟨[_], .cons (.tmp rfl) (ResAll.nil), ?_⟩
  rfl
theorem a_SqrtP (n : Nat) (hn : 0 < n) (hx : n < 4611686018427387904) : Ans Try.prog 66 [.int .u64 (n : Int)] (.int .u64 ((isq n : Nat) : Int)) := by
  refine ans_of Try.func66 rfl Try.ntmps66 Try.results66 rfl rfl fun w => ?_
  refine v_seq ?_
  refine v_region ?_
  refine l_val rfl (o_assign rfl) ?_
  refine l_nil ?_
  refine kt_norm ?_
  refine v_seq ?_
  refine v_region ?_
  refine l_val rfl (o_move rfl) ?_
  refine l_ans (vs := [_, _]) rfl rfl (a_root n hn hx) ?_
  refine l_val rfl (o_assign rfl) ?_
  refine l_nil ?_
  refine kt_norm ?_
  refine v_ret ?_
  refine ⟨[_], .cons (.tmp rfl) (ResAll.nil), ?_⟩
  rfl
theorem a_SqrtI (z : Int) (h : 0 ≤ z ∧ z < 4611686018427387904) : Ans Try.prog 66 [.int .u64 (z % 18446744073709551616)] (.int .u64 ((isq z.toNat : Nat) : Int)) := by
  obtain ⟨n, rfl⟩ := Int.eq_ofNat_of_zero_le h.1
  rw [Int.emod_eq_of_lt (by omega) (by omega)]
  show Ans Try.prog 66 [.int .u64 (n : Int)] (.int .u64 ((isq n : Nat) : Int))
  rcases Nat.eq_zero_or_pos n with e | e
  · subst e; rw [isq_zero]; exact a_Sqrt0
  · exact a_SqrtP n e (by omega)
theorem a_square (x y : Int) (hx : -1073741824 ≤ x ∧ x ≤ 1073741824) (hy : -1073741824 ≤ y ∧ y ≤ 1073741824) : Ans Try.prog 67 [.agg #[.int .i64 x, .int .i64 y]] (.int .i64 (x * x + y * y)) := by
  have m1 := mul_bound (A := 1073741824) (B := 1073741824) (x := x) (y := x) (by omega) (by omega) (by omega) (by omega)
  have m2 := mul_bound (A := 1073741824) (B := 1073741824) (x := y) (y := y) (by omega) (by omega) (by omega) (by omega)
  refine ans_of Try.func67 rfl Try.ntmps67 Try.results67 rfl rfl fun w => ?_
  refine v_seq ?_
  refine v_region ?_
  refine l_new rfl (o_box (cs := [_, _]) rfl rfl) fun b1 => ?_
  refine l_val rfl (o_assign rfl) ?_
  refine l_nil ?_
  refine kt_norm ?_
  refine v_seq ?_
  refine v_region ?_
  refine l_val rfl (o_fld rfl) ?_
  refine l_val rfl (o_load1 (key := 1) rfl rfl rfl) ?_
  refine l_val rfl (o_fld rfl) ?_
  refine l_val rfl (o_load1 (key := 1) rfl rfl rfl) ?_
  refine l_val rfl (o_muli rfl rfl ?_) ?_
  · omega
  refine l_val rfl (o_fld rfl) ?_
  refine l_val rfl (o_load1 (key := 1) rfl rfl rfl) ?_
  refine l_val rfl (o_fld rfl) ?_
  refine l_val rfl (o_load1 (key := 1) rfl rfl rfl) ?_
  refine l_val rfl (o_muli rfl rfl ?_) ?_
  · omega
  refine l_val rfl (o_addi rfl rfl ?_) ?_
  · omega
  refine l_val rfl (o_assign rfl) ?_
  refine l_nil ?_
  refine kt_norm ?_
  refine v_sel [2] [] rfl rfl ?_
  refine v_ret ?_
  refine ⟨[_], .cons (.tmp rfl) (ResAll.nil), ?_⟩
  rfl
theorem a_PairDot (x y u v : Int) (hx : -1073741824 ≤ x ∧ x ≤ 1073741824) (hy : -1073741824 ≤ y ∧ y ≤ 1073741824) (hu : -1073741824 ≤ u ∧ u ≤ 1073741824) (hv : -1073741824 ≤ v ∧ v ≤ 1073741824) : Ans Try.prog 84 [.agg #[.int .i64 x, .int .i64 y, .int .i64 u, .int .i64 v]] (.int .i64 (x * u + y * v)) := by
  have m1 := mul_bound (A := 1073741824) (B := 1073741824) (x := x) (y := u) (by omega) (by omega) (by omega) (by omega)
  have m2 := mul_bound (A := 1073741824) (B := 1073741824) (x := y) (y := v) (by omega) (by omega) (by omega) (by omega)
  refine ans_of Try.func84 rfl Try.ntmps84 Try.results84 rfl rfl fun w => ?_
  refine v_seq ?_
  refine v_region ?_
  refine l_new rfl (o_box (cs := [_, _, _, _]) rfl rfl) fun b1 => ?_
  refine l_val rfl (o_assign rfl) ?_
  refine l_nil ?_
  refine kt_norm ?_
  refine v_seq ?_
  refine v_region ?_
  refine l_val rfl (o_fld rfl) ?_
  refine l_val rfl (o_fld rfl) ?_
  refine l_val rfl (o_load1 (key := 1) rfl rfl rfl) ?_
  refine l_val rfl (o_fld rfl) ?_
  refine l_val rfl (o_fld rfl) ?_
  refine l_val rfl (o_load1 (key := 1) rfl rfl rfl) ?_
  refine l_val rfl (o_muli rfl rfl ?_) ?_
  · omega
  refine l_val rfl (o_fld rfl) ?_
  refine l_val rfl (o_fld rfl) ?_
  refine l_val rfl (o_load1 (key := 1) rfl rfl rfl) ?_
  refine l_val rfl (o_fld rfl) ?_
  refine l_val rfl (o_fld rfl) ?_
  refine l_val rfl (o_load1 (key := 1) rfl rfl rfl) ?_
  refine l_val rfl (o_muli rfl rfl ?_) ?_
  · omega
  refine l_val rfl (o_addi rfl rfl ?_) ?_
  · omega
  refine l_val rfl (o_assign rfl) ?_
  refine l_nil ?_
  refine kt_norm ?_
  refine v_sel [2] [] rfl rfl ?_
  refine v_ret ?_
  refine ⟨[_], .cons (.tmp rfl) (ResAll.nil), ?_⟩
  rfl
theorem a_Dot (x y u v : Int) (hx : -1073741824 ≤ x ∧ x ≤ 1073741824) (hy : -1073741824 ≤ y ∧ y ≤ 1073741824) (hu : -1073741824 ≤ u ∧ u ≤ 1073741824) (hv : -1073741824 ≤ v ∧ v ≤ 1073741824) : Ans Try.prog 65 [.agg #[.int .i64 x, .int .i64 y], .agg #[.int .i64 u, .int .i64 v]] (.int .i64 (x * u + y * v)) := by
  refine ans_of Try.func65 rfl Try.ntmps65 Try.results65 rfl rfl fun w => ?_
  refine v_seq ?_
  refine v_region ?_
  refine l_new rfl (o_box (cs := [_, _]) rfl rfl) fun b2 => ?_
  refine l_new rfl (o_box (cs := [_, _]) rfl rfl) fun b3 => ?_
  refine l_val rfl (o_assign rfl) ?_
  refine l_nil ?_
  refine kt_norm ?_
  refine v_seq ?_
  refine v_region ?_
  refine l_val rfl (o_loadW (key := 2) rfl rfl rfl) ?_
  refine l_val rfl (o_loadW (key := 3) rfl rfl rfl) ?_
  refine l_val rfl (o_build (vs := [_, _]) (cs := [_, _, _, _]) rfl rfl) ?_
  refine l_ans (vs := [_]) rfl rfl (a_PairDot _ _ _ _ ?_ ?_ ?_ ?_) ?_
  · omega
  · omega
  · omega
  · omega
  refine l_val rfl (o_assign rfl) ?_
  refine l_nil ?_
  refine kt_norm ?_
  refine v_sel [4] [] rfl rfl ?_
  refine v_ret ?_
  refine ⟨[_], .cons (.tmp rfl) (ResAll.nil), ?_⟩
  rfl
theorem a_Left (x y : Int) (hx : -1099511627776 ≤ x ∧ x ≤ 1099511627776) (hy : -1099511627776 ≤ y ∧ y ≤ 1099511627776) : Ans Try.prog 47 [.agg #[.int .i64 x, .int .i64 y]] (.agg #[.int .i64 (-y), .int .i64 x]) := by
  refine ans_of Try.func47 rfl Try.ntmps47 Try.results47 rfl rfl fun w => ?_
  refine v_seq ?_
  refine v_region ?_
  refine l_new rfl (o_box (cs := [_, _]) rfl rfl) fun b1 => ?_
  refine l_new rfl o_alloc fun b2 => ?_
  refine l_nil ?_
  refine kt_norm ?_
  refine v_seq ?_
  refine v_region ?_
  refine l_val rfl (o_fld rfl) ?_
  refine l_val rfl (o_load1 (key := 1) rfl rfl rfl) ?_
  refine l_val rfl (o_negi rfl ?_) ?_
  · omega
  refine l_val rfl (o_fld rfl) ?_
  refine l_val rfl (o_load1 (key := 1) rfl rfl rfl) ?_
  refine l_val rfl (o_build (vs := [_, _]) (cs := [_, _]) rfl rfl) ?_
  refine l_store rfl (o_storeW (key := 2) (xs := [_, _]) rfl rfl rfl rfl rfl rfl rfl) ?_
  refine l_nil ?_
  refine kt_norm ?_
  refine v_sel [2] [2] rfl rfl ?_
  refine v_ret ?_
  refine ⟨[_], .cons (.cellW (key := 2) rfl rfl rfl) (ResAll.nil), ?_⟩
  rfl
theorem nearQ_yes {p c : Int} (h : c - p % c ≤ p % c) : nearQ p c = p / c + 1 := by unfold nearQ; rw [if_pos h]
theorem nearQ_no {p c : Int} (h : ¬ c - p % c ≤ p % c) : nearQ p c = p / c := by unfold nearQ; rw [if_neg h, Int.add_zero]
theorem near_bound {x r c : Int} (hc : 0 < c) (hr : 0 ≤ r) (h : -c ≤ x ∧ x ≤ c) : -r ≤ nearQ (x * r) c ∧ nearQ (x * r) c ≤ r := by
  have h1 : x * r ≤ c * r := Int.mul_le_mul_of_nonneg_right h.2 hr
  have h2 : -c * r ≤ x * r := Int.mul_le_mul_of_nonneg_right h.1 hr
  rw [Int.neg_mul] at h2
  have e := Int.mul_ediv_add_emod (x * r) c
  have m1 := Int.emod_nonneg (x * r) (show c ≠ 0 by omega)
  have m2 := Int.emod_lt_of_pos (x * r) hc
  have q1 : x * r / c ≤ r := by
    have := Int.ediv_le_ediv hc h1
    rwa [Int.mul_ediv_cancel_left _ (by omega)] at this
  have q2 : -r ≤ x * r / c := by
    have := Int.ediv_le_ediv hc h2
    rwa [← Int.mul_neg, Int.mul_ediv_cancel_left _ (by omega)] at this
  by_cases hn : c - x * r % c ≤ x * r % c
  · rw [nearQ_yes hn]
    refine ⟨by omega, ?_⟩
    rcases Int.lt_or_le (x * r / c) r with h3 | h3
    · omega
    · have h4 : x * r / c = r := by omega
      rw [h4] at e
      omega
  · rw [nearQ_no hn]; exact ⟨q2, q1⟩
/-- the vector of a length: nothing, if there is none -/
def lenT (p : PtT) : Int := ((isq (p.x * p.x + p.y * p.y).toNat : Nat) : Int)
def normT (p : PtT) (r : Int) : PtT := if lenT p = 0 then ⟨0, 0⟩ else ⟨nearQ (p.x * r) (lenT p), nearQ (p.y * r) (lenT p)⟩
theorem abs_isq {x y : Int} (h : x * x + y * y < 4611686018427387904) : -((isq (x * x + y * y).toNat : Nat) : Int) ≤ x ∧ x ≤ ((isq (x * x + y * y).toNat : Nat) : Int) := by
  have hy : 0 ≤ y * y := by rcases Int.le_total 0 y with h | h; exact Int.mul_nonneg h h; exact Int.mul_nonneg_of_nonpos_of_nonpos h h
  have key : x.natAbs ≤ isq (x * x + y * y).toNat := by
    refine le_isq (by omega) ?_
    have : ((x.natAbs * x.natAbs : Nat) : Int) = x * x := Int.natAbs_mul_self
    omega
  omega
theorem lenT_abs {p : PtT} (hx : -1073741824 ≤ p.x ∧ p.x ≤ 1073741824) (hy : -1073741824 ≤ p.y ∧ p.y ≤ 1073741824) : (-lenT p ≤ p.x ∧ p.x ≤ lenT p) ∧ (-lenT p ≤ p.y ∧ p.y ≤ lenT p) ∧ 0 ≤ lenT p ∧ lenT p < 4294967296 := by
  have m1 := mul_bound (A := 1073741824) (B := 1073741824) (x := p.x) (y := p.x) (by omega) (by omega) (by omega) (by omega)
  have m2 := mul_bound (A := 1073741824) (B := 1073741824) (x := p.y) (y := p.y) (by omega) (by omega) (by omega) (by omega)
  refine ⟨abs_isq (by omega), ?_, Int.natCast_nonneg _, ?_⟩
  · have := abs_isq (x := p.y) (y := p.x) (by omega)
    rw [Int.add_comm] at this
    exact this
  · have := isq_small (n := (p.x * p.x + p.y * p.y).toNat) (by omega)
    unfold lenT; omega
theorem norm_bound {p : PtT} {r : Int} (hx : -1073741824 ≤ p.x ∧ p.x ≤ 1073741824) (hy : -1073741824 ≤ p.y ∧ p.y ≤ 1073741824) (hr : 0 ≤ r) : (-r ≤ (normT p r).x ∧ (normT p r).x ≤ r) ∧ (-r ≤ (normT p r).y ∧ (normT p r).y ≤ r) := by
  have h := lenT_abs hx hy
  unfold normT
  split
  · exact ⟨⟨by show -r ≤ 0; omega, hr⟩, ⟨by show -r ≤ 0; omega, hr⟩⟩
  · exact ⟨near_bound (by omega) hr h.1, near_bound (by omega) hr h.2.1⟩
theorem a_dividedN (a b c : Int) (ha : -9223372036854775808 ≤ a ∧ a < 9223372036854775808) (hb : -9223372036854775808 ≤ b ∧ b < 9223372036854775808) (hp : -4611686018427387904 ≤ a * b ∧ a * b ≤ 4611686018427387904) (hc : 0 < c ∧ c < 9223372036854775808) : Ans Try.prog 99 [.int .i64 a, .int .i64 b, .int .i64 c, .bool true] (.tuple #[.int .i64 (nearQ (a * b) c), .int .i64 0]) := by
  have d1 := ediv_bound (B := 4611686018427387904) (x := a * b) (c := c) (by omega) hp.1 hp.2 hc.1
  have m1 := Int.emod_nonneg (a * b) (show c ≠ 0 by omega)
  have m2 := Int.emod_lt_of_pos (a * b) hc.1
  refine ans_of Try.func99 rfl Try.ntmps99 Try.results99 rfl rfl fun w => ?_
  refine v_seq ?_
  refine v_region ?_
  refine l_val rfl (o_assign rfl) ?_
  refine l_val rfl (o_assign rfl) ?_
  refine l_nil ?_
  refine kt_norm ?_
  refine v_seq ?_
  refine v_region ?_
  refine l_val rfl (o_move rfl) ?_
  refine l_val rfl (o_move rfl) ?_
  refine l_ans (vs := [_, _]) rfl rfl (a_Mul _ _ ?_ ?_) ?_
  · omega
  · omega
  refine l_val rfl (o_move rfl) ?_
  refine l_ans (vs := [_, _]) rfl rfl (a_Div _ _ ?_ ?_) ?_
  · omega
  · omega
  refine l_val rfl (o_move rfl) ?_
  refine l_val rfl (o_extract rfl rfl) ?_
  refine l_val rfl (o_extract rfl rfl) ?_
  refine l_val rfl (o_extract rfl rfl) ?_
  refine l_new rfl o_alloc fun b10 => ?_
  refine l_store rfl (o_storeW (key := 10) (xs := [_, _]) rfl rfl rfl rfl rfl rfl rfl) ?_
  refine l_val rfl (o_assign rfl) ?_
  refine l_val rfl (o_assign rfl) ?_
  refine l_nil ?_
  refine kt_norm ?_
  refine v_sel [2, 3, 10, 11, 12] [10] rfl rfl ?_
  refine v_seq ?_
  refine v_seq ?_
  refine v_region ?_
  refine l_val rfl (o_move rfl) ?_
  refine l_split rfl (o_neq rfl rfl) (fun q1 => absurd q1 (by omega)) (fun q1 => ?_)
  refine l_nil ?_
  refine kt_norm ?_
  refine v_condF rfl ?_
  refine v_skip ?_
  refine kt_norm ?_
  refine v_seq ?_
  refine v_seq ?_
  refine v_region ?_
  refine l_val rfl (o_move rfl) ?_
  refine l_val rfl (o_move rfl) ?_
  refine l_val rfl (o_move rfl) ?_
  refine l_val rfl (o_move rfl) ?_
  refine l_val rfl (o_move rfl) ?_
  refine l_val rfl (o_subi rfl rfl ?_) ?_
  · omega
  refine l_split rfl (o_geq rfl rfl) (fun hnr => ?_) (fun hnr => ?_)
  · skip
    refine l_val rfl (o_pickT rfl rfl) ?_
    refine l_nil ?_
    refine kt_norm ?_
    refine v_sel [10, 34] [10] rfl rfl ?_
    refine v_condT rfl ?_
    refine v_drawZ [[10], [], [], [10]] mixed ?_ (by kernel_rfl) (by kernel_rfl)
    refine d_val (fun _ => rfl) rfl rfl (fun _ => o_loadW (key := 10) rfl rfl rfl) ?_
    refine d_ans (vs := [_]) (fun _ => rfl) (fun _ => rfl) (a_Of 1 (by omega)) ?_
    refine d_ans (vs := [_, _]) (fun _ => rfl) (fun _ => rfl) (a_Add _ _ ?_ ?_) ?_
    · omega
    · omega
    refine d_store (fun _ => rfl) rfl rfl (fun _ => o_storeW (key := 10) (xs := [_, _]) rfl rfl rfl rfl rfl rfl rfl) ?_
    refine d_nil (fun σ => ?_)
    refine l_nil ?_
    refine kt_norm ?_
    refine v_seq ?_
    refine v_region ?_
    refine l_val rfl (o_loadW (key := 10) rfl rfl rfl) ?_
    refine l_ans (vs := [_]) rfl rfl (a_Narrow _ ?_) ?_
    · omega
    refine l_val rfl (o_move rfl) ?_
    refine l_val rfl (o_extract rfl rfl) ?_
    refine l_val rfl (o_extract rfl rfl) ?_
    refine l_val rfl (o_assign rfl) ?_
    refine l_val rfl (o_assign rfl) ?_
    refine l_nil ?_
    refine kt_norm ?_
    refine v_sel [13, 14] [] rfl rfl ?_
    refine v_seq ?_
    refine v_seq ?_
    refine v_region ?_
    refine l_val rfl (o_move rfl) ?_
    refine l_val rfl (o_not rfl rfl) ?_
    refine l_nil ?_
    refine kt_norm ?_
    refine v_condF rfl ?_
    refine v_skip ?_
    refine kt_norm ?_
    refine v_seq ?_
    refine v_region ?_
    refine l_val rfl (o_move rfl) ?_
    refine l_val rfl (o_assign rfl) ?_
    refine l_val rfl (o_assign rfl) ?_
    refine l_nil ?_
    refine kt_norm ?_
    refine v_ret ?_
    refine ⟨[_, _], .cons (.tmp rfl) (.cons (.tmp rfl) (ResAll.nil)), ?_⟩
    first
      | exact congrArg (fun z => Value.tuple #[.int .i64 z, .int .i64 0]) (nearQ_yes hnr).symm
      | exact congrArg (fun z => Value.tuple #[.int .i64 z, .int .i64 0]) (nearQ_no hnr).symm
  · skip
    refine l_val rfl (o_pickT rfl rfl) ?_
    refine l_nil ?_
    refine kt_norm ?_
    refine v_sel [10, 34] [10] rfl rfl ?_
    refine v_condF rfl ?_
    refine v_skip ?_
    refine kt_norm ?_
    refine v_seq ?_
    refine v_region ?_
    refine l_val rfl (o_loadW (key := 10) rfl rfl rfl) ?_
    refine l_ans (vs := [_]) rfl rfl (a_Narrow _ ?_) ?_
    · omega
    refine l_val rfl (o_move rfl) ?_
    refine l_val rfl (o_extract rfl rfl) ?_
    refine l_val rfl (o_extract rfl rfl) ?_
    refine l_val rfl (o_assign rfl) ?_
    refine l_val rfl (o_assign rfl) ?_
    refine l_nil ?_
    refine kt_norm ?_
    refine v_sel [13, 14] [] rfl rfl ?_
    refine v_seq ?_
    refine v_seq ?_
    refine v_region ?_
    refine l_val rfl (o_move rfl) ?_
    refine l_val rfl (o_not rfl rfl) ?_
    refine l_nil ?_
    refine kt_norm ?_
    refine v_condF rfl ?_
    refine v_skip ?_
    refine kt_norm ?_
    refine v_seq ?_
    refine v_region ?_
    refine l_val rfl (o_move rfl) ?_
    refine l_val rfl (o_assign rfl) ?_
    refine l_val rfl (o_assign rfl) ?_
    refine l_nil ?_
    refine kt_norm ?_
    refine v_ret ?_
    refine ⟨[_, _], .cons (.tmp rfl) (.cons (.tmp rfl) (ResAll.nil)), ?_⟩
    first
      | exact congrArg (fun z => Value.tuple #[.int .i64 z, .int .i64 0]) (nearQ_yes hnr).symm
      | exact congrArg (fun z => Value.tuple #[.int .i64 z, .int .i64 0]) (nearQ_no hnr).symm
theorem a_NearF (a b c : Int) (ha : -9223372036854775808 ≤ a ∧ a < 9223372036854775808) (hb : -9223372036854775808 ≤ b ∧ b < 9223372036854775808) (hp : -4611686018427387904 ≤ a * b ∧ a * b ≤ 4611686018427387904) (hc : 0 < c ∧ c < 9223372036854775808) : Ans Try.prog 86 [.int .i64 a, .int .i64 b, .int .i64 c] (.tuple #[.int .i64 (nearQ (a * b) c), .int .i64 0]) := by
  refine ans_of Try.func86 rfl Try.ntmps86 Try.results86 rfl rfl fun w => ?_
  refine v_seq ?_
  refine v_region ?_
  refine l_val rfl (o_assign rfl) ?_
  refine l_val rfl (o_assign rfl) ?_
  refine l_nil ?_
  refine kt_norm ?_
  refine v_seq ?_
  refine v_region ?_
  refine l_val rfl (o_move rfl) ?_
  refine l_val rfl (o_move rfl) ?_
  refine l_val rfl (o_move rfl) ?_
  refine l_ans (vs := [_, _, _, _]) rfl rfl (a_dividedN _ _ _ ha hb hp hc) ?_
  refine l_val rfl (o_extract rfl rfl) ?_
  refine l_val rfl (o_extract rfl rfl) ?_
  refine l_val rfl (o_assign rfl) ?_
  refine l_val rfl (o_assign rfl) ?_
  refine l_nil ?_
  refine kt_norm ?_
  refine v_sel [6, 7] [] rfl rfl ?_
  refine v_ret ?_
  refine ⟨[_, _], .cons (.tmp rfl) (.cons (.tmp rfl) (ResAll.nil)), ?_⟩
  rfl
theorem a_scaled (x y r n : Int) (hx : -1073741824 ≤ x ∧ x ≤ 1073741824) (hy : -1073741824 ≤ y ∧ y ≤ 1073741824) (hr : 0 ≤ r ∧ r ≤ 1073741824) (hn : 0 < n ∧ n < 4294967296) : Ans Try.prog 68 [.agg #[.int .i64 x, .int .i64 y], .int .i64 r, .int .i64 n] (.agg #[.int .i64 (nearQ (x * r) n), .int .i64 (nearQ (y * r) n)]) := by
  have m1 := mul_bound (A := 1073741824) (B := 1073741824) (x := x) (y := r) (by omega) (by omega) (by omega) (by omega)
  have m2 := mul_bound (A := 1073741824) (B := 1073741824) (x := y) (y := r) (by omega) (by omega) (by omega) (by omega)
  refine ans_of Try.func68 rfl Try.ntmps68 Try.results68 rfl rfl fun w => ?_
  refine v_seq ?_
  refine v_region ?_
  refine l_new rfl (o_box (cs := [_, _]) rfl rfl) fun b3 => ?_
  refine l_new rfl o_alloc fun b6 => ?_
  refine l_nil ?_
  refine kt_norm ?_
  refine v_seq ?_
  refine v_region ?_
  refine l_val rfl (o_fld rfl) ?_
  refine l_val rfl (o_load1 (key := 3) rfl rfl rfl) ?_
  refine l_val rfl (o_move rfl) ?_
  refine l_val rfl (o_move rfl) ?_
  refine l_ans (vs := [_, _, _]) rfl rfl (a_NearF x r n (by omega) (by omega) (by omega) (by omega)) ?_
  refine l_val rfl (o_move rfl) ?_
  refine l_val rfl (o_extract rfl rfl) ?_
  refine l_val rfl (o_extract rfl rfl) ?_
  refine l_val rfl (o_assign rfl) ?_
  refine l_val rfl (o_assign rfl) ?_
  refine l_nil ?_
  refine kt_norm ?_
  refine v_sel [1, 2, 3, 6, 7] [3, 6] rfl rfl ?_
  refine v_seq ?_
  refine v_region ?_
  refine l_val rfl (o_fld rfl) ?_
  refine l_val rfl (o_load1 (key := 3) rfl rfl rfl) ?_
  refine l_val rfl (o_move rfl) ?_
  refine l_val rfl (o_move rfl) ?_
  refine l_ans (vs := [_, _, _]) rfl rfl (a_NearF y r n (by omega) (by omega) (by omega) (by omega)) ?_
  refine l_val rfl (o_move rfl) ?_
  refine l_val rfl (o_extract rfl rfl) ?_
  refine l_val rfl (o_extract rfl rfl) ?_
  refine l_val rfl (o_assign rfl) ?_
  refine l_val rfl (o_assign rfl) ?_
  refine l_nil ?_
  refine kt_norm ?_
  refine v_sel [6, 7, 9] [6] rfl rfl ?_
  refine v_seq ?_
  refine v_region ?_
  refine l_val rfl (o_move rfl) ?_
  refine l_val rfl (o_move rfl) ?_
  refine l_val rfl (o_build (vs := [_, _]) (cs := [_, _]) rfl rfl) ?_
  refine l_store rfl (o_storeW (key := 6) (xs := [_, _]) rfl rfl rfl rfl rfl rfl rfl) ?_
  refine l_nil ?_
  refine kt_norm ?_
  refine v_ret ?_
  refine ⟨[_], .cons (.cellW (key := 6) rfl rfl rfl) (ResAll.nil), ?_⟩
  rfl
theorem a_Norm (p : PtT) (r : Int) (hx : -1073741824 ≤ p.x ∧ p.x ≤ 1073741824) (hy : -1073741824 ≤ p.y ∧ p.y ≤ 1073741824) (hr : 0 ≤ r ∧ r ≤ 1073741824) : Ans Try.prog 46 [.agg #[.int .i64 p.x, .int .i64 p.y], .int .i64 r] (.agg #[.int .i64 (normT p r).x, .int .i64 (normT p r).y]) := by
  have hl := lenT_abs hx hy
  have m1 := mul_bound (A := 1073741824) (B := 1073741824) (x := p.x) (y := p.x) (by omega) (by omega) (by omega) (by omega)
  have m2 := mul_bound (A := 1073741824) (B := 1073741824) (x := p.y) (y := p.y) (by omega) (by omega) (by omega) (by omega)
  have sq1 : 0 ≤ p.x * p.x := by rcases Int.le_total 0 p.x with h | h; exact Int.mul_nonneg h h; exact Int.mul_nonneg_of_nonpos_of_nonpos h h
  have sq2 : 0 ≤ p.y * p.y := by rcases Int.le_total 0 p.y with h | h; exact Int.mul_nonneg h h; exact Int.mul_nonneg_of_nonpos_of_nonpos h h
  refine ans_of Try.func46 rfl Try.ntmps46 Try.results46 rfl rfl fun w => ?_
  refine v_seq ?_
  refine v_region ?_
  refine l_new rfl (o_box (cs := [_, _]) rfl rfl) fun b2 => ?_
  refine l_new rfl o_alloc fun b4 => ?_
  refine l_nil ?_
  refine kt_norm ?_
  refine v_seq ?_
  refine v_region ?_
  refine l_val rfl (o_loadW (key := 2) rfl rfl rfl) ?_
  refine l_val rfl (o_build (vs := [_]) (cs := [_, _, _, _]) rfl rfl) ?_
  refine l_new rfl o_alloc fun b5 => ?_
  refine l_store rfl (o_storeW (key := 5) (xs := [_, _, _, _]) rfl rfl rfl rfl rfl rfl rfl) ?_
  refine l_nil ?_
  refine kt_norm ?_
  refine v_seq ?_
  refine v_region ?_
  refine l_val rfl (o_fld rfl) ?_
  refine l_val rfl (o_loadP (key := 5) (rs := [_, _]) rfl rfl rfl rfl) ?_
  refine l_ans (vs := [_]) rfl rfl (a_square _ _ ?_ ?_) ?_
  · omega
  · omega
  refine l_val rfl (o_convu rfl) ?_
  refine l_ans (vs := [_]) rfl rfl ((show Ans Try.prog _ [.int .u64 ((p.x * p.x + p.y * p.y) % 18446744073709551616)] (.int .u64 (lenT p)) from a_SqrtI _ (by omega))) ?_
  refine l_val rfl (o_convi rfl ?_) ?_
  · omega
  refine l_val rfl (o_assign rfl) ?_
  refine l_nil ?_
  refine kt_norm ?_
  refine v_sel [1, 4, 5, 6] [4, 5] rfl rfl ?_
  refine v_seq ?_
  refine v_seq ?_
  refine v_region ?_
  refine l_val rfl (o_move rfl) ?_
  refine l_split rfl (o_eql rfl rfl) (fun hl0 => ?_) (fun hl0 => ?_)
  · skip
    refine l_nil ?_
    refine kt_norm ?_
    refine v_condT rfl ?_
    refine v_seq ?_
    refine v_region ?_
    refine l_val rfl (o_build (vs := []) (cs := [_, _]) rfl rfl) ?_
    refine l_store rfl (o_storeW (key := 4) (xs := [_, _]) rfl rfl rfl rfl rfl rfl rfl) ?_
    refine l_nil ?_
    refine kt_norm ?_
    refine v_sel [4] [4] rfl rfl ?_
    refine v_ret ?_
    refine kt_ret ?_
    refine ⟨[_], .cons (.cellW (key := 4) rfl rfl rfl) (ResAll.nil), ?_⟩
    first
      | (unfold normT; rw [if_pos hl0]; rfl)
      | (unfold normT; rw [if_neg hl0]; rfl)
  · skip
    refine l_nil ?_
    refine kt_norm ?_
    refine v_condF rfl ?_
    refine v_skip ?_
    refine kt_norm ?_
    refine v_seq ?_
    refine v_region ?_
    refine l_val rfl (o_fld rfl) ?_
    refine l_val rfl (o_loadP (key := 5) (rs := [_, _]) rfl rfl rfl rfl) ?_
    refine l_val rfl (o_move rfl) ?_
    refine l_val rfl (o_move rfl) ?_
    refine l_ans (vs := [_, _, _]) rfl rfl (a_scaled p.x p.y r (lenT p) hx hy hr (by omega)) ?_
    refine l_store rfl (o_storeW (key := 4) (xs := [_, _]) rfl rfl rfl rfl rfl rfl rfl) ?_
    refine l_nil ?_
    refine kt_norm ?_
    refine v_sel [4] [4] rfl rfl ?_
    refine v_ret ?_
    refine ⟨[_], .cons (.cellW (key := 4) rfl rfl rfl) (ResAll.nil), ?_⟩
    first
      | (unfold normT; rw [if_pos hl0]; rfl)
      | (unfold normT; rw [if_neg hl0]; rfl)
end Go.Proofs.Ytpgjbalnipinoaa
