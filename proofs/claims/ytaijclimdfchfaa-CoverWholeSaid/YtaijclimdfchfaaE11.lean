import Derived.Test.YtaijclimdfchfaaE10
/- The numbers of 128 bits of the document, and where an edge crosses a row by it. Conditions: none. -/
namespace Go.Proofs.Ytaijclimdfchfaa
open Go.Proofs Go.RowKit Go.Shelf

theorem mulNN {x y A B : Int} (hx : 0 ≤ x ∧ x ≤ A) (hy : 0 ≤ y ∧ y ≤ B) : 0 ≤ x * y ∧ x * y ≤ A * B :=
  ⟨Int.mul_nonneg hx.1 hy.1, Int.mul_le_mul hx.2 hy.2 hy.1 (by omega)⟩
theorem mul_split (u v : Int) : u * v = u / 4294967296 * (v / 4294967296) * 18446744073709551616 + u / 4294967296 * (v % 4294967296) * 4294967296 + u % 4294967296 * (v / 4294967296) * 4294967296 + u % 4294967296 * (v % 4294967296) := by
  have h1 : u = u / 4294967296 * 4294967296 + u % 4294967296 := by omega
  have h2 : v = v / 4294967296 * 4294967296 + v % 4294967296 := by omega
  generalize u / 4294967296 = p at *
  generalize u % 4294967296 = q at *
  generalize v / 4294967296 = r at *
  generalize v % 4294967296 = s at *
  subst h1 h2
  simp only [Int.add_mul, Int.mul_add]
  rw [show p * 4294967296 * (r * 4294967296) = p * r * 18446744073709551616 by rw [Int.mul_assoc, Int.mul_left_comm 4294967296 r, ← Int.mul_assoc, show (4294967296 : Int) * 4294967296 = 18446744073709551616 from rfl],
    show p * 4294967296 * s = p * s * 4294967296 by rw [Int.mul_assoc, Int.mul_comm 4294967296 s, ← Int.mul_assoc], show q * (r * 4294967296) = q * r * 4294967296 by rw [← Int.mul_assoc]]
  omega
/-- a long division, under way: i digits of X are taken -/
structure DivQ (X b : Int) (i : Nat) (left hi lo q : Int) : Prop where
  hb : 0 < b ∧ b < 9223372036854775808
  hX : 0 ≤ X ∧ X ≤ 4611686018427387904
  le : i ≤ 128
  hl : 0 ≤ left ∧ left < b
  hh : 0 ≤ hi ∧ hi < 18446744073709551616
  hlo : 0 ≤ lo ∧ lo < 18446744073709551616
  hq : 0 ≤ q
  eq : X * 2 ^ i = (q * b + left) * 340282366920938463463374607431768211456 + hi * 18446744073709551616 + lo
theorem DivQ.qX {X b left hi lo q : Int} {i : Nat} (h : DivQ X b i left hi lo q) : 0 ≤ q * b ∧ q ≤ q * b ∧ q * b + left ≤ X := by
  have h1 := h.eq; have h2 := h.hl; have h3 := h.hh; have h4 := h.hlo; have h5 := h.hX; have hb := h.hb
  have h6 : q * 1 ≤ q * b := Int.mul_le_mul_of_nonneg_left (by omega) h.hq
  have h0 : 0 ≤ q * b := Int.mul_nonneg h.hq (by omega)
  have h7 : (2 : Int) ^ i ≤ 2 ^ 128 := by
    have : (2 : Nat) ^ i ≤ 2 ^ 128 := Nat.pow_le_pow_right (by omega) h.le
    exact_mod_cast this
  have h8 : X * 2 ^ i ≤ X * 2 ^ 128 := Int.mul_le_mul_of_nonneg_left h7 h5.1
  rw [show (2 : Int) ^ 128 = 340282366920938463463374607431768211456 from rfl] at h8
  refine ⟨h0, by omega, ?_⟩
  omega
theorem DivQ.start {X b : Int} (hb : 0 < b ∧ b < 9223372036854775808) (hX : 0 ≤ X ∧ X ≤ 4611686018427387904) : DivQ X b 0 0 (X / 18446744073709551616) (X % 18446744073709551616) 0 :=
  ⟨hb, hX, by omega, by omega, by omega, by omega, by omega, by rw [Int.pow_zero, Int.mul_one, Int.zero_mul]; omega⟩
theorem DivQ.big {X b left hi lo q : Int} {i : Nat} (h : DivQ X b i left hi lo q) (hi' : i < 128) (hc : b ≤ left * 2 + hi / 9223372036854775808) :
    DivQ X b (i + 1) (left * 2 + hi / 9223372036854775808 - b) (hi * 2 % 18446744073709551616 + lo / 9223372036854775808) (lo * 2 % 18446744073709551616) (q + q + 1) := by
  have h1 := h.eq; have h2 := h.hl; have h3 := h.hh; have h4 := h.hlo; have hb := h.hb; have hq := h.hq
  refine ⟨hb, h.hX, by omega, by omega, by omega, by omega, by omega, ?_⟩
  rw [Int.pow_succ, ← Int.mul_assoc, h1, show (q + q + 1) * b = q * b + q * b + b by rw [Int.add_mul, Int.add_mul, Int.one_mul]]
  omega
theorem DivQ.small {X b left hi lo q : Int} {i : Nat} (h : DivQ X b i left hi lo q) (hi' : i < 128) (hc : left * 2 + hi / 9223372036854775808 < b) :
    DivQ X b (i + 1) (left * 2 + hi / 9223372036854775808) (hi * 2 % 18446744073709551616 + lo / 9223372036854775808) (lo * 2 % 18446744073709551616) (q + q) := by
  have h1 := h.eq; have h2 := h.hl; have h3 := h.hh; have h4 := h.hlo; have hb := h.hb; have hq := h.hq
  refine ⟨hb, h.hX, by omega, by omega, by omega, by omega, by omega, ?_⟩
  rw [Int.pow_succ, ← Int.mul_assoc, h1, show (q + q) * b = q * b + q * b by rw [Int.add_mul]]
  omega
theorem DivQ.done {X b left hi lo q : Int} {i : Nat} (h : DivQ X b i left hi lo q) (hi' : ¬ (i : Int) < 128) : X = q * b + left := by
  have h1 := h.eq; have h2 := h.hl; have h3 := h.hh; have h4 := h.hlo; have := h.le
  obtain rfl : i = 128 := by omega
  rw [show (2 : Int) ^ 128 = 340282366920938463463374607431768211456 from rfl] at h1
  omega
theorem div_pos {x b q left : Int} (hb : 0 < b) (h : x = q * b + left) (hl : 0 ≤ left ∧ left < b) : x / b = q ∧ x % b = left :=
  (Int.ediv_emod_unique hb).2 ⟨by rw [Int.mul_comm]; omega, hl.1, hl.2⟩
theorem div_neg1 {x b q left : Int} (hb : 0 < b) (h : -x = q * b + left) (hl : 0 < left ∧ left < b) : x / b = -q - 1 ∧ x % b = b - left := by
  refine (Int.ediv_emod_unique hb).2 ⟨?_, by omega, by omega⟩
  rw [show b * (-q - 1) = -(q * b) - b by rw [Int.mul_sub, Int.mul_neg, Int.mul_comm, Int.mul_one]]
  omega
theorem div_neg0 {x b q left : Int} (hb : 0 < b) (h : -x = q * b + left) (hl : left = 0) : x / b = -q ∧ x % b = 0 := by
  refine (Int.ediv_emod_unique hb).2 ⟨?_, by omega, by omega⟩
  rw [show b * (-q) = -(q * b) by rw [Int.mul_neg, Int.mul_comm]]
  omega








theorem tup3w {z r z' r' : Int} (e1 : z = z') (e2 : r = r') : packV [wideV z, .int .i64 r, .int .i64 0] = .tuple #[wideV z', .int .i64 r', .int .i64 0] := by
  subst e1 e2; rfl






end Go.Proofs.Ytaijclimdfchfaa
