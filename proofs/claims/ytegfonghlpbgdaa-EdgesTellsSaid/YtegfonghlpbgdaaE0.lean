import Derived.Test.YtegfonghlpbgdaaKI
import Derived.Test.YtegfonghlpbgdaaProg
import Derived.Shelf.Bits.Mul64
import Derived.Shelf.Spec.BitsCarry
/- The types of this program; numbers of 128 bits. Conditions: none. -/
namespace Go.Proofs.Ytegfonghlpbgdaa
open Go.Proofs Go.RowKit Go.Shelf

instance : TInt Try.prog 2 .i64 := ⟨by kernel_rfl⟩
instance : TOne Try.prog 2 := .of (by kernel_rfl) (by kernel_rfl)
instance : TZero Try.prog 2 [.int .i64 0] := .of (by kernel_rfl)
instance : TElem Try.prog 2 (.int .i64 0) 1 8 := .of (by kernel_rfl) rfl (by decide)
instance : TInt Try.prog 3 .i64 := ⟨by kernel_rfl⟩
instance : TOne Try.prog 3 := .of (by kernel_rfl) (by kernel_rfl)
instance : TZero Try.prog 3 [.int .i64 0] := .of (by kernel_rfl)
instance : TElem Try.prog 3 (.int .i64 0) 1 8 := .of (by kernel_rfl) rfl (by decide)
instance : TBool Try.prog 4 := ⟨by kernel_rfl⟩
instance : TOne Try.prog 4 := .of (by kernel_rfl) (by kernel_rfl)
instance : TZero Try.prog 4 [.bool false] := .of (by kernel_rfl)
instance : TElem Try.prog 4 (.bool false) 1 1 := .of (by kernel_rfl) rfl (by decide)
instance : TInt Try.prog 5 .u8 := ⟨by kernel_rfl⟩
instance : TOne Try.prog 5 := .of (by kernel_rfl) (by kernel_rfl)
instance : TZero Try.prog 5 [.int .u8 0] := .of (by kernel_rfl)
instance : TElem Try.prog 5 (.int .u8 0) 1 1 := .of (by kernel_rfl) rfl (by decide)
instance : TInt Try.prog 21 .i32 := ⟨by kernel_rfl⟩
instance : TOne Try.prog 21 := .of (by kernel_rfl) (by kernel_rfl)
instance : TZero Try.prog 21 [.int .i32 0] := .of (by kernel_rfl)
instance : TElem Try.prog 21 (.int .i32 0) 1 4 := .of (by kernel_rfl) rfl (by decide)
instance : TZero Try.prog 23 [.int .i64 0, .int .i64 0] := .of (by kernel_rfl)
instance : TElem Try.prog 23 (.agg #[.int .i64 0, .int .i64 0]) 2 16 := .of (by kernel_rfl) rfl (by decide)
instance : TAgg Try.prog 23 2 := .of (by kernel_rfl) (by kernel_rfl)
instance : TBuild Try.prog 23 [(0, 1), (1, 1)] [.int .i64 0, .int .i64 0] := .of (by kernel_rfl) (by kernel_rfl)
instance : TEqs Try.prog 23 2 := ⟨by kernel_rfl, by kernel_rfl, by kernel_rfl, by kernel_rfl⟩
instance : TFld Try.prog 23 0 0 := .of (by kernel_rfl)
instance : TFld Try.prog 23 1 1 := .of (by kernel_rfl)
instance : TInt Try.prog 24 .u32 := ⟨by kernel_rfl⟩
instance : TOne Try.prog 24 := .of (by kernel_rfl) (by kernel_rfl)
instance : TZero Try.prog 24 [.int .u32 0] := .of (by kernel_rfl)
instance : TElem Try.prog 24 (.int .u32 0) 1 4 := .of (by kernel_rfl) rfl (by decide)
instance : TOne Try.prog 27 := .of (by kernel_rfl) (by kernel_rfl)
instance : TZero Try.prog 27 [.slice none 0 0] := .of (by kernel_rfl)
instance : TElem Try.prog 27 (.slice none 0 0) 1 24 := .of (by kernel_rfl) rfl (by decide)
instance : TSl Try.prog 27 32 7 := .of (by kernel_rfl) (by kernel_rfl) (by decide)
instance : TOne Try.prog 29 := .of (by kernel_rfl) (by kernel_rfl)
instance : TZero Try.prog 29 [.slice none 0 0] := .of (by kernel_rfl)
instance : TElem Try.prog 29 (.slice none 0 0) 1 24 := .of (by kernel_rfl) rfl (by decide)
instance : TSl Try.prog 29 23 2 := .of (by kernel_rfl) (by kernel_rfl) (by decide)
instance : TOne Try.prog 30 := .of (by kernel_rfl) (by kernel_rfl)
instance : TZero Try.prog 30 [.slice none 0 0] := .of (by kernel_rfl)
instance : TElem Try.prog 30 (.slice none 0 0) 1 24 := .of (by kernel_rfl) rfl (by decide)
instance : TSl Try.prog 30 23 2 := .of (by kernel_rfl) (by kernel_rfl) (by decide)
instance : TZero Try.prog 32 [.int .i64 0, .int .i64 0, .int .i64 0, .int .i64 0, .int .i64 0, .int .i64 0, .int .i64 0] := .of (by kernel_rfl)
instance : TElem Try.prog 32 (.agg #[.int .i64 0, .int .i64 0, .int .i64 0, .int .i64 0, .int .i64 0, .int .i64 0, .int .i64 0]) 7 56 := .of (by kernel_rfl) rfl (by decide)
instance : TAgg Try.prog 32 7 := .of (by kernel_rfl) (by kernel_rfl)
instance : TBuild Try.prog 32 [(0, 1), (1, 1), (2, 1), (3, 1), (4, 1), (5, 1), (6, 1)] [.int .i64 0, .int .i64 0, .int .i64 0, .int .i64 0, .int .i64 0, .int .i64 0, .int .i64 0] := .of (by kernel_rfl) (by kernel_rfl)
instance : TEqs Try.prog 32 7 := ⟨by kernel_rfl, by kernel_rfl, by kernel_rfl, by kernel_rfl⟩
instance : TFld Try.prog 32 0 0 := .of (by kernel_rfl)
instance : TFld Try.prog 32 1 1 := .of (by kernel_rfl)
instance : TFld Try.prog 32 2 2 := .of (by kernel_rfl)
instance : TFld Try.prog 32 3 3 := .of (by kernel_rfl)
instance : TFld Try.prog 32 4 4 := .of (by kernel_rfl)
instance : TFld Try.prog 32 5 5 := .of (by kernel_rfl)
instance : TFld Try.prog 32 6 6 := .of (by kernel_rfl)
instance : TZero Try.prog 35 [.int .i64 0, .int .i64 0, .int .i64 0, .int .i64 0, .int .i64 0, .int .i64 0, .int .i64 0] := .of (by kernel_rfl)
instance : TElem Try.prog 35 (.agg #[.int .i64 0, .int .i64 0, .int .i64 0, .int .i64 0, .int .i64 0, .int .i64 0, .int .i64 0]) 7 56 := .of (by kernel_rfl) rfl (by decide)
instance : TAgg Try.prog 35 7 := .of (by kernel_rfl) (by kernel_rfl)
instance : TBuild Try.prog 35 [(0, 1), (1, 1), (2, 1), (3, 1), (4, 1), (5, 1), (6, 1)] [.int .i64 0, .int .i64 0, .int .i64 0, .int .i64 0, .int .i64 0, .int .i64 0, .int .i64 0] := .of (by kernel_rfl) (by kernel_rfl)
instance : TEqs Try.prog 35 7 := ⟨by kernel_rfl, by kernel_rfl, by kernel_rfl, by kernel_rfl⟩
instance : TFld Try.prog 35 0 0 := .of (by kernel_rfl)
instance : TFld Try.prog 35 1 1 := .of (by kernel_rfl)
instance : TFld Try.prog 35 2 2 := .of (by kernel_rfl)
instance : TFld Try.prog 35 3 3 := .of (by kernel_rfl)
instance : TFld Try.prog 35 4 4 := .of (by kernel_rfl)
instance : TFld Try.prog 35 5 5 := .of (by kernel_rfl)
instance : TFld Try.prog 35 6 6 := .of (by kernel_rfl)
instance : TOne Try.prog 38 := .of (by kernel_rfl) (by kernel_rfl)
instance : TZero Try.prog 38 [.slice none 0 0] := .of (by kernel_rfl)
instance : TElem Try.prog 38 (.slice none 0 0) 1 24 := .of (by kernel_rfl) rfl (by decide)
instance : TSl Try.prog 38 30 1 := .of (by kernel_rfl) (by kernel_rfl) (by decide)
instance : TInt Try.prog 42 .i16 := ⟨by kernel_rfl⟩
instance : TOne Try.prog 42 := .of (by kernel_rfl) (by kernel_rfl)
instance : TZero Try.prog 42 [.int .i16 0] := .of (by kernel_rfl)
instance : TElem Try.prog 42 (.int .i16 0) 1 2 := .of (by kernel_rfl) rfl (by decide)
instance : TInt Try.prog 43 .u16 := ⟨by kernel_rfl⟩
instance : TOne Try.prog 43 := .of (by kernel_rfl) (by kernel_rfl)
instance : TZero Try.prog 43 [.int .u16 0] := .of (by kernel_rfl)
instance : TElem Try.prog 43 (.int .u16 0) 1 2 := .of (by kernel_rfl) rfl (by decide)
instance : TZero Try.prog 49 [.int .i64 0, .int .i64 0, .int .i64 0, .int .i64 0] := .of (by kernel_rfl)
instance : TElem Try.prog 49 (.agg #[.int .i64 0, .int .i64 0, .int .i64 0, .int .i64 0]) 4 32 := .of (by kernel_rfl) rfl (by decide)
instance : TAgg Try.prog 49 4 := .of (by kernel_rfl) (by kernel_rfl)
instance : TBuild Try.prog 49 [(0, 1), (1, 1), (2, 1), (3, 1)] [.int .i64 0, .int .i64 0, .int .i64 0, .int .i64 0] := .of (by kernel_rfl) (by kernel_rfl)
instance : TEqs Try.prog 49 4 := ⟨by kernel_rfl, by kernel_rfl, by kernel_rfl, by kernel_rfl⟩
instance : TFld Try.prog 49 0 0 := .of (by kernel_rfl)
instance : TFld Try.prog 49 1 1 := .of (by kernel_rfl)
instance : TFld Try.prog 49 2 2 := .of (by kernel_rfl)
instance : TFld Try.prog 49 3 3 := .of (by kernel_rfl)
instance : TInt Try.prog 50 .i64 := ⟨by kernel_rfl⟩
instance : TOne Try.prog 50 := .of (by kernel_rfl) (by kernel_rfl)
instance : TZero Try.prog 50 [.int .i64 0] := .of (by kernel_rfl)
instance : TElem Try.prog 50 (.int .i64 0) 1 8 := .of (by kernel_rfl) rfl (by decide)
instance : TZero Try.prog 53 [.int .i64 0, .int .i64 0, .int .i64 0, .int .i64 0] := .of (by kernel_rfl)
instance : TElem Try.prog 53 (.agg #[.int .i64 0, .int .i64 0, .int .i64 0, .int .i64 0]) 4 32 := .of (by kernel_rfl) rfl (by decide)
instance : TAgg Try.prog 53 4 := .of (by kernel_rfl) (by kernel_rfl)
instance : TBuild Try.prog 53 [(0, 1), (1, 1), (2, 1), (3, 1)] [.int .i64 0, .int .i64 0, .int .i64 0, .int .i64 0] := .of (by kernel_rfl) (by kernel_rfl)
instance : TEqs Try.prog 53 4 := ⟨by kernel_rfl, by kernel_rfl, by kernel_rfl, by kernel_rfl⟩
instance : TFld Try.prog 53 0 0 := .of (by kernel_rfl)
instance : TFld Try.prog 53 1 1 := .of (by kernel_rfl)
instance : TFld Try.prog 53 2 2 := .of (by kernel_rfl)
instance : TFld Try.prog 53 3 3 := .of (by kernel_rfl)
instance : TOne Try.prog 55 := .of (by kernel_rfl) (by kernel_rfl)
instance : TZero Try.prog 55 [.slice none 0 0] := .of (by kernel_rfl)
instance : TElem Try.prog 55 (.slice none 0 0) 1 24 := .of (by kernel_rfl) rfl (by decide)
instance : TSl Try.prog 55 35 7 := .of (by kernel_rfl) (by kernel_rfl) (by decide)
instance : TOne Try.prog 58 := .of (by kernel_rfl) (by kernel_rfl)
instance : TZero Try.prog 58 [.slice none 0 0] := .of (by kernel_rfl)
instance : TElem Try.prog 58 (.slice none 0 0) 1 24 := .of (by kernel_rfl) rfl (by decide)
instance : TSl Try.prog 58 23 2 := .of (by kernel_rfl) (by kernel_rfl) (by decide)
instance : TOne Try.prog 61 := .of (by kernel_rfl) (by kernel_rfl)
instance : TZero Try.prog 61 [.slice none 0 0] := .of (by kernel_rfl)
instance : TElem Try.prog 61 (.slice none 0 0) 1 24 := .of (by kernel_rfl) rfl (by decide)
instance : TSl Try.prog 61 58 1 := .of (by kernel_rfl) (by kernel_rfl) (by decide)
instance : TInt Try.prog 74 .u64 := ⟨by kernel_rfl⟩
instance : TOne Try.prog 74 := .of (by kernel_rfl) (by kernel_rfl)
instance : TZero Try.prog 74 [.int .u64 0] := .of (by kernel_rfl)
instance : TElem Try.prog 74 (.int .u64 0) 1 8 := .of (by kernel_rfl) rfl (by decide)
instance : TInt Try.prog 81 .u64 := ⟨by kernel_rfl⟩
instance : TOne Try.prog 81 := .of (by kernel_rfl) (by kernel_rfl)
instance : TZero Try.prog 81 [.int .u64 0] := .of (by kernel_rfl)
instance : TElem Try.prog 81 (.int .u64 0) 1 8 := .of (by kernel_rfl) rfl (by decide)
instance : TZero Try.prog 83 [.int .i64 0, .int .u64 0] := .of (by kernel_rfl)
instance : TElem Try.prog 83 (.agg #[.int .i64 0, .int .u64 0]) 2 16 := .of (by kernel_rfl) rfl (by decide)
instance : TAgg Try.prog 83 2 := .of (by kernel_rfl) (by kernel_rfl)
instance : TBuild Try.prog 83 [(0, 1), (1, 1)] [.int .i64 0, .int .u64 0] := .of (by kernel_rfl) (by kernel_rfl)
instance : TEqs Try.prog 83 2 := ⟨by kernel_rfl, by kernel_rfl, by kernel_rfl, by kernel_rfl⟩
instance : TFld Try.prog 83 0 0 := .of (by kernel_rfl)
instance : TFld Try.prog 83 1 1 := .of (by kernel_rfl)
instance : TZero Try.prog 91 [.int .i64 0, .int .u64 0] := .of (by kernel_rfl)
instance : TElem Try.prog 91 (.agg #[.int .i64 0, .int .u64 0]) 2 16 := .of (by kernel_rfl) rfl (by decide)
instance : TAgg Try.prog 91 2 := .of (by kernel_rfl) (by kernel_rfl)
instance : TBuild Try.prog 91 [(0, 1), (1, 1)] [.int .i64 0, .int .u64 0] := .of (by kernel_rfl) (by kernel_rfl)
instance : TEqs Try.prog 91 2 := ⟨by kernel_rfl, by kernel_rfl, by kernel_rfl, by kernel_rfl⟩
instance : TFld Try.prog 91 0 0 := .of (by kernel_rfl)
instance : TFld Try.prog 91 1 1 := .of (by kernel_rfl)
theorem mixed : Try.prog.follows .mixedOrders = true := by kernel_rfl
theorem mul_bound {x y A B : Int} (hx : -A ≤ x) (hx' : x ≤ A) (hy : -B ≤ y) (hy' : y ≤ B) : -(A * B) ≤ x * y ∧ x * y ≤ A * B := by
  have h1 := Int.mul_nonneg (show 0 ≤ A - x by omega) (show 0 ≤ B - y by omega)
  have h2 := Int.mul_nonneg (show 0 ≤ A + x by omega) (show 0 ≤ B + y by omega)
  have h3 := Int.mul_nonneg (show 0 ≤ A - x by omega) (show 0 ≤ B + y by omega)
  have h4 := Int.mul_nonneg (show 0 ≤ A + x by omega) (show 0 ≤ B - y by omega)
  simp only [Int.sub_mul, Int.mul_sub, Int.add_mul, Int.mul_add] at h1 h2 h3 h4
  omega
theorem mp_pp {x y : Int} (hx : 0 ≤ x) (hx' : x < 18446744073709551616) (hy : 0 ≤ y) (hy' : y < 18446744073709551616) : x % 18446744073709551616 * (y % 18446744073709551616) = x * y := by
  rw [Int.emod_eq_of_lt hx hx', Int.emod_eq_of_lt hy hy']
theorem mp_np {x y : Int} (hx : x < 0) (hx' : -18446744073709551616 ≤ x) (hy : 0 ≤ y) (hy' : y < 18446744073709551616) : x % 18446744073709551616 * (y % 18446744073709551616) = x * y + 18446744073709551616 * y := by
  rw [show x % 18446744073709551616 = x + 18446744073709551616 by omega, Int.emod_eq_of_lt hy hy', Int.add_mul]
theorem mp_pn {x y : Int} (hx : 0 ≤ x) (hx' : x < 18446744073709551616) (hy : y < 0) (hy' : -18446744073709551616 ≤ y) : x % 18446744073709551616 * (y % 18446744073709551616) = x * y + 18446744073709551616 * x := by
  rw [show y % 18446744073709551616 = y + 18446744073709551616 by omega, Int.emod_eq_of_lt hx hx', Int.mul_add]; omega
theorem mp_nn {x y : Int} (hx : x < 0) (hx' : -18446744073709551616 ≤ x) (hy : y < 0) (hy' : -18446744073709551616 ≤ y) : x % 18446744073709551616 * (y % 18446744073709551616) = x * y + 18446744073709551616 * x + 18446744073709551616 * y + 18446744073709551616 * 18446744073709551616 := by
  rw [show y % 18446744073709551616 = y + 18446744073709551616 by omega, show x % 18446744073709551616 = x + 18446744073709551616 by omega, Int.mul_add, Int.add_mul, Int.add_mul]; omega

/-- a number of 128 bits -/
def wideV (v : Int) : Value := .agg #[.int .i64 (v / 18446744073709551616), .int .u64 (v % 18446744073709551616)]
theorem wideV_eq {h l v : Int} (hl : 0 ≤ l) (hl' : l < 18446744073709551616) (hv : h * 18446744073709551616 + l = v) : wideV v = .agg #[.int .i64 h, .int .u64 l] := by
  subst hv
  simp only [wideV]
  congr <;> omega

def renM : Ren := ⟨fun _ => 67, fun | 46 => 74 | 53 => 81 | _ => 0, fun _ => 0⟩
theorem laysM : Lays.n264 Try.prog renM where
  mixed := by kernel_rfl
  f264 := by kernel_rfl
  t46 := by kernel_rfl
  a46 := fun w => by kernel_rfl
  z46 := fun w => by kernel_rfl
  v46 := fun w => by kernel_rfl
  t53 := by kernel_rfl
  a53 := fun w => by kernel_rfl
  z53 := fun w => by kernel_rfl
  v53 := fun w => by kernel_rfl
def renA : Ren := ⟨fun | 25 => 68 | _ => 71, fun _ => 81, fun _ => 0⟩
theorem laysA : Lays7.n25 Try.prog renA := ⟨by kernel_rfl, by kernel_rfl, by kernel_rfl, fun w => by kernel_rfl, fun w => by kernel_rfl, fun w => by kernel_rfl, by kernel_rfl⟩
theorem laysS : Lays7.n26 Try.prog renA := ⟨by kernel_rfl, by kernel_rfl, by kernel_rfl, fun w => by kernel_rfl, fun w => by kernel_rfl, fun w => by kernel_rfl, by kernel_rfl⟩
theorem a_Add64 (x y c : Int) (hx : 0 ≤ x ∧ x < 18446744073709551616) (hy : 0 ≤ y ∧ y < 18446744073709551616) (hc : 0 ≤ c ∧ c ≤ 1) :
    Ans Try.prog 68 [.int .u64 x, .int .u64 y, .int .u64 c] (.tuple #[.int .u64 ((x + y + c) % 18446744073709551616), .int .u64 ((x + y + c) / 18446744073709551616)]) := by
  obtain ⟨x, rfl⟩ := Int.eq_ofNat_of_zero_le hx.1
  obtain ⟨y, rfl⟩ := Int.eq_ofNat_of_zero_le hy.1
  obtain ⟨c, rfl⟩ := Int.eq_ofNat_of_zero_le hc.1
  refine .inr fun w => ?_
  have h := Any7.bits_Add64 laysA x y c (by omega) w
  have e1 : (((x + y + c) % 18446744073709551616 : Nat) : Int) = ((x : Int) + y + c) % 18446744073709551616 := by omega
  have e2 : (((x + y + c) / 18446744073709551616 : Nat) : Int) = ((x : Int) + y + c) / 18446744073709551616 := by omega
  rw [e1, e2] at h
  exact h
theorem a_Sub64 (x y c : Int) (hx : 0 ≤ x ∧ x < 18446744073709551616) (hy : 0 ≤ y ∧ y < 18446744073709551616) (hc : 0 ≤ c ∧ c ≤ 1) :
    Ans Try.prog 71 [.int .u64 x, .int .u64 y, .int .u64 c] (.tuple #[.int .u64 ((x - y - c) % 18446744073709551616), .int .u64 (-((x - y - c) / 18446744073709551616))]) := by
  obtain ⟨x, rfl⟩ := Int.eq_ofNat_of_zero_le hx.1
  obtain ⟨y, rfl⟩ := Int.eq_ofNat_of_zero_le hy.1
  obtain ⟨c, rfl⟩ := Int.eq_ofNat_of_zero_le hc.1
  refine .inr fun w => ?_
  have h := Any7.bits_Sub64 laysS x y c (by omega) w
  have e1 : (((x + 18446744073709551616 - y - c) % 18446744073709551616 : Nat) : Int) = ((x : Int) - y - c) % 18446744073709551616 := by omega
  have e2 : (((if x < y + c then 1 else 0 : Nat)) : Int) = -(((x : Int) - y - c) / 18446744073709551616) := by split <;> omega
  rw [e1, e2] at h
  exact h
theorem a_Mul64 (x y : Int) (hx : 0 ≤ x ∧ x < 18446744073709551616) (hy : 0 ≤ y ∧ y < 18446744073709551616) :
    Ans Try.prog 67 [.int .u64 x, .int .u64 y] (.tuple #[.int .u64 (x * y / 18446744073709551616), .int .u64 (x * y % 18446744073709551616)]) := by
  obtain ⟨x, rfl⟩ := Int.eq_ofNat_of_zero_le hx.1
  obtain ⟨y, rfl⟩ := Int.eq_ofNat_of_zero_le hy.1
  refine .inl ⟨ent_of Try.func67 rfl rfl, fun w => (Any.bits_Mul64 laysM x y (by omega) (by omega) w).mono ?_⟩
  rintro e w' ⟨rfl, rfl⟩
  refine ⟨?_, Below.refl _ _⟩
  have e1 : ((x * y / 18446744073709551616 : Nat) : Int) = (x : Int) * y / 18446744073709551616 := by omega
  have e2 : ((x * y % 18446744073709551616 : Nat) : Int) = (x : Int) * y % 18446744073709551616 := by omega
  rw [e1, e2]

end Go.Proofs.Ytegfonghlpbgdaa
