import Derived.Test.YtaijclimdfchfaaKI
import Derived.Test.YtaijclimdfchfaaProg
import Derived.Shelf.Bits.Mul64
import Derived.Shelf.Spec.BitsCarry
/- The types of this program; numbers of 128 bits. Conditions: none. -/
namespace Go.Proofs.Ytaijclimdfchfaa
open Go.Proofs Go.RowKit Go.Shelf

instance : TInt Try.prog 2 .i64 := ⟨by kernel_rfl⟩
instance : TOne Try.prog 2 := .of (by kernel_rfl) (by kernel_rfl)
instance : TZero Try.prog 2 [.int .i64 0] := .of (by kernel_rfl)
instance : TElem Try.prog 2 (.int .i64 0) 1 8 := .of (by kernel_rfl) rfl (by decide)
instance : TInt Try.prog 3 .i64 := ⟨by kernel_rfl⟩
instance : TOne Try.prog 3 := .of (by kernel_rfl) (by kernel_rfl)
instance : TZero Try.prog 3 [.int .i64 0] := .of (by kernel_rfl)
instance : TElem Try.prog 3 (.int .i64 0) 1 8 := .of (by kernel_rfl) rfl (by decide)
instance : TBool Try.prog 4 := ⟨by kernel_rfl⟩
instance : TOne Try.prog 4 := .of (by kernel_rfl) (by kernel_rfl)
instance : TZero Try.prog 4 [.bool false] := .of (by kernel_rfl)
instance : TElem Try.prog 4 (.bool false) 1 1 := .of (by kernel_rfl) rfl (by decide)
instance : TInt Try.prog 5 .u8 := ⟨by kernel_rfl⟩
instance : TOne Try.prog 5 := .of (by kernel_rfl) (by kernel_rfl)
instance : TZero Try.prog 5 [.int .u8 0] := .of (by kernel_rfl)
instance : TElem Try.prog 5 (.int .u8 0) 1 1 := .of (by kernel_rfl) rfl (by decide)
instance : TInt Try.prog 21 .i32 := ⟨by kernel_rfl⟩
instance : TOne Try.prog 21 := .of (by kernel_rfl) (by kernel_rfl)
instance : TZero Try.prog 21 [.int .i32 0] := .of (by kernel_rfl)
instance : TElem Try.prog 21 (.int .i32 0) 1 4 := .of (by kernel_rfl) rfl (by decide)
instance : TOne Try.prog 22 := .of (by kernel_rfl) (by kernel_rfl)
instance : TZero Try.prog 22 [.slice none 0 0] := .of (by kernel_rfl)
instance : TElem Try.prog 22 (.slice none 0 0) 1 24 := .of (by kernel_rfl) rfl (by decide)
instance : TSl Try.prog 22 41 1 := .of (by kernel_rfl) (by kernel_rfl) (by decide)
instance : TOne Try.prog 26 := .of (by kernel_rfl) (by kernel_rfl)
instance : TZero Try.prog 26 [.slice none 0 0] := .of (by kernel_rfl)
instance : TElem Try.prog 26 (.slice none 0 0) 1 24 := .of (by kernel_rfl) rfl (by decide)
instance : TSl Try.prog 26 31 2 := .of (by kernel_rfl) (by kernel_rfl) (by decide)
instance : TOne Try.prog 28 := .of (by kernel_rfl) (by kernel_rfl)
instance : TZero Try.prog 28 [.slice none 0 0] := .of (by kernel_rfl)
instance : TElem Try.prog 28 (.slice none 0 0) 1 24 := .of (by kernel_rfl) rfl (by decide)
instance : TSl Try.prog 28 90 7 := .of (by kernel_rfl) (by kernel_rfl) (by decide)
instance : TZero Try.prog 31 [.int .i64 0, .int .i64 0] := .of (by kernel_rfl)
instance : TElem Try.prog 31 (.agg #[.int .i64 0, .int .i64 0]) 2 16 := .of (by kernel_rfl) rfl (by decide)
instance : TAgg Try.prog 31 2 := .of (by kernel_rfl) (by kernel_rfl)
instance : TBuild Try.prog 31 [(0, 1), (1, 1)] [.int .i64 0, .int .i64 0] := .of (by kernel_rfl) (by kernel_rfl)
instance : TEqs Try.prog 31 2 := ⟨by kernel_rfl, by kernel_rfl, by kernel_rfl, by kernel_rfl⟩
instance : TFld Try.prog 31 0 0 := .of (by kernel_rfl)
instance : TFld Try.prog 31 1 1 := .of (by kernel_rfl)
instance : TInt Try.prog 37 .i16 := ⟨by kernel_rfl⟩
instance : TOne Try.prog 37 := .of (by kernel_rfl) (by kernel_rfl)
instance : TZero Try.prog 37 [.int .i16 0] := .of (by kernel_rfl)
instance : TElem Try.prog 37 (.int .i16 0) 1 2 := .of (by kernel_rfl) rfl (by decide)
instance : TZero Try.prog 39 [.int .i64 0, .int .i64 0] := .of (by kernel_rfl)
instance : TElem Try.prog 39 (.agg #[.int .i64 0, .int .i64 0]) 2 16 := .of (by kernel_rfl) rfl (by decide)
instance : TAgg Try.prog 39 2 := .of (by kernel_rfl) (by kernel_rfl)
instance : TBuild Try.prog 39 [(0, 1), (1, 1)] [.int .i64 0, .int .i64 0] := .of (by kernel_rfl) (by kernel_rfl)
instance : TEqs Try.prog 39 2 := ⟨by kernel_rfl, by kernel_rfl, by kernel_rfl, by kernel_rfl⟩
instance : TFld Try.prog 39 0 0 := .of (by kernel_rfl)
instance : TFld Try.prog 39 1 1 := .of (by kernel_rfl)
instance : TOne Try.prog 40 := .of (by kernel_rfl) (by kernel_rfl)
instance : TZero Try.prog 40 [.slice none 0 0] := .of (by kernel_rfl)
instance : TElem Try.prog 40 (.slice none 0 0) 1 24 := .of (by kernel_rfl) rfl (by decide)
instance : TSl Try.prog 40 39 2 := .of (by kernel_rfl) (by kernel_rfl) (by decide)
instance : TOne Try.prog 41 := .of (by kernel_rfl) (by kernel_rfl)
instance : TZero Try.prog 41 [.slice none 0 0] := .of (by kernel_rfl)
instance : TElem Try.prog 41 (.slice none 0 0) 1 24 := .of (by kernel_rfl) rfl (by decide)
instance : TSl Try.prog 41 39 2 := .of (by kernel_rfl) (by kernel_rfl) (by decide)
instance : TZero Try.prog 44 [.int .i64 0, .int .i64 0, .int .i64 0, .int .i64 0] := .of (by kernel_rfl)
instance : TElem Try.prog 44 (.agg #[.int .i64 0, .int .i64 0, .int .i64 0, .int .i64 0]) 4 32 := .of (by kernel_rfl) rfl (by decide)
instance : TAgg Try.prog 44 4 := .of (by kernel_rfl) (by kernel_rfl)
instance : TBuild Try.prog 44 [(0, 1), (1, 1), (2, 1), (3, 1)] [.int .i64 0, .int .i64 0, .int .i64 0, .int .i64 0] := .of (by kernel_rfl) (by kernel_rfl)
instance : TEqs Try.prog 44 4 := ⟨by kernel_rfl, by kernel_rfl, by kernel_rfl, by kernel_rfl⟩
instance : TFld Try.prog 44 0 0 := .of (by kernel_rfl)
instance : TFld Try.prog 44 1 1 := .of (by kernel_rfl)
instance : TFld Try.prog 44 2 2 := .of (by kernel_rfl)
instance : TFld Try.prog 44 3 3 := .of (by kernel_rfl)
instance : TOne Try.prog 46 := .of (by kernel_rfl) (by kernel_rfl)
instance : TZero Try.prog 46 [.slice none 0 0] := .of (by kernel_rfl)
instance : TElem Try.prog 46 (.slice none 0 0) 1 24 := .of (by kernel_rfl) rfl (by decide)
instance : TSl Try.prog 46 5 1 := .of (by kernel_rfl) (by kernel_rfl) (by decide)
instance : TZero Try.prog 48 [.int .i64 0, .int .i64 0, .slice none 0 0] := .of (by kernel_rfl)
instance : TElem Try.prog 48 (.agg #[.int .i64 0, .int .i64 0, .slice none 0 0]) 3 40 := .of (by kernel_rfl) rfl (by decide)
instance : TAgg Try.prog 48 3 := .of (by kernel_rfl) (by kernel_rfl)
instance : TBuild Try.prog 48 [(0, 1), (1, 1), (2, 1)] [.int .i64 0, .int .i64 0, .slice none 0 0] := .of (by kernel_rfl) (by kernel_rfl)
instance : TFld Try.prog 48 0 0 := .of (by kernel_rfl)
instance : TFld Try.prog 48 1 1 := .of (by kernel_rfl)
instance : TFld Try.prog 48 2 2 := .of (by kernel_rfl)
instance : TInt Try.prog 49 .i64 := ⟨by kernel_rfl⟩
instance : TOne Try.prog 49 := .of (by kernel_rfl) (by kernel_rfl)
instance : TZero Try.prog 49 [.int .i64 0] := .of (by kernel_rfl)
instance : TElem Try.prog 49 (.int .i64 0) 1 8 := .of (by kernel_rfl) rfl (by decide)
instance : TOne Try.prog 58 := .of (by kernel_rfl) (by kernel_rfl)
instance : TZero Try.prog 58 [.slice none 0 0] := .of (by kernel_rfl)
instance : TElem Try.prog 58 (.slice none 0 0) 1 24 := .of (by kernel_rfl) rfl (by decide)
instance : TSl Try.prog 58 39 2 := .of (by kernel_rfl) (by kernel_rfl) (by decide)
instance : TOne Try.prog 65 := .of (by kernel_rfl) (by kernel_rfl)
instance : TZero Try.prog 65 [.slice none 0 0] := .of (by kernel_rfl)
instance : TElem Try.prog 65 (.slice none 0 0) 1 24 := .of (by kernel_rfl) rfl (by decide)
instance : TSl Try.prog 65 101 2 := .of (by kernel_rfl) (by kernel_rfl) (by decide)
instance : TZero Try.prog 68 [.int .i64 0, .int .i64 0, .slice none 0 0] := .of (by kernel_rfl)
instance : TElem Try.prog 68 (.agg #[.int .i64 0, .int .i64 0, .slice none 0 0]) 3 40 := .of (by kernel_rfl) rfl (by decide)
instance : TAgg Try.prog 68 3 := .of (by kernel_rfl) (by kernel_rfl)
instance : TBuild Try.prog 68 [(0, 1), (1, 1), (2, 1)] [.int .i64 0, .int .i64 0, .slice none 0 0] := .of (by kernel_rfl) (by kernel_rfl)
instance : TFld Try.prog 68 0 0 := .of (by kernel_rfl)
instance : TFld Try.prog 68 1 1 := .of (by kernel_rfl)
instance : TFld Try.prog 68 2 2 := .of (by kernel_rfl)
instance : TOne Try.prog 86 := .of (by kernel_rfl) (by kernel_rfl)
instance : TZero Try.prog 86 [.slice none 0 0] := .of (by kernel_rfl)
instance : TElem Try.prog 86 (.slice none 0 0) 1 24 := .of (by kernel_rfl) rfl (by decide)
instance : TSl Try.prog 86 3 1 := .of (by kernel_rfl) (by kernel_rfl) (by decide)
instance : TZero Try.prog 88 [.int .i64 0, .int .i64 0, .slice none 0 0, .int .i64 0, .int .i64 0, .int .i64 0, .int .i64 0, .slice none 0 0] := .of (by kernel_rfl)
instance : TElem Try.prog 88 (.agg #[.int .i64 0, .int .i64 0, .slice none 0 0, .int .i64 0, .int .i64 0, .int .i64 0, .int .i64 0, .slice none 0 0]) 8 96 := .of (by kernel_rfl) rfl (by decide)
instance : TAgg Try.prog 88 8 := .of (by kernel_rfl) (by kernel_rfl)
instance : TBuild Try.prog 88 [(0, 3), (3, 4), (7, 1)] [.int .i64 0, .int .i64 0, .slice none 0 0, .int .i64 0, .int .i64 0, .int .i64 0, .int .i64 0, .slice none 0 0] := .of (by kernel_rfl) (by kernel_rfl)
instance : TFld Try.prog 88 0 0 := .of (by kernel_rfl)
instance : TFld Try.prog 88 1 3 := .of (by kernel_rfl)
instance : TFld Try.prog 88 2 7 := .of (by kernel_rfl)
instance : TZero Try.prog 90 [.int .i64 0, .int .i64 0, .int .i64 0, .int .i64 0, .int .i64 0, .int .i64 0, .int .i64 0] := .of (by kernel_rfl)
instance : TElem Try.prog 90 (.agg #[.int .i64 0, .int .i64 0, .int .i64 0, .int .i64 0, .int .i64 0, .int .i64 0, .int .i64 0]) 7 56 := .of (by kernel_rfl) rfl (by decide)
instance : TAgg Try.prog 90 7 := .of (by kernel_rfl) (by kernel_rfl)
instance : TBuild Try.prog 90 [(0, 1), (1, 1), (2, 1), (3, 1), (4, 1), (5, 1), (6, 1)] [.int .i64 0, .int .i64 0, .int .i64 0, .int .i64 0, .int .i64 0, .int .i64 0, .int .i64 0] := .of (by kernel_rfl) (by kernel_rfl)
instance : TEqs Try.prog 90 7 := ⟨by kernel_rfl, by kernel_rfl, by kernel_rfl, by kernel_rfl⟩
instance : TFld Try.prog 90 0 0 := .of (by kernel_rfl)
instance : TFld Try.prog 90 1 1 := .of (by kernel_rfl)
instance : TFld Try.prog 90 2 2 := .of (by kernel_rfl)
instance : TFld Try.prog 90 3 3 := .of (by kernel_rfl)
instance : TFld Try.prog 90 4 4 := .of (by kernel_rfl)
instance : TFld Try.prog 90 5 5 := .of (by kernel_rfl)
instance : TFld Try.prog 90 6 6 := .of (by kernel_rfl)
instance : TZero Try.prog 101 [.int .i64 0, .int .i64 0] := .of (by kernel_rfl)
instance : TElem Try.prog 101 (.agg #[.int .i64 0, .int .i64 0]) 2 16 := .of (by kernel_rfl) rfl (by decide)
instance : TAgg Try.prog 101 2 := .of (by kernel_rfl) (by kernel_rfl)
instance : TBuild Try.prog 101 [(0, 1), (1, 1)] [.int .i64 0, .int .i64 0] := .of (by kernel_rfl) (by kernel_rfl)
instance : TEqs Try.prog 101 2 := ⟨by kernel_rfl, by kernel_rfl, by kernel_rfl, by kernel_rfl⟩
instance : TFld Try.prog 101 0 0 := .of (by kernel_rfl)
instance : TFld Try.prog 101 1 1 := .of (by kernel_rfl)
instance : TOne Try.prog 110 := .of (by kernel_rfl) (by kernel_rfl)
instance : TZero Try.prog 110 [.map none] := .of (by kernel_rfl)
instance : TElem Try.prog 110 (.map none) 1 8 := .of (by kernel_rfl) rfl (by decide)
instance : TInt Try.prog 147 .u64 := ⟨by kernel_rfl⟩
instance : TOne Try.prog 147 := .of (by kernel_rfl) (by kernel_rfl)
instance : TZero Try.prog 147 [.int .u64 0] := .of (by kernel_rfl)
instance : TElem Try.prog 147 (.int .u64 0) 1 8 := .of (by kernel_rfl) rfl (by decide)
instance : TInt Try.prog 150 .u64 := ⟨by kernel_rfl⟩
instance : TOne Try.prog 150 := .of (by kernel_rfl) (by kernel_rfl)
instance : TZero Try.prog 150 [.int .u64 0] := .of (by kernel_rfl)
instance : TElem Try.prog 150 (.int .u64 0) 1 8 := .of (by kernel_rfl) rfl (by decide)
instance : TZero Try.prog 152 [.int .i64 0, .int .u64 0] := .of (by kernel_rfl)
instance : TElem Try.prog 152 (.agg #[.int .i64 0, .int .u64 0]) 2 16 := .of (by kernel_rfl) rfl (by decide)
instance : TAgg Try.prog 152 2 := .of (by kernel_rfl) (by kernel_rfl)
instance : TBuild Try.prog 152 [(0, 1), (1, 1)] [.int .i64 0, .int .u64 0] := .of (by kernel_rfl) (by kernel_rfl)
instance : TEqs Try.prog 152 2 := ⟨by kernel_rfl, by kernel_rfl, by kernel_rfl, by kernel_rfl⟩
instance : TFld Try.prog 152 0 0 := .of (by kernel_rfl)
instance : TFld Try.prog 152 1 1 := .of (by kernel_rfl)
instance : TInt Try.prog 170 .u32 := ⟨by kernel_rfl⟩
instance : TOne Try.prog 170 := .of (by kernel_rfl) (by kernel_rfl)
instance : TZero Try.prog 170 [.int .u32 0] := .of (by kernel_rfl)
instance : TElem Try.prog 170 (.int .u32 0) 1 4 := .of (by kernel_rfl) rfl (by decide)
theorem mixed : Try.prog.follows .mixedOrders = true := by kernel_rfl
theorem mul_bound {x y A B : Int} (hx : -A ≤ x) (hx' : x ≤ A) (hy : -B ≤ y) (hy' : y ≤ B) : -(A * B) ≤ x * y ∧ x * y ≤ A * B := by
  have h1 := Int.mul_nonneg (show 0 ≤ A - x by omega) (show 0 ≤ B - y by omega)
  have h2 := Int.mul_nonneg (show 0 ≤ A + x by omega) (show 0 ≤ B + y by omega)
  have h3 := Int.mul_nonneg (show 0 ≤ A - x by omega) (show 0 ≤ B + y by omega)
  have h4 := Int.mul_nonneg (show 0 ≤ A + x by omega) (show 0 ≤ B - y by omega)
  simp only [Int.sub_mul, Int.mul_sub, Int.add_mul, Int.mul_add] at h1 h2 h3 h4
  omega
theorem mp_pp {x y : Int} (hx : 0 ≤ x) (hx' : x < 18446744073709551616) (hy : 0 ≤ y) (hy' : y < 18446744073709551616) : x % 18446744073709551616 * (y % 18446744073709551616) = x * y := by
  rw [Int.emod_eq_of_lt hx hx', Int.emod_eq_of_lt hy hy']
theorem mp_np {x y : Int} (hx : x < 0) (hx' : -18446744073709551616 ≤ x) (hy : 0 ≤ y) (hy' : y < 18446744073709551616) : x % 18446744073709551616 * (y % 18446744073709551616) = x * y + 18446744073709551616 * y := by
  rw [show x % 18446744073709551616 = x + 18446744073709551616 by omega, Int.emod_eq_of_lt hy hy', Int.add_mul]
theorem mp_pn {x y : Int} (hx : 0 ≤ x) (hx' : x < 18446744073709551616) (hy : y < 0) (hy' : -18446744073709551616 ≤ y) : x % 18446744073709551616 * (y % 18446744073709551616) = x * y + 18446744073709551616 * x := by
  rw [show y % 18446744073709551616 = y + 18446744073709551616 by omega, Int.emod_eq_of_lt hx hx', Int.mul_add]; omega
theorem mp_nn {x y : Int} (hx : x < 0) (hx' : -18446744073709551616 ≤ x) (hy : y < 0) (hy' : -18446744073709551616 ≤ y) : x % 18446744073709551616 * (y % 18446744073709551616) = x * y + 18446744073709551616 * x + 18446744073709551616 * y + 18446744073709551616 * 18446744073709551616 := by
  rw [show y % 18446744073709551616 = y + 18446744073709551616 by omega, show x % 18446744073709551616 = x + 18446744073709551616 by omega, Int.mul_add, Int.add_mul, Int.add_mul]; omega

/-- a number of 128 bits -/
def wideV (v : Int) : Value := .agg #[.int .i64 (v / 18446744073709551616), .int .u64 (v % 18446744073709551616)]
theorem wideV_eq {h l v : Int} (hl : 0 ≤ l) (hl' : l < 18446744073709551616) (hv : h * 18446744073709551616 + l = v) : wideV v = .agg #[.int .i64 h, .int .u64 l] := by
  subst hv
  simp only [wideV]
  congr <;> omega

def renM : Ren := ⟨fun _ => 125, fun | 46 => 147 | 53 => 150 | _ => 0, fun _ => 0⟩
theorem laysM : Lays.n264 Try.prog renM where
  mixed := by kernel_rfl
  f264 := by kernel_rfl
  t46 := by kernel_rfl
  a46 := fun w => by kernel_rfl
  z46 := fun w => by kernel_rfl
  v46 := fun w => by kernel_rfl
  t53 := by kernel_rfl
  a53 := fun w => by kernel_rfl
  z53 := fun w => by kernel_rfl
  v53 := fun w => by kernel_rfl
def renA : Ren := ⟨fun | 25 => 126 | _ => 133, fun _ => 150, fun _ => 0⟩
theorem laysA : Lays7.n25 Try.prog renA := ⟨by kernel_rfl, by kernel_rfl, by kernel_rfl, fun w => by kernel_rfl, fun w => by kernel_rfl, fun w => by kernel_rfl, by kernel_rfl⟩
theorem laysS : Lays7.n26 Try.prog renA := ⟨by kernel_rfl, by kernel_rfl, by kernel_rfl, fun w => by kernel_rfl, fun w => by kernel_rfl, fun w => by kernel_rfl, by kernel_rfl⟩
theorem a_Add64 (x y c : Int) (hx : 0 ≤ x ∧ x < 18446744073709551616) (hy : 0 ≤ y ∧ y < 18446744073709551616) (hc : 0 ≤ c ∧ c ≤ 1) :
    Ans Try.prog 126 [.int .u64 x, .int .u64 y, .int .u64 c] (.tuple #[.int .u64 ((x + y + c) % 18446744073709551616), .int .u64 ((x + y + c) / 18446744073709551616)]) := by
  obtain ⟨x, rfl⟩ := Int.eq_ofNat_of_zero_le hx.1
  obtain ⟨y, rfl⟩ := Int.eq_ofNat_of_zero_le hy.1
  obtain ⟨c, rfl⟩ := Int.eq_ofNat_of_zero_le hc.1
  refine .inr fun w => ?_
  have h := Any7.bits_Add64 laysA x y c (by omega) w
  have e1 : (((x + y + c) % 18446744073709551616 : Nat) : Int) = ((x : Int) + y + c) % 18446744073709551616 := by omega
  have e2 : (((x + y + c) / 18446744073709551616 : Nat) : Int) = ((x : Int) + y + c) / 18446744073709551616 := by omega
  rw [e1, e2] at h
  exact h
theorem a_Sub64 (x y c : Int) (hx : 0 ≤ x ∧ x < 18446744073709551616) (hy : 0 ≤ y ∧ y < 18446744073709551616) (hc : 0 ≤ c ∧ c ≤ 1) :
    Ans Try.prog 133 [.int .u64 x, .int .u64 y, .int .u64 c] (.tuple #[.int .u64 ((x - y - c) % 18446744073709551616), .int .u64 (-((x - y - c) / 18446744073709551616))]) := by
  obtain ⟨x, rfl⟩ := Int.eq_ofNat_of_zero_le hx.1
  obtain ⟨y, rfl⟩ := Int.eq_ofNat_of_zero_le hy.1
  obtain ⟨c, rfl⟩ := Int.eq_ofNat_of_zero_le hc.1
  refine .inr fun w => ?_
  have h := Any7.bits_Sub64 laysS x y c (by omega) w
  have e1 : (((x + 18446744073709551616 - y - c) % 18446744073709551616 : Nat) : Int) = ((x : Int) - y - c) % 18446744073709551616 := by omega
  have e2 : (((if x < y + c then 1 else 0 : Nat)) : Int) = -(((x : Int) - y - c) / 18446744073709551616) := by split <;> omega
  rw [e1, e2] at h
  exact h
theorem a_Mul64 (x y : Int) (hx : 0 ≤ x ∧ x < 18446744073709551616) (hy : 0 ≤ y ∧ y < 18446744073709551616) :
    Ans Try.prog 125 [.int .u64 x, .int .u64 y] (.tuple #[.int .u64 (x * y / 18446744073709551616), .int .u64 (x * y % 18446744073709551616)]) := by
  obtain ⟨x, rfl⟩ := Int.eq_ofNat_of_zero_le hx.1
  obtain ⟨y, rfl⟩ := Int.eq_ofNat_of_zero_le hy.1
  refine .inl ⟨ent_of Try.func125 rfl rfl, fun w => (Any.bits_Mul64 laysM x y (by omega) (by omega) w).mono ?_⟩
  rintro e w' ⟨rfl, rfl⟩
  refine ⟨?_, Below.refl _ _⟩
  have e1 : ((x * y / 18446744073709551616 : Nat) : Int) = (x : Int) * y / 18446744073709551616 := by omega
  have e2 : ((x * y % 18446744073709551616 : Nat) : Int) = (x : Int) * y % 18446744073709551616 := by omega
  rw [e1, e2]

end Go.Proofs.Ytaijclimdfchfaa
