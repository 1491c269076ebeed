import Derived.Test.YtaijclimdfchfaaGreatKI
import Derived.Test.YtaijclimdfchfaaGreatProg
import Derived.Shelf.Bits.Mul64
import Derived.Shelf.Spec.BitsCarry
/- The types of this program; numbers of 128 bits. Conditions: none. -/
namespace Go.Proofs.YtaijclimdfchfaaGreat
open Go.Proofs Go.RowKit Go.Shelf

instance : TInt Tryz.prog 2 .i64 := ⟨by kernel_rfl⟩
instance : TOne Tryz.prog 2 := .of (by kernel_rfl) (by kernel_rfl)
instance : TZero Tryz.prog 2 [.int .i64 0] := .of (by kernel_rfl)
instance : TElem Tryz.prog 2 (.int .i64 0) 1 8 := .of (by kernel_rfl) rfl (by decide)
instance : TInt Tryz.prog 3 .i64 := ⟨by kernel_rfl⟩
instance : TOne Tryz.prog 3 := .of (by kernel_rfl) (by kernel_rfl)
instance : TZero Tryz.prog 3 [.int .i64 0] := .of (by kernel_rfl)
instance : TElem Tryz.prog 3 (.int .i64 0) 1 8 := .of (by kernel_rfl) rfl (by decide)
instance : TBool Tryz.prog 4 := ⟨by kernel_rfl⟩
instance : TOne Tryz.prog 4 := .of (by kernel_rfl) (by kernel_rfl)
instance : TZero Tryz.prog 4 [.bool false] := .of (by kernel_rfl)
instance : TElem Tryz.prog 4 (.bool false) 1 1 := .of (by kernel_rfl) rfl (by decide)
instance : TInt Tryz.prog 5 .u8 := ⟨by kernel_rfl⟩
instance : TOne Tryz.prog 5 := .of (by kernel_rfl) (by kernel_rfl)
instance : TZero Tryz.prog 5 [.int .u8 0] := .of (by kernel_rfl)
instance : TElem Tryz.prog 5 (.int .u8 0) 1 1 := .of (by kernel_rfl) rfl (by decide)
instance : TInt Tryz.prog 21 .i32 := ⟨by kernel_rfl⟩
instance : TOne Tryz.prog 21 := .of (by kernel_rfl) (by kernel_rfl)
instance : TZero Tryz.prog 21 [.int .i32 0] := .of (by kernel_rfl)
instance : TElem Tryz.prog 21 (.int .i32 0) 1 4 := .of (by kernel_rfl) rfl (by decide)
instance : TOne Tryz.prog 22 := .of (by kernel_rfl) (by kernel_rfl)
instance : TZero Tryz.prog 22 [.slice none 0 0] := .of (by kernel_rfl)
instance : TElem Tryz.prog 22 (.slice none 0 0) 1 24 := .of (by kernel_rfl) rfl (by decide)
instance : TSl Tryz.prog 22 62 1 := .of (by kernel_rfl) (by kernel_rfl) (by decide)
instance : TOne Tryz.prog 26 := .of (by kernel_rfl) (by kernel_rfl)
instance : TZero Tryz.prog 26 [.slice none 0 0] := .of (by kernel_rfl)
instance : TElem Tryz.prog 26 (.slice none 0 0) 1 24 := .of (by kernel_rfl) rfl (by decide)
instance : TSl Tryz.prog 26 84 7 := .of (by kernel_rfl) (by kernel_rfl) (by decide)
instance : TOne Tryz.prog 28 := .of (by kernel_rfl) (by kernel_rfl)
instance : TZero Tryz.prog 28 [.slice none 0 0] := .of (by kernel_rfl)
instance : TElem Tryz.prog 28 (.slice none 0 0) 1 24 := .of (by kernel_rfl) rfl (by decide)
instance : TSl Tryz.prog 28 69 2 := .of (by kernel_rfl) (by kernel_rfl) (by decide)
instance : TOne Tryz.prog 30 := .of (by kernel_rfl) (by kernel_rfl)
instance : TZero Tryz.prog 30 [.slice none 0 0] := .of (by kernel_rfl)
instance : TElem Tryz.prog 30 (.slice none 0 0) 1 24 := .of (by kernel_rfl) rfl (by decide)
instance : TSl Tryz.prog 30 83 2 := .of (by kernel_rfl) (by kernel_rfl) (by decide)
instance : TOne Tryz.prog 32 := .of (by kernel_rfl) (by kernel_rfl)
instance : TZero Tryz.prog 32 [.slice none 0 0] := .of (by kernel_rfl)
instance : TElem Tryz.prog 32 (.slice none 0 0) 1 24 := .of (by kernel_rfl) rfl (by decide)
instance : TSl Tryz.prog 32 79 7 := .of (by kernel_rfl) (by kernel_rfl) (by decide)
instance : TZero Tryz.prog 44 [.int .i64 0, .int .i64 0, .int .i64 0, .int .i64 0] := .of (by kernel_rfl)
instance : TElem Tryz.prog 44 (.agg #[.int .i64 0, .int .i64 0, .int .i64 0, .int .i64 0]) 4 32 := .of (by kernel_rfl) rfl (by decide)
instance : TAgg Tryz.prog 44 4 := .of (by kernel_rfl) (by kernel_rfl)
instance : TBuild Tryz.prog 44 [(0, 1), (1, 1), (2, 1), (3, 1)] [.int .i64 0, .int .i64 0, .int .i64 0, .int .i64 0] := .of (by kernel_rfl) (by kernel_rfl)
instance : TEqs Tryz.prog 44 4 := ⟨by kernel_rfl, by kernel_rfl, by kernel_rfl, by kernel_rfl⟩
instance : TFld Tryz.prog 44 0 0 := .of (by kernel_rfl)
instance : TFld Tryz.prog 44 1 1 := .of (by kernel_rfl)
instance : TFld Tryz.prog 44 2 2 := .of (by kernel_rfl)
instance : TFld Tryz.prog 44 3 3 := .of (by kernel_rfl)
instance : TOne Tryz.prog 45 := .of (by kernel_rfl) (by kernel_rfl)
instance : TZero Tryz.prog 45 [.slice none 0 0] := .of (by kernel_rfl)
instance : TElem Tryz.prog 45 (.slice none 0 0) 1 24 := .of (by kernel_rfl) rfl (by decide)
instance : TSl Tryz.prog 45 5 1 := .of (by kernel_rfl) (by kernel_rfl) (by decide)
instance : TZero Tryz.prog 47 [.int .i64 0, .int .i64 0, .slice none 0 0] := .of (by kernel_rfl)
instance : TElem Tryz.prog 47 (.agg #[.int .i64 0, .int .i64 0, .slice none 0 0]) 3 40 := .of (by kernel_rfl) rfl (by decide)
instance : TAgg Tryz.prog 47 3 := .of (by kernel_rfl) (by kernel_rfl)
instance : TBuild Tryz.prog 47 [(0, 1), (1, 1), (2, 1)] [.int .i64 0, .int .i64 0, .slice none 0 0] := .of (by kernel_rfl) (by kernel_rfl)
instance : TFld Tryz.prog 47 0 0 := .of (by kernel_rfl)
instance : TFld Tryz.prog 47 1 1 := .of (by kernel_rfl)
instance : TFld Tryz.prog 47 2 2 := .of (by kernel_rfl)
instance : TInt Tryz.prog 48 .i64 := ⟨by kernel_rfl⟩
instance : TOne Tryz.prog 48 := .of (by kernel_rfl) (by kernel_rfl)
instance : TZero Tryz.prog 48 [.int .i64 0] := .of (by kernel_rfl)
instance : TElem Tryz.prog 48 (.int .i64 0) 1 8 := .of (by kernel_rfl) rfl (by decide)
instance : TZero Tryz.prog 51 [.int .i64 0, .int .i64 0, .slice none 0 0] := .of (by kernel_rfl)
instance : TElem Tryz.prog 51 (.agg #[.int .i64 0, .int .i64 0, .slice none 0 0]) 3 40 := .of (by kernel_rfl) rfl (by decide)
instance : TAgg Tryz.prog 51 3 := .of (by kernel_rfl) (by kernel_rfl)
instance : TBuild Tryz.prog 51 [(0, 1), (1, 1), (2, 1)] [.int .i64 0, .int .i64 0, .slice none 0 0] := .of (by kernel_rfl) (by kernel_rfl)
instance : TFld Tryz.prog 51 0 0 := .of (by kernel_rfl)
instance : TFld Tryz.prog 51 1 1 := .of (by kernel_rfl)
instance : TFld Tryz.prog 51 2 2 := .of (by kernel_rfl)
instance : TOne Tryz.prog 54 := .of (by kernel_rfl) (by kernel_rfl)
instance : TZero Tryz.prog 54 [.slice none 0 0] := .of (by kernel_rfl)
instance : TElem Tryz.prog 54 (.slice none 0 0) 1 24 := .of (by kernel_rfl) rfl (by decide)
instance : TSl Tryz.prog 54 99 1 := .of (by kernel_rfl) (by kernel_rfl) (by decide)
instance : TZero Tryz.prog 56 [.int .i64 0, .int .i64 0, .int .i64 0, .int .i64 0] := .of (by kernel_rfl)
instance : TElem Tryz.prog 56 (.agg #[.int .i64 0, .int .i64 0, .int .i64 0, .int .i64 0]) 4 32 := .of (by kernel_rfl) rfl (by decide)
instance : TAgg Tryz.prog 56 4 := .of (by kernel_rfl) (by kernel_rfl)
instance : TBuild Tryz.prog 56 [(0, 1), (1, 1), (2, 1), (3, 1)] [.int .i64 0, .int .i64 0, .int .i64 0, .int .i64 0] := .of (by kernel_rfl) (by kernel_rfl)
instance : TEqs Tryz.prog 56 4 := ⟨by kernel_rfl, by kernel_rfl, by kernel_rfl, by kernel_rfl⟩
instance : TFld Tryz.prog 56 0 0 := .of (by kernel_rfl)
instance : TFld Tryz.prog 56 1 1 := .of (by kernel_rfl)
instance : TFld Tryz.prog 56 2 2 := .of (by kernel_rfl)
instance : TFld Tryz.prog 56 3 3 := .of (by kernel_rfl)
instance : TOne Tryz.prog 61 := .of (by kernel_rfl) (by kernel_rfl)
instance : TZero Tryz.prog 61 [.slice none 0 0] := .of (by kernel_rfl)
instance : TElem Tryz.prog 61 (.slice none 0 0) 1 24 := .of (by kernel_rfl) rfl (by decide)
instance : TSl Tryz.prog 61 66 2 := .of (by kernel_rfl) (by kernel_rfl) (by decide)
instance : TOne Tryz.prog 62 := .of (by kernel_rfl) (by kernel_rfl)
instance : TZero Tryz.prog 62 [.slice none 0 0] := .of (by kernel_rfl)
instance : TElem Tryz.prog 62 (.slice none 0 0) 1 24 := .of (by kernel_rfl) rfl (by decide)
instance : TSl Tryz.prog 62 66 2 := .of (by kernel_rfl) (by kernel_rfl) (by decide)
instance : TZero Tryz.prog 66 [.int .i64 0, .int .i64 0] := .of (by kernel_rfl)
instance : TElem Tryz.prog 66 (.agg #[.int .i64 0, .int .i64 0]) 2 16 := .of (by kernel_rfl) rfl (by decide)
instance : TAgg Tryz.prog 66 2 := .of (by kernel_rfl) (by kernel_rfl)
instance : TBuild Tryz.prog 66 [(0, 1), (1, 1)] [.int .i64 0, .int .i64 0] := .of (by kernel_rfl) (by kernel_rfl)
instance : TEqs Tryz.prog 66 2 := ⟨by kernel_rfl, by kernel_rfl, by kernel_rfl, by kernel_rfl⟩
instance : TFld Tryz.prog 66 0 0 := .of (by kernel_rfl)
instance : TFld Tryz.prog 66 1 1 := .of (by kernel_rfl)
instance : TZero Tryz.prog 69 [.int .i64 0, .int .i64 0] := .of (by kernel_rfl)
instance : TElem Tryz.prog 69 (.agg #[.int .i64 0, .int .i64 0]) 2 16 := .of (by kernel_rfl) rfl (by decide)
instance : TAgg Tryz.prog 69 2 := .of (by kernel_rfl) (by kernel_rfl)
instance : TBuild Tryz.prog 69 [(0, 1), (1, 1)] [.int .i64 0, .int .i64 0] := .of (by kernel_rfl) (by kernel_rfl)
instance : TEqs Tryz.prog 69 2 := ⟨by kernel_rfl, by kernel_rfl, by kernel_rfl, by kernel_rfl⟩
instance : TFld Tryz.prog 69 0 0 := .of (by kernel_rfl)
instance : TFld Tryz.prog 69 1 1 := .of (by kernel_rfl)
instance : TOne Tryz.prog 75 := .of (by kernel_rfl) (by kernel_rfl)
instance : TZero Tryz.prog 75 [.slice none 0 0] := .of (by kernel_rfl)
instance : TElem Tryz.prog 75 (.slice none 0 0) 1 24 := .of (by kernel_rfl) rfl (by decide)
instance : TSl Tryz.prog 75 81 2 := .of (by kernel_rfl) (by kernel_rfl) (by decide)
instance : TOne Tryz.prog 76 := .of (by kernel_rfl) (by kernel_rfl)
instance : TZero Tryz.prog 76 [.slice none 0 0] := .of (by kernel_rfl)
instance : TElem Tryz.prog 76 (.slice none 0 0) 1 24 := .of (by kernel_rfl) rfl (by decide)
instance : TSl Tryz.prog 76 3 1 := .of (by kernel_rfl) (by kernel_rfl) (by decide)
instance : TZero Tryz.prog 79 [.int .i64 0, .int .i64 0, .int .i64 0, .int .i64 0, .int .i64 0, .int .i64 0, .int .i64 0] := .of (by kernel_rfl)
instance : TElem Tryz.prog 79 (.agg #[.int .i64 0, .int .i64 0, .int .i64 0, .int .i64 0, .int .i64 0, .int .i64 0, .int .i64 0]) 7 56 := .of (by kernel_rfl) rfl (by decide)
instance : TAgg Tryz.prog 79 7 := .of (by kernel_rfl) (by kernel_rfl)
instance : TBuild Tryz.prog 79 [(0, 1), (1, 1), (2, 1), (3, 1), (4, 1), (5, 1), (6, 1)] [.int .i64 0, .int .i64 0, .int .i64 0, .int .i64 0, .int .i64 0, .int .i64 0, .int .i64 0] := .of (by kernel_rfl) (by kernel_rfl)
instance : TEqs Tryz.prog 79 7 := ⟨by kernel_rfl, by kernel_rfl, by kernel_rfl, by kernel_rfl⟩
instance : TFld Tryz.prog 79 0 0 := .of (by kernel_rfl)
instance : TFld Tryz.prog 79 1 1 := .of (by kernel_rfl)
instance : TFld Tryz.prog 79 2 2 := .of (by kernel_rfl)
instance : TFld Tryz.prog 79 3 3 := .of (by kernel_rfl)
instance : TFld Tryz.prog 79 4 4 := .of (by kernel_rfl)
instance : TFld Tryz.prog 79 5 5 := .of (by kernel_rfl)
instance : TFld Tryz.prog 79 6 6 := .of (by kernel_rfl)
instance : TZero Tryz.prog 81 [.int .i64 0, .int .i64 0] := .of (by kernel_rfl)
instance : TElem Tryz.prog 81 (.agg #[.int .i64 0, .int .i64 0]) 2 16 := .of (by kernel_rfl) rfl (by decide)
instance : TAgg Tryz.prog 81 2 := .of (by kernel_rfl) (by kernel_rfl)
instance : TBuild Tryz.prog 81 [(0, 1), (1, 1)] [.int .i64 0, .int .i64 0] := .of (by kernel_rfl) (by kernel_rfl)
instance : TEqs Tryz.prog 81 2 := ⟨by kernel_rfl, by kernel_rfl, by kernel_rfl, by kernel_rfl⟩
instance : TFld Tryz.prog 81 0 0 := .of (by kernel_rfl)
instance : TFld Tryz.prog 81 1 1 := .of (by kernel_rfl)
instance : TZero Tryz.prog 83 [.int .i64 0, .int .i64 0] := .of (by kernel_rfl)
instance : TElem Tryz.prog 83 (.agg #[.int .i64 0, .int .i64 0]) 2 16 := .of (by kernel_rfl) rfl (by decide)
instance : TAgg Tryz.prog 83 2 := .of (by kernel_rfl) (by kernel_rfl)
instance : TBuild Tryz.prog 83 [(0, 1), (1, 1)] [.int .i64 0, .int .i64 0] := .of (by kernel_rfl) (by kernel_rfl)
instance : TEqs Tryz.prog 83 2 := ⟨by kernel_rfl, by kernel_rfl, by kernel_rfl, by kernel_rfl⟩
instance : TFld Tryz.prog 83 0 0 := .of (by kernel_rfl)
instance : TFld Tryz.prog 83 1 1 := .of (by kernel_rfl)
instance : TZero Tryz.prog 84 [.int .i64 0, .int .i64 0, .int .i64 0, .int .i64 0, .int .i64 0, .int .i64 0, .int .i64 0] := .of (by kernel_rfl)
instance : TElem Tryz.prog 84 (.agg #[.int .i64 0, .int .i64 0, .int .i64 0, .int .i64 0, .int .i64 0, .int .i64 0, .int .i64 0]) 7 56 := .of (by kernel_rfl) rfl (by decide)
instance : TAgg Tryz.prog 84 7 := .of (by kernel_rfl) (by kernel_rfl)
instance : TBuild Tryz.prog 84 [(0, 1), (1, 1), (2, 1), (3, 1), (4, 1), (5, 1), (6, 1)] [.int .i64 0, .int .i64 0, .int .i64 0, .int .i64 0, .int .i64 0, .int .i64 0, .int .i64 0] := .of (by kernel_rfl) (by kernel_rfl)
instance : TEqs Tryz.prog 84 7 := ⟨by kernel_rfl, by kernel_rfl, by kernel_rfl, by kernel_rfl⟩
instance : TFld Tryz.prog 84 0 0 := .of (by kernel_rfl)
instance : TFld Tryz.prog 84 1 1 := .of (by kernel_rfl)
instance : TFld Tryz.prog 84 2 2 := .of (by kernel_rfl)
instance : TFld Tryz.prog 84 3 3 := .of (by kernel_rfl)
instance : TFld Tryz.prog 84 4 4 := .of (by kernel_rfl)
instance : TFld Tryz.prog 84 5 5 := .of (by kernel_rfl)
instance : TFld Tryz.prog 84 6 6 := .of (by kernel_rfl)
instance : TZero Tryz.prog 92 [.int .i64 0, .int .i64 0, .slice none 0 0, .int .i64 0, .int .i64 0, .int .i64 0, .int .i64 0, .slice none 0 0] := .of (by kernel_rfl)
instance : TElem Tryz.prog 92 (.agg #[.int .i64 0, .int .i64 0, .slice none 0 0, .int .i64 0, .int .i64 0, .int .i64 0, .int .i64 0, .slice none 0 0]) 8 96 := .of (by kernel_rfl) rfl (by decide)
instance : TAgg Tryz.prog 92 8 := .of (by kernel_rfl) (by kernel_rfl)
instance : TBuild Tryz.prog 92 [(0, 3), (3, 4), (7, 1)] [.int .i64 0, .int .i64 0, .slice none 0 0, .int .i64 0, .int .i64 0, .int .i64 0, .int .i64 0, .slice none 0 0] := .of (by kernel_rfl) (by kernel_rfl)
instance : TFld Tryz.prog 92 0 0 := .of (by kernel_rfl)
instance : TFld Tryz.prog 92 1 3 := .of (by kernel_rfl)
instance : TFld Tryz.prog 92 2 7 := .of (by kernel_rfl)
instance : TOne Tryz.prog 99 := .of (by kernel_rfl) (by kernel_rfl)
instance : TZero Tryz.prog 99 [.slice none 0 0] := .of (by kernel_rfl)
instance : TElem Tryz.prog 99 (.slice none 0 0) 1 24 := .of (by kernel_rfl) rfl (by decide)
instance : TSl Tryz.prog 99 66 2 := .of (by kernel_rfl) (by kernel_rfl) (by decide)
instance : TOne Tryz.prog 111 := .of (by kernel_rfl) (by kernel_rfl)
instance : TZero Tryz.prog 111 [.map none] := .of (by kernel_rfl)
instance : TElem Tryz.prog 111 (.map none) 1 8 := .of (by kernel_rfl) rfl (by decide)
instance : TInt Tryz.prog 135 .u64 := ⟨by kernel_rfl⟩
instance : TOne Tryz.prog 135 := .of (by kernel_rfl) (by kernel_rfl)
instance : TZero Tryz.prog 135 [.int .u64 0] := .of (by kernel_rfl)
instance : TElem Tryz.prog 135 (.int .u64 0) 1 8 := .of (by kernel_rfl) rfl (by decide)
instance : TZero Tryz.prog 137 [.int .i64 0, .int .u64 0] := .of (by kernel_rfl)
instance : TElem Tryz.prog 137 (.agg #[.int .i64 0, .int .u64 0]) 2 16 := .of (by kernel_rfl) rfl (by decide)
instance : TAgg Tryz.prog 137 2 := .of (by kernel_rfl) (by kernel_rfl)
instance : TBuild Tryz.prog 137 [(0, 1), (1, 1)] [.int .i64 0, .int .u64 0] := .of (by kernel_rfl) (by kernel_rfl)
instance : TEqs Tryz.prog 137 2 := ⟨by kernel_rfl, by kernel_rfl, by kernel_rfl, by kernel_rfl⟩
instance : TFld Tryz.prog 137 0 0 := .of (by kernel_rfl)
instance : TFld Tryz.prog 137 1 1 := .of (by kernel_rfl)
instance : TInt Tryz.prog 158 .u64 := ⟨by kernel_rfl⟩
instance : TOne Tryz.prog 158 := .of (by kernel_rfl) (by kernel_rfl)
instance : TZero Tryz.prog 158 [.int .u64 0] := .of (by kernel_rfl)
instance : TElem Tryz.prog 158 (.int .u64 0) 1 8 := .of (by kernel_rfl) rfl (by decide)
instance : TZero Tryz.prog 167 [.int .i64 0, .int .u64 0] := .of (by kernel_rfl)
instance : TElem Tryz.prog 167 (.agg #[.int .i64 0, .int .u64 0]) 2 16 := .of (by kernel_rfl) rfl (by decide)
instance : TAgg Tryz.prog 167 2 := .of (by kernel_rfl) (by kernel_rfl)
instance : TBuild Tryz.prog 167 [(0, 1), (1, 1)] [.int .i64 0, .int .u64 0] := .of (by kernel_rfl) (by kernel_rfl)
instance : TEqs Tryz.prog 167 2 := ⟨by kernel_rfl, by kernel_rfl, by kernel_rfl, by kernel_rfl⟩
instance : TFld Tryz.prog 167 0 0 := .of (by kernel_rfl)
instance : TFld Tryz.prog 167 1 1 := .of (by kernel_rfl)
instance : TInt Tryz.prog 185 .u32 := ⟨by kernel_rfl⟩
instance : TOne Tryz.prog 185 := .of (by kernel_rfl) (by kernel_rfl)
instance : TZero Tryz.prog 185 [.int .u32 0] := .of (by kernel_rfl)
instance : TElem Tryz.prog 185 (.int .u32 0) 1 4 := .of (by kernel_rfl) rfl (by decide)
theorem mixed : Tryz.prog.follows .mixedOrders = true := by kernel_rfl
theorem mul_bound {x y A B : Int} (hx : -A ≤ x) (hx' : x ≤ A) (hy : -B ≤ y) (hy' : y ≤ B) : -(A * B) ≤ x * y ∧ x * y ≤ A * B := by
  have h1 := Int.mul_nonneg (show 0 ≤ A - x by omega) (show 0 ≤ B - y by omega)
  have h2 := Int.mul_nonneg (show 0 ≤ A + x by omega) (show 0 ≤ B + y by omega)
  have h3 := Int.mul_nonneg (show 0 ≤ A - x by omega) (show 0 ≤ B + y by omega)
  have h4 := Int.mul_nonneg (show 0 ≤ A + x by omega) (show 0 ≤ B - y by omega)
  simp only [Int.sub_mul, Int.mul_sub, Int.add_mul, Int.mul_add] at h1 h2 h3 h4
  omega
theorem mp_pp {x y : Int} (hx : 0 ≤ x) (hx' : x < 18446744073709551616) (hy : 0 ≤ y) (hy' : y < 18446744073709551616) : x % 18446744073709551616 * (y % 18446744073709551616) = x * y := by
  rw [Int.emod_eq_of_lt hx hx', Int.emod_eq_of_lt hy hy']
theorem mp_np {x y : Int} (hx : x < 0) (hx' : -18446744073709551616 ≤ x) (hy : 0 ≤ y) (hy' : y < 18446744073709551616) : x % 18446744073709551616 * (y % 18446744073709551616) = x * y + 18446744073709551616 * y := by
  rw [show x % 18446744073709551616 = x + 18446744073709551616 by omega, Int.emod_eq_of_lt hy hy', Int.add_mul]
theorem mp_pn {x y : Int} (hx : 0 ≤ x) (hx' : x < 18446744073709551616) (hy : y < 0) (hy' : -18446744073709551616 ≤ y) : x % 18446744073709551616 * (y % 18446744073709551616) = x * y + 18446744073709551616 * x := by
  rw [show y % 18446744073709551616 = y + 18446744073709551616 by omega, Int.emod_eq_of_lt hx hx', Int.mul_add]; omega
theorem mp_nn {x y : Int} (hx : x < 0) (hx' : -18446744073709551616 ≤ x) (hy : y < 0) (hy' : -18446744073709551616 ≤ y) : x % 18446744073709551616 * (y % 18446744073709551616) = x * y + 18446744073709551616 * x + 18446744073709551616 * y + 18446744073709551616 * 18446744073709551616 := by
  rw [show y % 18446744073709551616 = y + 18446744073709551616 by omega, show x % 18446744073709551616 = x + 18446744073709551616 by omega, Int.mul_add, Int.add_mul, Int.add_mul]; omega

/-- a number of 128 bits -/
def wideV (v : Int) : Value := .agg #[.int .i64 (v / 18446744073709551616), .int .u64 (v % 18446744073709551616)]
theorem wideV_eq {h l v : Int} (hl : 0 ≤ l) (hl' : l < 18446744073709551616) (hv : h * 18446744073709551616 + l = v) : wideV v = .agg #[.int .i64 h, .int .u64 l] := by
  subst hv
  simp only [wideV]
  congr <;> omega

def renM : Ren := ⟨fun _ => 132, fun | 46 => 158 | 53 => 135 | _ => 0, fun _ => 0⟩
theorem laysM : Lays.n264 Tryz.prog renM where
  mixed := by kernel_rfl
  f264 := by kernel_rfl
  t46 := by kernel_rfl
  a46 := fun w => by kernel_rfl
  z46 := fun w => by kernel_rfl
  v46 := fun w => by kernel_rfl
  t53 := by kernel_rfl
  a53 := fun w => by kernel_rfl
  z53 := fun w => by kernel_rfl
  v53 := fun w => by kernel_rfl
def renA : Ren := ⟨fun | 25 => 133 | _ => 140, fun _ => 135, fun _ => 0⟩
theorem laysA : Lays7.n25 Tryz.prog renA := ⟨by kernel_rfl, by kernel_rfl, by kernel_rfl, fun w => by kernel_rfl, fun w => by kernel_rfl, fun w => by kernel_rfl, by kernel_rfl⟩
theorem laysS : Lays7.n26 Tryz.prog renA := ⟨by kernel_rfl, by kernel_rfl, by kernel_rfl, fun w => by kernel_rfl, fun w => by kernel_rfl, fun w => by kernel_rfl, by kernel_rfl⟩
theorem a_Add64 (x y c : Int) (hx : 0 ≤ x ∧ x < 18446744073709551616) (hy : 0 ≤ y ∧ y < 18446744073709551616) (hc : 0 ≤ c ∧ c ≤ 1) :
    Ans Tryz.prog 133 [.int .u64 x, .int .u64 y, .int .u64 c] (.tuple #[.int .u64 ((x + y + c) % 18446744073709551616), .int .u64 ((x + y + c) / 18446744073709551616)]) := by
  obtain ⟨x, rfl⟩ := Int.eq_ofNat_of_zero_le hx.1
  obtain ⟨y, rfl⟩ := Int.eq_ofNat_of_zero_le hy.1
  obtain ⟨c, rfl⟩ := Int.eq_ofNat_of_zero_le hc.1
  refine .inr fun w => ?_
  have h := Any7.bits_Add64 laysA x y c (by omega) w
  have e1 : (((x + y + c) % 18446744073709551616 : Nat) : Int) = ((x : Int) + y + c) % 18446744073709551616 := by omega
  have e2 : (((x + y + c) / 18446744073709551616 : Nat) : Int) = ((x : Int) + y + c) / 18446744073709551616 := by omega
  rw [e1, e2] at h
  exact h
theorem a_Sub64 (x y c : Int) (hx : 0 ≤ x ∧ x < 18446744073709551616) (hy : 0 ≤ y ∧ y < 18446744073709551616) (hc : 0 ≤ c ∧ c ≤ 1) :
    Ans Tryz.prog 140 [.int .u64 x, .int .u64 y, .int .u64 c] (.tuple #[.int .u64 ((x - y - c) % 18446744073709551616), .int .u64 (-((x - y - c) / 18446744073709551616))]) := by
  obtain ⟨x, rfl⟩ := Int.eq_ofNat_of_zero_le hx.1
  obtain ⟨y, rfl⟩ := Int.eq_ofNat_of_zero_le hy.1
  obtain ⟨c, rfl⟩ := Int.eq_ofNat_of_zero_le hc.1
  refine .inr fun w => ?_
  have h := Any7.bits_Sub64 laysS x y c (by omega) w
  have e1 : (((x + 18446744073709551616 - y - c) % 18446744073709551616 : Nat) : Int) = ((x : Int) - y - c) % 18446744073709551616 := by omega
  have e2 : (((if x < y + c then 1 else 0 : Nat)) : Int) = -(((x : Int) - y - c) / 18446744073709551616) := by split <;> omega
  rw [e1, e2] at h
  exact h
theorem a_Mul64 (x y : Int) (hx : 0 ≤ x ∧ x < 18446744073709551616) (hy : 0 ≤ y ∧ y < 18446744073709551616) :
    Ans Tryz.prog 132 [.int .u64 x, .int .u64 y] (.tuple #[.int .u64 (x * y / 18446744073709551616), .int .u64 (x * y % 18446744073709551616)]) := by
  obtain ⟨x, rfl⟩ := Int.eq_ofNat_of_zero_le hx.1
  obtain ⟨y, rfl⟩ := Int.eq_ofNat_of_zero_le hy.1
  refine .inl ⟨ent_of Tryz.func132 rfl rfl, fun w => (Any.bits_Mul64 laysM x y (by omega) (by omega) w).mono ?_⟩
  rintro e w' ⟨rfl, rfl⟩
  refine ⟨?_, Below.refl _ _⟩
  have e1 : ((x * y / 18446744073709551616 : Nat) : Int) = (x : Int) * y / 18446744073709551616 := by omega
  have e2 : ((x * y % 18446744073709551616 : Nat) : Int) = (x : Int) * y % 18446744073709551616 := by omega
  rw [e1, e2]

end Go.Proofs.YtaijclimdfchfaaGreat
