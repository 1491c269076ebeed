/-
  No cell of these rows narrows 'for every input' (looked for: loops, veiled, ifaces, maps, wideKeys, modest, calm, conditions, laid).
  DERIVED. THE GIVEN ROWS OF THIS SEAT. 11 by the template 'for every input the law returns true; each argument reads behind the call as it read before'; 0 by the template 'total and deterministic' (their statements: YtaijclimdfchfaaTotals.lean).
  GIVEN WITH THE SEED: the statements are not yours to turn. If you find one false, say at which input.
  Laid BY PROGRAM, IN A SANDBOX (cutbox-rows.mjs): the forced cells as the released guide's own fill.sh prints them over the translation ed4d3c538f2011e2… (all of the seat's roots in one cut). By AI agents, Wed Nov 11 2026. No macro, syntax, notation, axiom, sorry.
-/
import Derived.Test.YtaijclimdfchfaaChecked
import GoSem.Claim
import GoSem.ClaimJoined
import GoSem.ClaimMapViews
import Derived.JoinedTies
import Derived.KernelRfl
namespace Go.Proofs.Ytaijclimdfchfaa
/- THE CELL 'sum', in the pinned program and in every row, IS THE sha256 OF THE DUMP (.gsa) THAT YtaijclimdfchfaaProg.lean LOADS. Nothing in Lean hashes anything: it is a label: what it is worth is what the hold of that sum in a sandbox is worth. -/
noncomputable def Try.pinned : Pinned := { name := "ytaijclimdfchfaa", sum := "ed4d3c538f2011e2dc6a47f50046550d0810c898e30c4edb05b974eab519f182", checked := Try.checked }
namespace Rows
def none {H : Type} : Left H := { results := [], args := [] }

/-- 'ductuslaw20.SpansRise': WHATEVER THE INPUT: true; the input reads as it did. -/
def spansRiseSpec : ChangeSpec := { name := "spansRise", fn := fun _ => fun
  | [d1, d2] => { results := [.lit (.bool true)], args := [d1, d2] }
  | _ => none }
def spansRiseRow : OpenClaim := { program := "ytaijclimdfchfaa", sum := "ed4d3c538f2011e2dc6a47f50046550d0810c898e30c4edb05b974eab519f182", func := "ductus/ductuslaw20.SpansRise", spec := "spansRise", inPlace := ["math/bits.Sub64", "math/bits.Add64"], unfollowed := true, recurses := true, named := ["math/bits.divideError", "math/bits.overflowError"], apart := false }
def SpansRiseSaid : Prop := spansRiseRow.holds Try.pinned (OpenSpec.ofChange spansRiseSpec)

/-- ITS FALSE NEIGHBOUR: 'it returns false'. Refute it at one input. -/
def spansRiseWrong : ChangeSpec := { name := "spansRise", fn := fun _ => fun
  | [d1, d2] => { results := [.lit (.bool false)], args := [d1, d2] }
  | _ => none }
def SpansRiseWrongFalsely : Prop := spansRiseRow.holds Try.pinned (OpenSpec.ofChange spansRiseWrong)

/-- 'ductuslaw20.SpansClip': WHATEVER THE INPUT: true; the input reads as it did. -/
def spansClipSpec : ChangeSpec := { name := "spansClip", fn := fun _ => fun
  | [d1, d2, d3, d4] => { results := [.lit (.bool true)], args := [d1, d2, d3, d4] }
  | _ => none }
def spansClipRow : OpenClaim := { program := "ytaijclimdfchfaa", sum := "ed4d3c538f2011e2dc6a47f50046550d0810c898e30c4edb05b974eab519f182", func := "ductus/ductuslaw20.SpansClip", spec := "spansClip", inPlace := ["math/bits.Sub64", "math/bits.Add64"], unfollowed := true, recurses := true, named := ["math/bits.divideError", "math/bits.overflowError"], apart := false }
def SpansClipSaid : Prop := spansClipRow.holds Try.pinned (OpenSpec.ofChange spansClipSpec)

/-- ITS FALSE NEIGHBOUR: 'it returns false'. Refute it at one input. -/
def spansClipWrong : ChangeSpec := { name := "spansClip", fn := fun _ => fun
  | [d1, d2, d3, d4] => { results := [.lit (.bool false)], args := [d1, d2, d3, d4] }
  | _ => none }
def SpansClipWrongFalsely : Prop := spansClipRow.holds Try.pinned (OpenSpec.ofChange spansClipWrong)

/-- 'ductuslaw20.SpansShift': WHATEVER THE INPUT: true; the input reads as it did. -/
def spansShiftSpec : ChangeSpec := { name := "spansShift", fn := fun _ => fun
  | [d1, d2, d3, d4] => { results := [.lit (.bool true)], args := [d1, d2, d3, d4] }
  | _ => none }
def spansShiftRow : OpenClaim := { program := "ytaijclimdfchfaa", sum := "ed4d3c538f2011e2dc6a47f50046550d0810c898e30c4edb05b974eab519f182", func := "ductus/ductuslaw20.SpansShift", spec := "spansShift", inPlace := ["math/bits.Sub64", "math/bits.Add64"], unfollowed := true, recurses := true, named := ["math/bits.divideError", "math/bits.overflowError"], apart := false }
def SpansShiftSaid : Prop := spansShiftRow.holds Try.pinned (OpenSpec.ofChange spansShiftSpec)

/-- ITS FALSE NEIGHBOUR: 'it returns false'. Refute it at one input. -/
def spansShiftWrong : ChangeSpec := { name := "spansShift", fn := fun _ => fun
  | [d1, d2, d3, d4] => { results := [.lit (.bool false)], args := [d1, d2, d3, d4] }
  | _ => none }
def SpansShiftWrongFalsely : Prop := spansShiftRow.holds Try.pinned (OpenSpec.ofChange spansShiftWrong)

/-- 'ductuslaw21.CoverViews': WHATEVER THE INPUT: true; the input reads as it did. -/
def coverViewsSpec : ChangeSpec := { name := "coverViews", fn := fun _ => fun
  | [d1, d2, d3, d4, d5, d6, d7, d8, d9] => { results := [.lit (.bool true)], args := [d1, d2, d3, d4, d5, d6, d7, d8, d9] }
  | _ => none }
def coverViewsRow : OpenClaim := { program := "ytaijclimdfchfaa", sum := "ed4d3c538f2011e2dc6a47f50046550d0810c898e30c4edb05b974eab519f182", func := "ductus/ductuslaw21.CoverViews", spec := "coverViews", inPlace := ["math/bits.Sub64", "math/bits.Add64"], unfollowed := true, recurses := true, named := ["math/bits.divideError", "math/bits.overflowError"], apart := false }
def CoverViewsSaid : Prop := coverViewsRow.holds Try.pinned (OpenSpec.ofChange coverViewsSpec)

/-- ITS FALSE NEIGHBOUR: 'it returns false'. Refute it at one input. -/
def coverViewsWrong : ChangeSpec := { name := "coverViews", fn := fun _ => fun
  | [d1, d2, d3, d4, d5, d6, d7, d8, d9] => { results := [.lit (.bool false)], args := [d1, d2, d3, d4, d5, d6, d7, d8, d9] }
  | _ => none }
def CoverViewsWrongFalsely : Prop := coverViewsRow.holds Try.pinned (OpenSpec.ofChange coverViewsWrong)

/-- 'ductuslaw21.CoverWhole': WHATEVER THE INPUT: true; the input reads as it did. -/
def coverWholeSpec : ChangeSpec := { name := "coverWhole", fn := fun _ => fun
  | [d1, d2, d3, d4, d5, d6] => { results := [.lit (.bool true)], args := [d1, d2, d3, d4, d5, d6] }
  | _ => none }
def coverWholeRow : OpenClaim := { program := "ytaijclimdfchfaa", sum := "ed4d3c538f2011e2dc6a47f50046550d0810c898e30c4edb05b974eab519f182", func := "ductus/ductuslaw21.CoverWhole", spec := "coverWhole", inPlace := ["math/bits.Sub64", "math/bits.Add64"], unfollowed := true, recurses := true, named := ["math/bits.divideError", "math/bits.overflowError"], apart := false }
def CoverWholeSaid : Prop := coverWholeRow.holds Try.pinned (OpenSpec.ofChange coverWholeSpec)

/-- ITS FALSE NEIGHBOUR: 'it returns false'. Refute it at one input. -/
def coverWholeWrong : ChangeSpec := { name := "coverWhole", fn := fun _ => fun
  | [d1, d2, d3, d4, d5, d6] => { results := [.lit (.bool false)], args := [d1, d2, d3, d4, d5, d6] }
  | _ => none }
def CoverWholeWrongFalsely : Prop := coverWholeRow.holds Try.pinned (OpenSpec.ofChange coverWholeWrong)

/-- 'ductuslaw21.CoverBoxes': WHATEVER THE INPUT: true; the input reads as it did. -/
def coverBoxesSpec : ChangeSpec := { name := "coverBoxes", fn := fun _ => fun
  | [d1, d2, d3, d4, d5, d6] => { results := [.lit (.bool true)], args := [d1, d2, d3, d4, d5, d6] }
  | _ => none }
def coverBoxesRow : OpenClaim := { program := "ytaijclimdfchfaa", sum := "ed4d3c538f2011e2dc6a47f50046550d0810c898e30c4edb05b974eab519f182", func := "ductus/ductuslaw21.CoverBoxes", spec := "coverBoxes", inPlace := ["math/bits.Sub64", "math/bits.Add64"], unfollowed := true, recurses := true, named := ["math/bits.divideError", "math/bits.overflowError"], apart := false }
def CoverBoxesSaid : Prop := coverBoxesRow.holds Try.pinned (OpenSpec.ofChange coverBoxesSpec)

/-- ITS FALSE NEIGHBOUR: 'it returns false'. Refute it at one input. -/
def coverBoxesWrong : ChangeSpec := { name := "coverBoxes", fn := fun _ => fun
  | [d1, d2, d3, d4, d5, d6] => { results := [.lit (.bool false)], args := [d1, d2, d3, d4, d5, d6] }
  | _ => none }
def CoverBoxesWrongFalsely : Prop := coverBoxesRow.holds Try.pinned (OpenSpec.ofChange coverBoxesWrong)

/-- 'ductuslaw21.CoverShifts': WHATEVER THE INPUT: true; the input reads as it did. -/
def coverShiftsSpec : ChangeSpec := { name := "coverShifts", fn := fun _ => fun
  | [d1, d2, d3, d4, d5, d6, d7] => { results := [.lit (.bool true)], args := [d1, d2, d3, d4, d5, d6, d7] }
  | _ => none }
def coverShiftsRow : OpenClaim := { program := "ytaijclimdfchfaa", sum := "ed4d3c538f2011e2dc6a47f50046550d0810c898e30c4edb05b974eab519f182", func := "ductus/ductuslaw21.CoverShifts", spec := "coverShifts", inPlace := ["math/bits.Sub64", "math/bits.Add64"], unfollowed := true, recurses := true, named := ["math/bits.divideError", "math/bits.overflowError"], apart := false }
def CoverShiftsSaid : Prop := coverShiftsRow.holds Try.pinned (OpenSpec.ofChange coverShiftsSpec)

/-- ITS FALSE NEIGHBOUR: 'it returns false'. Refute it at one input. -/
def coverShiftsWrong : ChangeSpec := { name := "coverShifts", fn := fun _ => fun
  | [d1, d2, d3, d4, d5, d6, d7] => { results := [.lit (.bool false)], args := [d1, d2, d3, d4, d5, d6, d7] }
  | _ => none }
def CoverShiftsWrongFalsely : Prop := coverShiftsRow.holds Try.pinned (OpenSpec.ofChange coverShiftsWrong)

/-- 'ductuslaw21.CoverValues': WHATEVER THE INPUT: true; the input reads as it did. -/
def coverValuesSpec : ChangeSpec := { name := "coverValues", fn := fun _ => fun
  | [d1, d2, d3, d4] => { results := [.lit (.bool true)], args := [d1, d2, d3, d4] }
  | _ => none }
def coverValuesRow : OpenClaim := { program := "ytaijclimdfchfaa", sum := "ed4d3c538f2011e2dc6a47f50046550d0810c898e30c4edb05b974eab519f182", func := "ductus/ductuslaw21.CoverValues", spec := "coverValues", inPlace := ["math/bits.Sub64", "math/bits.Add64"], unfollowed := true, recurses := true, named := ["math/bits.divideError", "math/bits.overflowError"], apart := false }
def CoverValuesSaid : Prop := coverValuesRow.holds Try.pinned (OpenSpec.ofChange coverValuesSpec)

/-- ITS FALSE NEIGHBOUR: 'it returns false'. Refute it at one input. -/
def coverValuesWrong : ChangeSpec := { name := "coverValues", fn := fun _ => fun
  | [d1, d2, d3, d4] => { results := [.lit (.bool false)], args := [d1, d2, d3, d4] }
  | _ => none }
def CoverValuesWrongFalsely : Prop := coverValuesRow.holds Try.pinned (OpenSpec.ofChange coverValuesWrong)

/-- 'ductuslaw21.CoverCrops': WHATEVER THE INPUT: true; the input reads as it did. -/
def coverCropsSpec : ChangeSpec := { name := "coverCrops", fn := fun _ => fun
  | [d1, d2, d3, d4, d5, d6, d7, d8, d9] => { results := [.lit (.bool true)], args := [d1, d2, d3, d4, d5, d6, d7, d8, d9] }
  | _ => none }
def coverCropsRow : OpenClaim := { program := "ytaijclimdfchfaa", sum := "ed4d3c538f2011e2dc6a47f50046550d0810c898e30c4edb05b974eab519f182", func := "ductus/ductuslaw21.CoverCrops", spec := "coverCrops", inPlace := ["math/bits.Sub64", "math/bits.Add64"], unfollowed := true, recurses := true, named := ["math/bits.divideError", "math/bits.overflowError"], apart := false }
def CoverCropsSaid : Prop := coverCropsRow.holds Try.pinned (OpenSpec.ofChange coverCropsSpec)

/-- ITS FALSE NEIGHBOUR: 'it returns false'. Refute it at one input. -/
def coverCropsWrong : ChangeSpec := { name := "coverCrops", fn := fun _ => fun
  | [d1, d2, d3, d4, d5, d6, d7, d8, d9] => { results := [.lit (.bool false)], args := [d1, d2, d3, d4, d5, d6, d7, d8, d9] }
  | _ => none }
def CoverCropsWrongFalsely : Prop := coverCropsRow.holds Try.pinned (OpenSpec.ofChange coverCropsWrong)

/-- 'ductuslaw20.SpansConvex': WHATEVER THE INPUT: true; the input reads as it did. -/
def spansConvexSpec : ChangeSpec := { name := "spansConvex", fn := fun _ => fun
  | [d1, d2, d3, d4] => { results := [.lit (.bool true)], args := [d1, d2, d3, d4] }
  | _ => none }
def spansConvexRow : OpenClaim := { program := "ytaijclimdfchfaa", sum := "ed4d3c538f2011e2dc6a47f50046550d0810c898e30c4edb05b974eab519f182", func := "ductus/ductuslaw20.SpansConvex", spec := "spansConvex", inPlace := ["math/bits.Sub64", "math/bits.Add64"], unfollowed := true, recurses := true, named := ["math/bits.divideError", "math/bits.overflowError"], apart := false }
def SpansConvexSaid : Prop := spansConvexRow.holds Try.pinned (OpenSpec.ofChange spansConvexSpec)

/-- ITS FALSE NEIGHBOUR: 'it returns false'. Refute it at one input. -/
def spansConvexWrong : ChangeSpec := { name := "spansConvex", fn := fun _ => fun
  | [d1, d2, d3, d4] => { results := [.lit (.bool false)], args := [d1, d2, d3, d4] }
  | _ => none }
def SpansConvexWrongFalsely : Prop := spansConvexRow.holds Try.pinned (OpenSpec.ofChange spansConvexWrong)

/-- 'ductuslaw21.CoverMore': WHATEVER THE INPUT: true; the input reads as it did. -/
def coverMoreSpec : ChangeSpec := { name := "coverMore", fn := fun _ => fun
  | [d1, d2, d3, d4, d5, d6] => { results := [.lit (.bool true)], args := [d1, d2, d3, d4, d5, d6] }
  | _ => none }
def coverMoreRow : OpenClaim := { program := "ytaijclimdfchfaa", sum := "ed4d3c538f2011e2dc6a47f50046550d0810c898e30c4edb05b974eab519f182", func := "ductus/ductuslaw21.CoverMore", spec := "coverMore", inPlace := ["math/bits.Sub64", "math/bits.Add64"], unfollowed := true, recurses := true, named := ["math/bits.divideError", "math/bits.overflowError"], apart := false }
def CoverMoreSaid : Prop := coverMoreRow.holds Try.pinned (OpenSpec.ofChange coverMoreSpec)

/-- ITS FALSE NEIGHBOUR: 'it returns false'. Refute it at one input. -/
def coverMoreWrong : ChangeSpec := { name := "coverMore", fn := fun _ => fun
  | [d1, d2, d3, d4, d5, d6] => { results := [.lit (.bool false)], args := [d1, d2, d3, d4, d5, d6] }
  | _ => none }
def CoverMoreWrongFalsely : Prop := coverMoreRow.holds Try.pinned (OpenSpec.ofChange coverMoreWrong)

/- THE SECOND FORM. 'bulk': how many values and letters a reading holds, each counted each time it is reached (what is shared counts as often as it is met; a slice's spare places count too). A statement '..UptoSaid' is the law's where the arguments, and the package variables that the reading takes, are together of bulk at most 1048576: NARROWER than '..Said'. Prove '..Said' where nothing that the law and all that it calls make is longer than what came in: it says more and counts as full. Else prove '..UptoSaid'. A law counts once. -/
mutual
def uptoBulk {H : Type} : DataW H → Nat
  | .lit (.string bytes) => bytes.length + 1
  | .lit _ => 1
  | .nil => 1
  | .ptr d => uptoBulk d + 1
  | .slice elems spare => uptoBulkAll elems + uptoBulkAll spare + 1
  | .agg parts => uptoBulkAll parts + 1
  | .iface _ d => uptoBulk d + 1
  | .map entries => uptoBulkEntries entries + 1
  | .held _ => 1
def uptoBulkAll {H : Type} : List (DataW H) → Nat
  | [] => 0
  | d :: r => uptoBulk d + uptoBulkAll r
def uptoBulkEntries {H : Type} : List (Lit × DataW H) → Nat
  | [] => 0
  | x :: r => uptoBulkEntry x + uptoBulkEntries r
def uptoBulkEntry {H : Type} : Lit × DataW H → Nat
  | (.string bytes, d) => bytes.length + uptoBulk d + 1
  | (_, d) => uptoBulk d + 1
 end
def uptoSmall : (H : Type) → List (DataW H) → Bool := fun _ ds => decide (uptoBulkAll ds ≤ 1048576)
def OpenSpec.upto (s : _root_.Go.ChangeSpec) : _root_.Go.OpenSpec := { _root_.Go.OpenSpec.ofChange s with cond := some uptoSmall }

/-- 'ductuslaw20.SpansRise', WHERE WHAT IT READS IS OF BULK AT MOST 1048576: true; the input reads as it did. -/
def spansRiseUptoRow : OpenClaim := { program := "ytaijclimdfchfaa", sum := "ed4d3c538f2011e2dc6a47f50046550d0810c898e30c4edb05b974eab519f182", func := "ductus/ductuslaw20.SpansRise", spec := "spansRise", inPlace := ["math/bits.Sub64", "math/bits.Add64"], unfollowed := true, recurses := true, named := ["math/bits.divideError", "math/bits.overflowError"], apart := false, narrowed := true }
def SpansRiseUptoSaid : Prop := spansRiseUptoRow.holds Try.pinned (OpenSpec.upto spansRiseSpec)

/-- 'ductuslaw20.SpansClip', WHERE WHAT IT READS IS OF BULK AT MOST 1048576: true; the input reads as it did. -/
def spansClipUptoRow : OpenClaim := { program := "ytaijclimdfchfaa", sum := "ed4d3c538f2011e2dc6a47f50046550d0810c898e30c4edb05b974eab519f182", func := "ductus/ductuslaw20.SpansClip", spec := "spansClip", inPlace := ["math/bits.Sub64", "math/bits.Add64"], unfollowed := true, recurses := true, named := ["math/bits.divideError", "math/bits.overflowError"], apart := false, narrowed := true }
def SpansClipUptoSaid : Prop := spansClipUptoRow.holds Try.pinned (OpenSpec.upto spansClipSpec)

/-- 'ductuslaw20.SpansShift', WHERE WHAT IT READS IS OF BULK AT MOST 1048576: true; the input reads as it did. -/
def spansShiftUptoRow : OpenClaim := { program := "ytaijclimdfchfaa", sum := "ed4d3c538f2011e2dc6a47f50046550d0810c898e30c4edb05b974eab519f182", func := "ductus/ductuslaw20.SpansShift", spec := "spansShift", inPlace := ["math/bits.Sub64", "math/bits.Add64"], unfollowed := true, recurses := true, named := ["math/bits.divideError", "math/bits.overflowError"], apart := false, narrowed := true }
def SpansShiftUptoSaid : Prop := spansShiftUptoRow.holds Try.pinned (OpenSpec.upto spansShiftSpec)

/-- 'ductuslaw21.CoverViews', WHERE WHAT IT READS IS OF BULK AT MOST 1048576: true; the input reads as it did. -/
def coverViewsUptoRow : OpenClaim := { program := "ytaijclimdfchfaa", sum := "ed4d3c538f2011e2dc6a47f50046550d0810c898e30c4edb05b974eab519f182", func := "ductus/ductuslaw21.CoverViews", spec := "coverViews", inPlace := ["math/bits.Sub64", "math/bits.Add64"], unfollowed := true, recurses := true, named := ["math/bits.divideError", "math/bits.overflowError"], apart := false, narrowed := true }
def CoverViewsUptoSaid : Prop := coverViewsUptoRow.holds Try.pinned (OpenSpec.upto coverViewsSpec)

/-- 'ductuslaw21.CoverWhole', WHERE WHAT IT READS IS OF BULK AT MOST 1048576: true; the input reads as it did. -/
def coverWholeUptoRow : OpenClaim := { program := "ytaijclimdfchfaa", sum := "ed4d3c538f2011e2dc6a47f50046550d0810c898e30c4edb05b974eab519f182", func := "ductus/ductuslaw21.CoverWhole", spec := "coverWhole", inPlace := ["math/bits.Sub64", "math/bits.Add64"], unfollowed := true, recurses := true, named := ["math/bits.divideError", "math/bits.overflowError"], apart := false, narrowed := true }
def CoverWholeUptoSaid : Prop := coverWholeUptoRow.holds Try.pinned (OpenSpec.upto coverWholeSpec)

/-- 'ductuslaw21.CoverBoxes', WHERE WHAT IT READS IS OF BULK AT MOST 1048576: true; the input reads as it did. -/
def coverBoxesUptoRow : OpenClaim := { program := "ytaijclimdfchfaa", sum := "ed4d3c538f2011e2dc6a47f50046550d0810c898e30c4edb05b974eab519f182", func := "ductus/ductuslaw21.CoverBoxes", spec := "coverBoxes", inPlace := ["math/bits.Sub64", "math/bits.Add64"], unfollowed := true, recurses := true, named := ["math/bits.divideError", "math/bits.overflowError"], apart := false, narrowed := true }
def CoverBoxesUptoSaid : Prop := coverBoxesUptoRow.holds Try.pinned (OpenSpec.upto coverBoxesSpec)

/-- 'ductuslaw21.CoverShifts', WHERE WHAT IT READS IS OF BULK AT MOST 1048576: true; the input reads as it did. -/
def coverShiftsUptoRow : OpenClaim := { program := "ytaijclimdfchfaa", sum := "ed4d3c538f2011e2dc6a47f50046550d0810c898e30c4edb05b974eab519f182", func := "ductus/ductuslaw21.CoverShifts", spec := "coverShifts", inPlace := ["math/bits.Sub64", "math/bits.Add64"], unfollowed := true, recurses := true, named := ["math/bits.divideError", "math/bits.overflowError"], apart := false, narrowed := true }
def CoverShiftsUptoSaid : Prop := coverShiftsUptoRow.holds Try.pinned (OpenSpec.upto coverShiftsSpec)

/-- 'ductuslaw21.CoverValues', WHERE WHAT IT READS IS OF BULK AT MOST 1048576: true; the input reads as it did. -/
def coverValuesUptoRow : OpenClaim := { program := "ytaijclimdfchfaa", sum := "ed4d3c538f2011e2dc6a47f50046550d0810c898e30c4edb05b974eab519f182", func := "ductus/ductuslaw21.CoverValues", spec := "coverValues", inPlace := ["math/bits.Sub64", "math/bits.Add64"], unfollowed := true, recurses := true, named := ["math/bits.divideError", "math/bits.overflowError"], apart := false, narrowed := true }
def CoverValuesUptoSaid : Prop := coverValuesUptoRow.holds Try.pinned (OpenSpec.upto coverValuesSpec)

/-- 'ductuslaw21.CoverCrops', WHERE WHAT IT READS IS OF BULK AT MOST 1048576: true; the input reads as it did. -/
def coverCropsUptoRow : OpenClaim := { program := "ytaijclimdfchfaa", sum := "ed4d3c538f2011e2dc6a47f50046550d0810c898e30c4edb05b974eab519f182", func := "ductus/ductuslaw21.CoverCrops", spec := "coverCrops", inPlace := ["math/bits.Sub64", "math/bits.Add64"], unfollowed := true, recurses := true, named := ["math/bits.divideError", "math/bits.overflowError"], apart := false, narrowed := true }
def CoverCropsUptoSaid : Prop := coverCropsUptoRow.holds Try.pinned (OpenSpec.upto coverCropsSpec)

/-- 'ductuslaw20.SpansConvex', WHERE WHAT IT READS IS OF BULK AT MOST 1048576: true; the input reads as it did. -/
def spansConvexUptoRow : OpenClaim := { program := "ytaijclimdfchfaa", sum := "ed4d3c538f2011e2dc6a47f50046550d0810c898e30c4edb05b974eab519f182", func := "ductus/ductuslaw20.SpansConvex", spec := "spansConvex", inPlace := ["math/bits.Sub64", "math/bits.Add64"], unfollowed := true, recurses := true, named := ["math/bits.divideError", "math/bits.overflowError"], apart := false, narrowed := true }
def SpansConvexUptoSaid : Prop := spansConvexUptoRow.holds Try.pinned (OpenSpec.upto spansConvexSpec)

/-- 'ductuslaw21.CoverMore', WHERE WHAT IT READS IS OF BULK AT MOST 1048576: true; the input reads as it did. -/
def coverMoreUptoRow : OpenClaim := { program := "ytaijclimdfchfaa", sum := "ed4d3c538f2011e2dc6a47f50046550d0810c898e30c4edb05b974eab519f182", func := "ductus/ductuslaw21.CoverMore", spec := "coverMore", inPlace := ["math/bits.Sub64", "math/bits.Add64"], unfollowed := true, recurses := true, named := ["math/bits.divideError", "math/bits.overflowError"], apart := false, narrowed := true }
def CoverMoreUptoSaid : Prop := coverMoreUptoRow.holds Try.pinned (OpenSpec.upto coverMoreSpec)

end Rows
end Go.Proofs.Ytaijclimdfchfaa
