/-
  No cell of these rows narrows 'for every input' (looked for: loops, veiled, ifaces, maps, wideKeys, modest, calm, conditions, laid).
  DERIVED. THE GIVEN ROWS OF THIS SEAT. 7 by the template 'for every input the law returns true; each argument reads behind the call as it read before'; 0 by the template 'total and deterministic' (their statements: YtegfonghlpbgdaaTotals.lean).
  GIVEN WITH THE SEED: the statements are not yours to turn. If you find one false, say at which input.
  Laid BY PROGRAM, IN A SANDBOX (cutbox-rows.mjs): the forced cells as the released guide's own fill.sh prints them over the translation e2380e06a62c6177… (all of the seat's roots in one cut). By AI agents, Wed Nov 11 2026. No macro, syntax, notation, axiom, sorry.
-/
import Derived.Test.YtegfonghlpbgdaaChecked
import GoSem.Claim
import GoSem.ClaimJoined
import GoSem.ClaimMapViews
import Derived.JoinedTies
import Derived.KernelRfl
namespace Go.Proofs.Ytegfonghlpbgdaa
/- THE CELL 'sum', in the pinned program and in every row, IS THE sha256 OF THE DUMP (.gsa) THAT YtegfonghlpbgdaaProg.lean LOADS. Nothing in Lean hashes anything: it is a label: what it is worth is what the hold of that sum in a sandbox is worth. -/
noncomputable def Try.pinned : Pinned := { name := "ytegfonghlpbgdaa", sum := "e2380e06a62c617772fa494ba87cc234ce5e2cf1b1a6db5df813c3651e15a3b9", checked := Try.checked }
namespace Rows
def none {H : Type} : Left H := { results := [], args := [] }

/-- 'ductuslaw19.EdgesAt': WHATEVER THE INPUT: true; the input reads as it did. -/
def edgesAtSpec : ChangeSpec := { name := "edgesAt", fn := fun _ => fun
  | [d1, d2, d3] => { results := [.lit (.bool true)], args := [d1, d2, d3] }
  | _ => none }
def edgesAtRow : OpenClaim := { program := "ytegfonghlpbgdaa", sum := "e2380e06a62c617772fa494ba87cc234ce5e2cf1b1a6db5df813c3651e15a3b9", func := "ductus/ductuslaw19.EdgesAt", spec := "edgesAt", inPlace := ["math/bits.Sub64", "math/bits.Add64"], unfollowed := true, recurses := true, named := ["math/bits.divideError", "math/bits.overflowError"], apart := false }
def EdgesAtSaid : Prop := edgesAtRow.holds Try.pinned (OpenSpec.ofChange edgesAtSpec)

/-- ITS FALSE NEIGHBOUR: 'it returns false'. Refute it at one input. -/
def edgesAtWrong : ChangeSpec := { name := "edgesAt", fn := fun _ => fun
  | [d1, d2, d3] => { results := [.lit (.bool false)], args := [d1, d2, d3] }
  | _ => none }
def EdgesAtWrongFalsely : Prop := edgesAtRow.holds Try.pinned (OpenSpec.ofChange edgesAtWrong)

/-- 'ductuslaw19.EdgesWind': WHATEVER THE INPUT: true; the input reads as it did. -/
def edgesWindSpec : ChangeSpec := { name := "edgesWind", fn := fun _ => fun
  | [d1, d2] => { results := [.lit (.bool true)], args := [d1, d2] }
  | _ => none }
def edgesWindRow : OpenClaim := { program := "ytegfonghlpbgdaa", sum := "e2380e06a62c617772fa494ba87cc234ce5e2cf1b1a6db5df813c3651e15a3b9", func := "ductus/ductuslaw19.EdgesWind", spec := "edgesWind", inPlace := ["math/bits.Sub64", "math/bits.Add64"], unfollowed := true, recurses := true, named := ["math/bits.divideError", "math/bits.overflowError"], apart := false }
def EdgesWindSaid : Prop := edgesWindRow.holds Try.pinned (OpenSpec.ofChange edgesWindSpec)

/-- ITS FALSE NEIGHBOUR: 'it returns false'. Refute it at one input. -/
def edgesWindWrong : ChangeSpec := { name := "edgesWind", fn := fun _ => fun
  | [d1, d2] => { results := [.lit (.bool false)], args := [d1, d2] }
  | _ => none }
def EdgesWindWrongFalsely : Prop := edgesWindRow.holds Try.pinned (OpenSpec.ofChange edgesWindWrong)

/-- 'ductuslaw19.EdgesShift': WHATEVER THE INPUT: true; the input reads as it did. -/
def edgesShiftSpec : ChangeSpec := { name := "edgesShift", fn := fun _ => fun
  | [d1, d2, d3, d4] => { results := [.lit (.bool true)], args := [d1, d2, d3, d4] }
  | _ => none }
def edgesShiftRow : OpenClaim := { program := "ytegfonghlpbgdaa", sum := "e2380e06a62c617772fa494ba87cc234ce5e2cf1b1a6db5df813c3651e15a3b9", func := "ductus/ductuslaw19.EdgesShift", spec := "edgesShift", inPlace := ["math/bits.Sub64", "math/bits.Add64"], unfollowed := true, recurses := true, named := ["math/bits.divideError", "math/bits.overflowError"], apart := false }
def EdgesShiftSaid : Prop := edgesShiftRow.holds Try.pinned (OpenSpec.ofChange edgesShiftSpec)

/-- ITS FALSE NEIGHBOUR: 'it returns false'. Refute it at one input. -/
def edgesShiftWrong : ChangeSpec := { name := "edgesShift", fn := fun _ => fun
  | [d1, d2, d3, d4] => { results := [.lit (.bool false)], args := [d1, d2, d3, d4] }
  | _ => none }
def EdgesShiftWrongFalsely : Prop := edgesShiftRow.holds Try.pinned (OpenSpec.ofChange edgesShiftWrong)

/-- 'ductuslaw19.EdgesRows': WHATEVER THE INPUT: true; the input reads as it did. -/
def edgesRowsSpec : ChangeSpec := { name := "edgesRows", fn := fun _ => fun
  | [d] => { results := [.lit (.bool true)], args := [d] }
  | _ => none }
def edgesRowsRow : OpenClaim := { program := "ytegfonghlpbgdaa", sum := "e2380e06a62c617772fa494ba87cc234ce5e2cf1b1a6db5df813c3651e15a3b9", func := "ductus/ductuslaw19.EdgesRows", spec := "edgesRows", inPlace := ["math/bits.Sub64", "math/bits.Add64"], unfollowed := true, recurses := true, named := ["math/bits.divideError", "math/bits.overflowError"], apart := false }
def EdgesRowsSaid : Prop := edgesRowsRow.holds Try.pinned (OpenSpec.ofChange edgesRowsSpec)

/-- ITS FALSE NEIGHBOUR: 'it returns false'. Refute it at one input. -/
def edgesRowsWrong : ChangeSpec := { name := "edgesRows", fn := fun _ => fun
  | [d] => { results := [.lit (.bool false)], args := [d] }
  | _ => none }
def EdgesRowsWrongFalsely : Prop := edgesRowsRow.holds Try.pinned (OpenSpec.ofChange edgesRowsWrong)

/-- 'ductuslaw19.EdgesTurned': WHATEVER THE INPUT: true; the input reads as it did. -/
def edgesTurnedSpec : ChangeSpec := { name := "edgesTurned", fn := fun _ => fun
  | [d] => { results := [.lit (.bool true)], args := [d] }
  | _ => none }
def edgesTurnedRow : OpenClaim := { program := "ytegfonghlpbgdaa", sum := "e2380e06a62c617772fa494ba87cc234ce5e2cf1b1a6db5df813c3651e15a3b9", func := "ductus/ductuslaw19.EdgesTurned", spec := "edgesTurned", inPlace := ["math/bits.Sub64", "math/bits.Add64"], unfollowed := true, recurses := true, named := ["math/bits.divideError", "math/bits.overflowError"], apart := false }
def EdgesTurnedSaid : Prop := edgesTurnedRow.holds Try.pinned (OpenSpec.ofChange edgesTurnedSpec)

/-- ITS FALSE NEIGHBOUR: 'it returns false'. Refute it at one input. -/
def edgesTurnedWrong : ChangeSpec := { name := "edgesTurned", fn := fun _ => fun
  | [d] => { results := [.lit (.bool false)], args := [d] }
  | _ => none }
def EdgesTurnedWrongFalsely : Prop := edgesTurnedRow.holds Try.pinned (OpenSpec.ofChange edgesTurnedWrong)

/-- 'ductuslaw19.EdgesTells': WHATEVER THE INPUT: true; the input reads as it did. -/
def edgesTellsSpec : ChangeSpec := { name := "edgesTells", fn := fun _ => fun
  | [d1, d2, d3, d4] => { results := [.lit (.bool true)], args := [d1, d2, d3, d4] }
  | _ => none }
def edgesTellsRow : OpenClaim := { program := "ytegfonghlpbgdaa", sum := "e2380e06a62c617772fa494ba87cc234ce5e2cf1b1a6db5df813c3651e15a3b9", func := "ductus/ductuslaw19.EdgesTells", spec := "edgesTells", inPlace := ["math/bits.Sub64", "math/bits.Add64"], unfollowed := true, recurses := true, named := ["math/bits.divideError", "math/bits.overflowError"], apart := false }
def EdgesTellsSaid : Prop := edgesTellsRow.holds Try.pinned (OpenSpec.ofChange edgesTellsSpec)

/-- ITS FALSE NEIGHBOUR: 'it returns false'. Refute it at one input. -/
def edgesTellsWrong : ChangeSpec := { name := "edgesTells", fn := fun _ => fun
  | [d1, d2, d3, d4] => { results := [.lit (.bool false)], args := [d1, d2, d3, d4] }
  | _ => none }
def EdgesTellsWrongFalsely : Prop := edgesTellsRow.holds Try.pinned (OpenSpec.ofChange edgesTellsWrong)

/-- 'ductuslaw19.EdgesCut': WHATEVER THE INPUT: true; the input reads as it did. -/
def edgesCutSpec : ChangeSpec := { name := "edgesCut", fn := fun _ => fun
  | [d1, d2] => { results := [.lit (.bool true)], args := [d1, d2] }
  | _ => none }
def edgesCutRow : OpenClaim := { program := "ytegfonghlpbgdaa", sum := "e2380e06a62c617772fa494ba87cc234ce5e2cf1b1a6db5df813c3651e15a3b9", func := "ductus/ductuslaw19.EdgesCut", spec := "edgesCut", inPlace := ["math/bits.Sub64", "math/bits.Add64"], unfollowed := true, recurses := true, named := ["math/bits.divideError", "math/bits.overflowError"], apart := false }
def EdgesCutSaid : Prop := edgesCutRow.holds Try.pinned (OpenSpec.ofChange edgesCutSpec)

/-- ITS FALSE NEIGHBOUR: 'it returns false'. Refute it at one input. -/
def edgesCutWrong : ChangeSpec := { name := "edgesCut", fn := fun _ => fun
  | [d1, d2] => { results := [.lit (.bool false)], args := [d1, d2] }
  | _ => none }
def EdgesCutWrongFalsely : Prop := edgesCutRow.holds Try.pinned (OpenSpec.ofChange edgesCutWrong)

/- THE SECOND FORM. 'bulk': how many values and letters a reading holds, each counted each time it is reached (what is shared counts as often as it is met; a slice's spare places count too). A statement '..UptoSaid' is the law's where the arguments, and the package variables that the reading takes, are together of bulk at most 1048576: NARROWER than '..Said'. Prove '..Said' where nothing that the law and all that it calls make is longer than what came in: it says more and counts as full. Else prove '..UptoSaid'. A law counts once. -/
mutual
def uptoBulk {H : Type} : DataW H → Nat
  | .lit (.string bytes) => bytes.length + 1
  | .lit _ => 1
  | .nil => 1
  | .ptr d => uptoBulk d + 1
  | .slice elems spare => uptoBulkAll elems + uptoBulkAll spare + 1
  | .agg parts => uptoBulkAll parts + 1
  | .iface _ d => uptoBulk d + 1
  | .map entries => uptoBulkEntries entries + 1
  | .held _ => 1
def uptoBulkAll {H : Type} : List (DataW H) → Nat
  | [] => 0
  | d :: r => uptoBulk d + uptoBulkAll r
def uptoBulkEntries {H : Type} : List (Lit × DataW H) → Nat
  | [] => 0
  | x :: r => uptoBulkEntry x + uptoBulkEntries r
def uptoBulkEntry {H : Type} : Lit × DataW H → Nat
  | (.string bytes, d) => bytes.length + uptoBulk d + 1
  | (_, d) => uptoBulk d + 1
 end
def uptoSmall : (H : Type) → List (DataW H) → Bool := fun _ ds => decide (uptoBulkAll ds ≤ 1048576)
def OpenSpec.upto (s : _root_.Go.ChangeSpec) : _root_.Go.OpenSpec := { _root_.Go.OpenSpec.ofChange s with cond := some uptoSmall }

/-- 'ductuslaw19.EdgesAt', WHERE WHAT IT READS IS OF BULK AT MOST 1048576: true; the input reads as it did. -/
def edgesAtUptoRow : OpenClaim := { program := "ytegfonghlpbgdaa", sum := "e2380e06a62c617772fa494ba87cc234ce5e2cf1b1a6db5df813c3651e15a3b9", func := "ductus/ductuslaw19.EdgesAt", spec := "edgesAt", inPlace := ["math/bits.Sub64", "math/bits.Add64"], unfollowed := true, recurses := true, named := ["math/bits.divideError", "math/bits.overflowError"], apart := false, narrowed := true }
def EdgesAtUptoSaid : Prop := edgesAtUptoRow.holds Try.pinned (OpenSpec.upto edgesAtSpec)

/-- 'ductuslaw19.EdgesWind', WHERE WHAT IT READS IS OF BULK AT MOST 1048576: true; the input reads as it did. -/
def edgesWindUptoRow : OpenClaim := { program := "ytegfonghlpbgdaa", sum := "e2380e06a62c617772fa494ba87cc234ce5e2cf1b1a6db5df813c3651e15a3b9", func := "ductus/ductuslaw19.EdgesWind", spec := "edgesWind", inPlace := ["math/bits.Sub64", "math/bits.Add64"], unfollowed := true, recurses := true, named := ["math/bits.divideError", "math/bits.overflowError"], apart := false, narrowed := true }
def EdgesWindUptoSaid : Prop := edgesWindUptoRow.holds Try.pinned (OpenSpec.upto edgesWindSpec)

/-- 'ductuslaw19.EdgesShift', WHERE WHAT IT READS IS OF BULK AT MOST 1048576: true; the input reads as it did. -/
def edgesShiftUptoRow : OpenClaim := { program := "ytegfonghlpbgdaa", sum := "e2380e06a62c617772fa494ba87cc234ce5e2cf1b1a6db5df813c3651e15a3b9", func := "ductus/ductuslaw19.EdgesShift", spec := "edgesShift", inPlace := ["math/bits.Sub64", "math/bits.Add64"], unfollowed := true, recurses := true, named := ["math/bits.divideError", "math/bits.overflowError"], apart := false, narrowed := true }
def EdgesShiftUptoSaid : Prop := edgesShiftUptoRow.holds Try.pinned (OpenSpec.upto edgesShiftSpec)

/-- 'ductuslaw19.EdgesRows', WHERE WHAT IT READS IS OF BULK AT MOST 1048576: true; the input reads as it did. -/
def edgesRowsUptoRow : OpenClaim := { program := "ytegfonghlpbgdaa", sum := "e2380e06a62c617772fa494ba87cc234ce5e2cf1b1a6db5df813c3651e15a3b9", func := "ductus/ductuslaw19.EdgesRows", spec := "edgesRows", inPlace := ["math/bits.Sub64", "math/bits.Add64"], unfollowed := true, recurses := true, named := ["math/bits.divideError", "math/bits.overflowError"], apart := false, narrowed := true }
def EdgesRowsUptoSaid : Prop := edgesRowsUptoRow.holds Try.pinned (OpenSpec.upto edgesRowsSpec)

/-- 'ductuslaw19.EdgesTurned', WHERE WHAT IT READS IS OF BULK AT MOST 1048576: true; the input reads as it did. -/
def edgesTurnedUptoRow : OpenClaim := { program := "ytegfonghlpbgdaa", sum := "e2380e06a62c617772fa494ba87cc234ce5e2cf1b1a6db5df813c3651e15a3b9", func := "ductus/ductuslaw19.EdgesTurned", spec := "edgesTurned", inPlace := ["math/bits.Sub64", "math/bits.Add64"], unfollowed := true, recurses := true, named := ["math/bits.divideError", "math/bits.overflowError"], apart := false, narrowed := true }
def EdgesTurnedUptoSaid : Prop := edgesTurnedUptoRow.holds Try.pinned (OpenSpec.upto edgesTurnedSpec)

/-- 'ductuslaw19.EdgesTells', WHERE WHAT IT READS IS OF BULK AT MOST 1048576: true; the input reads as it did. -/
def edgesTellsUptoRow : OpenClaim := { program := "ytegfonghlpbgdaa", sum := "e2380e06a62c617772fa494ba87cc234ce5e2cf1b1a6db5df813c3651e15a3b9", func := "ductus/ductuslaw19.EdgesTells", spec := "edgesTells", inPlace := ["math/bits.Sub64", "math/bits.Add64"], unfollowed := true, recurses := true, named := ["math/bits.divideError", "math/bits.overflowError"], apart := false, narrowed := true }
def EdgesTellsUptoSaid : Prop := edgesTellsUptoRow.holds Try.pinned (OpenSpec.upto edgesTellsSpec)

/-- 'ductuslaw19.EdgesCut', WHERE WHAT IT READS IS OF BULK AT MOST 1048576: true; the input reads as it did. -/
def edgesCutUptoRow : OpenClaim := { program := "ytegfonghlpbgdaa", sum := "e2380e06a62c617772fa494ba87cc234ce5e2cf1b1a6db5df813c3651e15a3b9", func := "ductus/ductuslaw19.EdgesCut", spec := "edgesCut", inPlace := ["math/bits.Sub64", "math/bits.Add64"], unfollowed := true, recurses := true, named := ["math/bits.divideError", "math/bits.overflowError"], apart := false, narrowed := true }
def EdgesCutUptoSaid : Prop := edgesCutUptoRow.holds Try.pinned (OpenSpec.upto edgesCutSpec)

end Rows
end Go.Proofs.Ytegfonghlpbgdaa
