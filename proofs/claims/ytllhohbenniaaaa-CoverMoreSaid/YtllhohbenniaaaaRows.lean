/-
  No cell of these rows narrows 'for every input' (looked for: loops, veiled, ifaces, maps, wideKeys, modest, calm, conditions, laid).
  DERIVED. THE GIVEN ROWS OF THIS SEAT. 3 by the template 'for every input the law returns true; each argument reads behind the call as it read before'; 0 by the template 'total and deterministic' (their statements: YtllhohbenniaaaaTotals.lean).
  GIVEN WITH THE SEED: the statements are not yours to turn. If you find one false, say at which input.
  Laid BY PROGRAM, IN A SANDBOX (cutbox-rows.mjs): the forced cells as the released guide's own fill.sh prints them over the translation 999d64f29624d37e… (all of the seat's roots in one cut). By AI agents, Wed Nov 11 2026. No macro, syntax, notation, axiom, sorry.
-/
import Derived.Test.YtllhohbenniaaaaChecked
import GoSem.Claim
import GoSem.ClaimJoined
import GoSem.ClaimMapViews
import Derived.JoinedTies
import Derived.KernelRfl
namespace Go.Proofs.Ytllhohbenniaaaa
/- THE CELL 'sum', in the pinned program and in every row, IS THE sha256 OF THE DUMP (.gsa) THAT YtllhohbenniaaaaProg.lean LOADS. Nothing in Lean hashes anything: it is a label: what it is worth is what the hold of that sum in a sandbox is worth. -/
noncomputable def Try.pinned : Pinned := { name := "ytllhohbenniaaaa", sum := "999d64f29624d37ec556a23e2be7837cca004a0ba76f9a2359036bb716ea5eda", checked := Try.checked }
namespace Rows
def none {H : Type} : Left H := { results := [], args := [] }

/-- 'ductuslaw21.CoverCrops': WHATEVER THE INPUT: true; the input reads as it did. -/
def coverCropsSpec : ChangeSpec := { name := "coverCrops", fn := fun _ => fun
  | [d1, d2, d3, d4, d5, d6, d7, d8, d9] => { results := [.lit (.bool true)], args := [d1, d2, d3, d4, d5, d6, d7, d8, d9] }
  | _ => none }
def coverCropsRow : OpenClaim := { program := "ytllhohbenniaaaa", sum := "999d64f29624d37ec556a23e2be7837cca004a0ba76f9a2359036bb716ea5eda", func := "ductus/ductuslaw21.CoverCrops", spec := "coverCrops", inPlace := ["math/bits.Sub64", "math/bits.Add64"], unfollowed := true, recurses := true, named := ["math/bits.divideError", "math/bits.overflowError"], apart := false }
def CoverCropsSaid : Prop := coverCropsRow.holds Try.pinned (OpenSpec.ofChange coverCropsSpec)

/-- ITS FALSE NEIGHBOUR: 'it returns false'. Refute it at one input. -/
def coverCropsWrong : ChangeSpec := { name := "coverCrops", fn := fun _ => fun
  | [d1, d2, d3, d4, d5, d6, d7, d8, d9] => { results := [.lit (.bool false)], args := [d1, d2, d3, d4, d5, d6, d7, d8, d9] }
  | _ => none }
def CoverCropsWrongFalsely : Prop := coverCropsRow.holds Try.pinned (OpenSpec.ofChange coverCropsWrong)

/-- 'ductuslaw20.SpansConvex': WHATEVER THE INPUT: true; the input reads as it did. -/
def spansConvexSpec : ChangeSpec := { name := "spansConvex", fn := fun _ => fun
  | [d1, d2, d3, d4] => { results := [.lit (.bool true)], args := [d1, d2, d3, d4] }
  | _ => none }
def spansConvexRow : OpenClaim := { program := "ytllhohbenniaaaa", sum := "999d64f29624d37ec556a23e2be7837cca004a0ba76f9a2359036bb716ea5eda", func := "ductus/ductuslaw20.SpansConvex", spec := "spansConvex", inPlace := ["math/bits.Sub64", "math/bits.Add64"], unfollowed := true, recurses := true, named := ["math/bits.divideError", "math/bits.overflowError"], apart := false }
def SpansConvexSaid : Prop := spansConvexRow.holds Try.pinned (OpenSpec.ofChange spansConvexSpec)

/-- ITS FALSE NEIGHBOUR: 'it returns false'. Refute it at one input. -/
def spansConvexWrong : ChangeSpec := { name := "spansConvex", fn := fun _ => fun
  | [d1, d2, d3, d4] => { results := [.lit (.bool false)], args := [d1, d2, d3, d4] }
  | _ => none }
def SpansConvexWrongFalsely : Prop := spansConvexRow.holds Try.pinned (OpenSpec.ofChange spansConvexWrong)

/-- 'ductuslaw21.CoverMore': WHATEVER THE INPUT: true; the input reads as it did. -/
def coverMoreSpec : ChangeSpec := { name := "coverMore", fn := fun _ => fun
  | [d1, d2, d3, d4, d5, d6] => { results := [.lit (.bool true)], args := [d1, d2, d3, d4, d5, d6] }
  | _ => none }
def coverMoreRow : OpenClaim := { program := "ytllhohbenniaaaa", sum := "999d64f29624d37ec556a23e2be7837cca004a0ba76f9a2359036bb716ea5eda", func := "ductus/ductuslaw21.CoverMore", spec := "coverMore", inPlace := ["math/bits.Sub64", "math/bits.Add64"], unfollowed := true, recurses := true, named := ["math/bits.divideError", "math/bits.overflowError"], apart := false }
def CoverMoreSaid : Prop := coverMoreRow.holds Try.pinned (OpenSpec.ofChange coverMoreSpec)

/-- ITS FALSE NEIGHBOUR: 'it returns false'. Refute it at one input. -/
def coverMoreWrong : ChangeSpec := { name := "coverMore", fn := fun _ => fun
  | [d1, d2, d3, d4, d5, d6] => { results := [.lit (.bool false)], args := [d1, d2, d3, d4, d5, d6] }
  | _ => none }
def CoverMoreWrongFalsely : Prop := coverMoreRow.holds Try.pinned (OpenSpec.ofChange coverMoreWrong)

/- THE SECOND FORM. 'bulk': how many values and letters a reading holds, each counted each time it is reached (what is shared counts as often as it is met; a slice's spare places count too). A statement '..UptoSaid' is the law's where the arguments, and the package variables that the reading takes, are together of bulk at most 1048576: NARROWER than '..Said'. Prove '..Said' where nothing that the law and all that it calls make is longer than what came in: it says more and counts as full. Else prove '..UptoSaid'. A law counts once. -/
mutual
def uptoBulk {H : Type} : DataW H → Nat
  | .lit (.string bytes) => bytes.length + 1
  | .lit _ => 1
  | .nil => 1
  | .ptr d => uptoBulk d + 1
  | .slice elems spare => uptoBulkAll elems + uptoBulkAll spare + 1
  | .agg parts => uptoBulkAll parts + 1
  | .iface _ d => uptoBulk d + 1
  | .map entries => uptoBulkEntries entries + 1
  | .held _ => 1
def uptoBulkAll {H : Type} : List (DataW H) → Nat
  | [] => 0
  | d :: r => uptoBulk d + uptoBulkAll r
def uptoBulkEntries {H : Type} : List (Lit × DataW H) → Nat
  | [] => 0
  | x :: r => uptoBulkEntry x + uptoBulkEntries r
def uptoBulkEntry {H : Type} : Lit × DataW H → Nat
  | (.string bytes, d) => bytes.length + uptoBulk d + 1
  | (_, d) => uptoBulk d + 1
 end
def uptoSmall : (H : Type) → List (DataW H) → Bool := fun _ ds => decide (uptoBulkAll ds ≤ 1048576)
def OpenSpec.upto (s : _root_.Go.ChangeSpec) : _root_.Go.OpenSpec := { _root_.Go.OpenSpec.ofChange s with cond := some uptoSmall }

/-- 'ductuslaw21.CoverCrops', WHERE WHAT IT READS IS OF BULK AT MOST 1048576: true; the input reads as it did. -/
def coverCropsUptoRow : OpenClaim := { program := "ytllhohbenniaaaa", sum := "999d64f29624d37ec556a23e2be7837cca004a0ba76f9a2359036bb716ea5eda", func := "ductus/ductuslaw21.CoverCrops", spec := "coverCrops", inPlace := ["math/bits.Sub64", "math/bits.Add64"], unfollowed := true, recurses := true, named := ["math/bits.divideError", "math/bits.overflowError"], apart := false, narrowed := true }
def CoverCropsUptoSaid : Prop := coverCropsUptoRow.holds Try.pinned (OpenSpec.upto coverCropsSpec)

/-- 'ductuslaw20.SpansConvex', WHERE WHAT IT READS IS OF BULK AT MOST 1048576: true; the input reads as it did. -/
def spansConvexUptoRow : OpenClaim := { program := "ytllhohbenniaaaa", sum := "999d64f29624d37ec556a23e2be7837cca004a0ba76f9a2359036bb716ea5eda", func := "ductus/ductuslaw20.SpansConvex", spec := "spansConvex", inPlace := ["math/bits.Sub64", "math/bits.Add64"], unfollowed := true, recurses := true, named := ["math/bits.divideError", "math/bits.overflowError"], apart := false, narrowed := true }
def SpansConvexUptoSaid : Prop := spansConvexUptoRow.holds Try.pinned (OpenSpec.upto spansConvexSpec)

/-- 'ductuslaw21.CoverMore', WHERE WHAT IT READS IS OF BULK AT MOST 1048576: true; the input reads as it did. -/
def coverMoreUptoRow : OpenClaim := { program := "ytllhohbenniaaaa", sum := "999d64f29624d37ec556a23e2be7837cca004a0ba76f9a2359036bb716ea5eda", func := "ductus/ductuslaw21.CoverMore", spec := "coverMore", inPlace := ["math/bits.Sub64", "math/bits.Add64"], unfollowed := true, recurses := true, named := ["math/bits.divideError", "math/bits.overflowError"], apart := false, narrowed := true }
def CoverMoreUptoSaid : Prop := coverMoreUptoRow.holds Try.pinned (OpenSpec.upto coverMoreSpec)

end Rows
end Go.Proofs.Ytllhohbenniaaaa
