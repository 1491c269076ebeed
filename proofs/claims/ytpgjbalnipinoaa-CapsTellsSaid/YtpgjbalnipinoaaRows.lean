/-
  No cell of these rows narrows 'for every input' (looked for: loops, veiled, ifaces, maps, wideKeys, modest, calm, conditions, laid).
  DERIVED. THE GIVEN ROWS OF THIS SEAT. 10 by the template 'for every input the law returns true; each argument reads behind the call as it read before'; 0 by the template 'total and deterministic' (their statements: YtpgjbalnipinoaaTotals.lean).
  GIVEN WITH THE SEED: the statements are not yours to turn. If you find one false, say at which input.
  Laid BY PROGRAM, IN A SANDBOX (cutbox-rows.mjs): the forced cells as the released guide's own fill.sh prints them over the translation 5552e6b8c3ee19d1… (all of the seat's roots in one cut). By AI agents, Wed Nov 11 2026. No macro, syntax, notation, axiom, sorry.
-/
import Derived.Test.YtpgjbalnipinoaaChecked
import GoSem.Claim
import GoSem.ClaimJoined
import GoSem.ClaimMapViews
import Derived.JoinedTies
import Derived.KernelRfl
namespace Go.Proofs.Ytpgjbalnipinoaa
/- THE CELL 'sum', in the pinned program and in every row, IS THE sha256 OF THE DUMP (.gsa) THAT YtpgjbalnipinoaaProg.lean LOADS. Nothing in Lean hashes anything: it is a label: what it is worth is what the hold of that sum in a sandbox is worth. -/
noncomputable def Try.pinned : Pinned := { name := "ytpgjbalnipinoaa", sum := "5552e6b8c3ee19d1285c3c1ffef675d1ca0826f9fd8d5c2c2ce6e53512481115", checked := Try.checked }
namespace Rows
def none {H : Type} : Left H := { results := [], args := [] }

/-- 'ductuslaw15.ArcDisc': WHATEVER THE INPUT: true; the input reads as it did. -/
def arcDiscSpec : ChangeSpec := { name := "arcDisc", fn := fun _ => fun
  | [d1, d2, d3] => { results := [.lit (.bool true)], args := [d1, d2, d3] }
  | _ => none }
def arcDiscRow : OpenClaim := { program := "ytpgjbalnipinoaa", sum := "5552e6b8c3ee19d1285c3c1ffef675d1ca0826f9fd8d5c2c2ce6e53512481115", func := "ductus/ductuslaw15.ArcDisc", spec := "arcDisc", inPlace := ["math/bits.Add64", "math/bits.Sub64"], unfollowed := true, recurses := true, named := ["math/bits.divideError", "math/bits.overflowError"], apart := false }
def ArcDiscSaid : Prop := arcDiscRow.holds Try.pinned (OpenSpec.ofChange arcDiscSpec)

/-- ITS FALSE NEIGHBOUR: 'it returns false'. Refute it at one input. -/
def arcDiscWrong : ChangeSpec := { name := "arcDisc", fn := fun _ => fun
  | [d1, d2, d3] => { results := [.lit (.bool false)], args := [d1, d2, d3] }
  | _ => none }
def ArcDiscWrongFalsely : Prop := arcDiscRow.holds Try.pinned (OpenSpec.ofChange arcDiscWrong)

/-- 'ductuslaw15.ArcPieces': WHATEVER THE INPUT: true; the input reads as it did. -/
def arcPiecesSpec : ChangeSpec := { name := "arcPieces", fn := fun _ => fun
  | [d1, d2, d3, d4] => { results := [.lit (.bool true)], args := [d1, d2, d3, d4] }
  | _ => none }
def arcPiecesRow : OpenClaim := { program := "ytpgjbalnipinoaa", sum := "5552e6b8c3ee19d1285c3c1ffef675d1ca0826f9fd8d5c2c2ce6e53512481115", func := "ductus/ductuslaw15.ArcPieces", spec := "arcPieces", inPlace := ["math/bits.Add64", "math/bits.Sub64"], unfollowed := true, recurses := true, named := ["math/bits.divideError", "math/bits.overflowError"], apart := false }
def ArcPiecesSaid : Prop := arcPiecesRow.holds Try.pinned (OpenSpec.ofChange arcPiecesSpec)

/-- ITS FALSE NEIGHBOUR: 'it returns false'. Refute it at one input. -/
def arcPiecesWrong : ChangeSpec := { name := "arcPieces", fn := fun _ => fun
  | [d1, d2, d3, d4] => { results := [.lit (.bool false)], args := [d1, d2, d3, d4] }
  | _ => none }
def ArcPiecesWrongFalsely : Prop := arcPiecesRow.holds Try.pinned (OpenSpec.ofChange arcPiecesWrong)

/-- 'ductuslaw15.ArcEnds': WHATEVER THE INPUT: true; the input reads as it did. -/
def arcEndsSpec : ChangeSpec := { name := "arcEnds", fn := fun _ => fun
  | [d1, d2, d3] => { results := [.lit (.bool true)], args := [d1, d2, d3] }
  | _ => none }
def arcEndsRow : OpenClaim := { program := "ytpgjbalnipinoaa", sum := "5552e6b8c3ee19d1285c3c1ffef675d1ca0826f9fd8d5c2c2ce6e53512481115", func := "ductus/ductuslaw15.ArcEnds", spec := "arcEnds", inPlace := ["math/bits.Add64", "math/bits.Sub64"], unfollowed := true, recurses := true, named := ["math/bits.divideError", "math/bits.overflowError"], apart := false }
def ArcEndsSaid : Prop := arcEndsRow.holds Try.pinned (OpenSpec.ofChange arcEndsSpec)

/-- ITS FALSE NEIGHBOUR: 'it returns false'. Refute it at one input. -/
def arcEndsWrong : ChangeSpec := { name := "arcEnds", fn := fun _ => fun
  | [d1, d2, d3] => { results := [.lit (.bool false)], args := [d1, d2, d3] }
  | _ => none }
def ArcEndsWrongFalsely : Prop := arcEndsRow.holds Try.pinned (OpenSpec.ofChange arcEndsWrong)

/-- 'ductuslaw15.ArcSmall': WHATEVER THE INPUT: true; the input reads as it did. -/
def arcSmallSpec : ChangeSpec := { name := "arcSmall", fn := fun _ => fun
  | [d] => { results := [.lit (.bool true)], args := [d] }
  | _ => none }
def arcSmallRow : OpenClaim := { program := "ytpgjbalnipinoaa", sum := "5552e6b8c3ee19d1285c3c1ffef675d1ca0826f9fd8d5c2c2ce6e53512481115", func := "ductus/ductuslaw15.ArcSmall", spec := "arcSmall", inPlace := ["math/bits.Add64", "math/bits.Sub64"], unfollowed := true, recurses := true, named := ["math/bits.divideError", "math/bits.overflowError"], apart := false }
def ArcSmallSaid : Prop := arcSmallRow.holds Try.pinned (OpenSpec.ofChange arcSmallSpec)

/-- ITS FALSE NEIGHBOUR: 'it returns false'. Refute it at one input. -/
def arcSmallWrong : ChangeSpec := { name := "arcSmall", fn := fun _ => fun
  | [d] => { results := [.lit (.bool false)], args := [d] }
  | _ => none }
def ArcSmallWrongFalsely : Prop := arcSmallRow.holds Try.pinned (OpenSpec.ofChange arcSmallWrong)

/-- 'ductuslaw15.ArcHalf': WHATEVER THE INPUT: true; the input reads as it did. -/
def arcHalfSpec : ChangeSpec := { name := "arcHalf", fn := fun _ => fun
  | [d1, d2, d3] => { results := [.lit (.bool true)], args := [d1, d2, d3] }
  | _ => none }
def arcHalfRow : OpenClaim := { program := "ytpgjbalnipinoaa", sum := "5552e6b8c3ee19d1285c3c1ffef675d1ca0826f9fd8d5c2c2ce6e53512481115", func := "ductus/ductuslaw15.ArcHalf", spec := "arcHalf", inPlace := ["math/bits.Add64", "math/bits.Sub64"], unfollowed := true, recurses := true, named := ["math/bits.divideError", "math/bits.overflowError"], apart := false }
def ArcHalfSaid : Prop := arcHalfRow.holds Try.pinned (OpenSpec.ofChange arcHalfSpec)

/-- ITS FALSE NEIGHBOUR: 'it returns false'. Refute it at one input. -/
def arcHalfWrong : ChangeSpec := { name := "arcHalf", fn := fun _ => fun
  | [d1, d2, d3] => { results := [.lit (.bool false)], args := [d1, d2, d3] }
  | _ => none }
def ArcHalfWrongFalsely : Prop := arcHalfRow.holds Try.pinned (OpenSpec.ofChange arcHalfWrong)

/-- 'ductuslaw15.ArcShifts': WHATEVER THE INPUT: true; the input reads as it did. -/
def arcShiftsSpec : ChangeSpec := { name := "arcShifts", fn := fun _ => fun
  | [d1, d2, d3, d4, d5] => { results := [.lit (.bool true)], args := [d1, d2, d3, d4, d5] }
  | _ => none }
def arcShiftsRow : OpenClaim := { program := "ytpgjbalnipinoaa", sum := "5552e6b8c3ee19d1285c3c1ffef675d1ca0826f9fd8d5c2c2ce6e53512481115", func := "ductus/ductuslaw15.ArcShifts", spec := "arcShifts", inPlace := ["math/bits.Add64", "math/bits.Sub64"], unfollowed := true, recurses := true, named := ["math/bits.divideError", "math/bits.overflowError"], apart := false }
def ArcShiftsSaid : Prop := arcShiftsRow.holds Try.pinned (OpenSpec.ofChange arcShiftsSpec)

/-- ITS FALSE NEIGHBOUR: 'it returns false'. Refute it at one input. -/
def arcShiftsWrong : ChangeSpec := { name := "arcShifts", fn := fun _ => fun
  | [d1, d2, d3, d4, d5] => { results := [.lit (.bool false)], args := [d1, d2, d3, d4, d5] }
  | _ => none }
def ArcShiftsWrongFalsely : Prop := arcShiftsRow.holds Try.pinned (OpenSpec.ofChange arcShiftsWrong)

/-- 'ductuslaw17.CapsTells': WHATEVER THE INPUT: true; the input reads as it did. -/
def capsTellsSpec : ChangeSpec := { name := "capsTells", fn := fun _ => fun
  | [d1, d2, d3, d4] => { results := [.lit (.bool true)], args := [d1, d2, d3, d4] }
  | _ => none }
def capsTellsRow : OpenClaim := { program := "ytpgjbalnipinoaa", sum := "5552e6b8c3ee19d1285c3c1ffef675d1ca0826f9fd8d5c2c2ce6e53512481115", func := "ductus/ductuslaw17.CapsTells", spec := "capsTells", inPlace := ["math/bits.Add64", "math/bits.Sub64"], unfollowed := true, recurses := true, named := ["math/bits.divideError", "math/bits.overflowError"], apart := false }
def CapsTellsSaid : Prop := capsTellsRow.holds Try.pinned (OpenSpec.ofChange capsTellsSpec)

/-- ITS FALSE NEIGHBOUR: 'it returns false'. Refute it at one input. -/
def capsTellsWrong : ChangeSpec := { name := "capsTells", fn := fun _ => fun
  | [d1, d2, d3, d4] => { results := [.lit (.bool false)], args := [d1, d2, d3, d4] }
  | _ => none }
def CapsTellsWrongFalsely : Prop := capsTellsRow.holds Try.pinned (OpenSpec.ofChange capsTellsWrong)

/-- 'ductuslaw17.CapsPieces': WHATEVER THE INPUT: true; the input reads as it did. -/
def capsPiecesSpec : ChangeSpec := { name := "capsPieces", fn := fun _ => fun
  | [d1, d2, d3, d4] => { results := [.lit (.bool true)], args := [d1, d2, d3, d4] }
  | _ => none }
def capsPiecesRow : OpenClaim := { program := "ytpgjbalnipinoaa", sum := "5552e6b8c3ee19d1285c3c1ffef675d1ca0826f9fd8d5c2c2ce6e53512481115", func := "ductus/ductuslaw17.CapsPieces", spec := "capsPieces", inPlace := ["math/bits.Add64", "math/bits.Sub64"], unfollowed := true, recurses := true, named := ["math/bits.divideError", "math/bits.overflowError"], apart := false }
def CapsPiecesSaid : Prop := capsPiecesRow.holds Try.pinned (OpenSpec.ofChange capsPiecesSpec)

/-- ITS FALSE NEIGHBOUR: 'it returns false'. Refute it at one input. -/
def capsPiecesWrong : ChangeSpec := { name := "capsPieces", fn := fun _ => fun
  | [d1, d2, d3, d4] => { results := [.lit (.bool false)], args := [d1, d2, d3, d4] }
  | _ => none }
def CapsPiecesWrongFalsely : Prop := capsPiecesRow.holds Try.pinned (OpenSpec.ofChange capsPiecesWrong)

/-- 'ductuslaw17.CapsSquare': WHATEVER THE INPUT: true; the input reads as it did. -/
def capsSquareSpec : ChangeSpec := { name := "capsSquare", fn := fun _ => fun
  | [d1, d2, d3] => { results := [.lit (.bool true)], args := [d1, d2, d3] }
  | _ => none }
def capsSquareRow : OpenClaim := { program := "ytpgjbalnipinoaa", sum := "5552e6b8c3ee19d1285c3c1ffef675d1ca0826f9fd8d5c2c2ce6e53512481115", func := "ductus/ductuslaw17.CapsSquare", spec := "capsSquare", inPlace := ["math/bits.Add64", "math/bits.Sub64"], unfollowed := true, recurses := true, named := ["math/bits.divideError", "math/bits.overflowError"], apart := false }
def CapsSquareSaid : Prop := capsSquareRow.holds Try.pinned (OpenSpec.ofChange capsSquareSpec)

/-- ITS FALSE NEIGHBOUR: 'it returns false'. Refute it at one input. -/
def capsSquareWrong : ChangeSpec := { name := "capsSquare", fn := fun _ => fun
  | [d1, d2, d3] => { results := [.lit (.bool false)], args := [d1, d2, d3] }
  | _ => none }
def CapsSquareWrongFalsely : Prop := capsSquareRow.holds Try.pinned (OpenSpec.ofChange capsSquareWrong)

/-- 'ductuslaw17.CapsReach': WHATEVER THE INPUT: true; the input reads as it did. -/
def capsReachSpec : ChangeSpec := { name := "capsReach", fn := fun _ => fun
  | [d1, d2, d3, d4, d5] => { results := [.lit (.bool true)], args := [d1, d2, d3, d4, d5] }
  | _ => none }
def capsReachRow : OpenClaim := { program := "ytpgjbalnipinoaa", sum := "5552e6b8c3ee19d1285c3c1ffef675d1ca0826f9fd8d5c2c2ce6e53512481115", func := "ductus/ductuslaw17.CapsReach", spec := "capsReach", inPlace := ["math/bits.Add64", "math/bits.Sub64"], unfollowed := true, recurses := true, named := ["math/bits.divideError", "math/bits.overflowError"], apart := false }
def CapsReachSaid : Prop := capsReachRow.holds Try.pinned (OpenSpec.ofChange capsReachSpec)

/-- ITS FALSE NEIGHBOUR: 'it returns false'. Refute it at one input. -/
def capsReachWrong : ChangeSpec := { name := "capsReach", fn := fun _ => fun
  | [d1, d2, d3, d4, d5] => { results := [.lit (.bool false)], args := [d1, d2, d3, d4, d5] }
  | _ => none }
def CapsReachWrongFalsely : Prop := capsReachRow.holds Try.pinned (OpenSpec.ofChange capsReachWrong)

/- THE SECOND FORM. 'bulk': how many values and letters a reading holds, each counted each time it is reached (what is shared counts as often as it is met; a slice's spare places count too). A statement '..UptoSaid' is the law's where the arguments, and the package variables that the reading takes, are together of bulk at most 1048576: NARROWER than '..Said'. Prove '..Said' where nothing that the law and all that it calls make is longer than what came in: it says more and counts as full. Else prove '..UptoSaid'. A law counts once. -/
mutual
def uptoBulk {H : Type} : DataW H → Nat
  | .lit (.string bytes) => bytes.length + 1
  | .lit _ => 1
  | .nil => 1
  | .ptr d => uptoBulk d + 1
  | .slice elems spare => uptoBulkAll elems + uptoBulkAll spare + 1
  | .agg parts => uptoBulkAll parts + 1
  | .iface _ d => uptoBulk d + 1
  | .map entries => uptoBulkEntries entries + 1
  | .held _ => 1
def uptoBulkAll {H : Type} : List (DataW H) → Nat
  | [] => 0
  | d :: r => uptoBulk d + uptoBulkAll r
def uptoBulkEntries {H : Type} : List (Lit × DataW H) → Nat
  | [] => 0
  | x :: r => uptoBulkEntry x + uptoBulkEntries r
def uptoBulkEntry {H : Type} : Lit × DataW H → Nat
  | (.string bytes, d) => bytes.length + uptoBulk d + 1
  | (_, d) => uptoBulk d + 1
 end
def uptoSmall : (H : Type) → List (DataW H) → Bool := fun _ ds => decide (uptoBulkAll ds ≤ 1048576)
def OpenSpec.upto (s : _root_.Go.ChangeSpec) : _root_.Go.OpenSpec := { _root_.Go.OpenSpec.ofChange s with cond := some uptoSmall }

/-- 'ductuslaw15.ArcDisc', WHERE WHAT IT READS IS OF BULK AT MOST 1048576: true; the input reads as it did. -/
def arcDiscUptoRow : OpenClaim := { program := "ytpgjbalnipinoaa", sum := "5552e6b8c3ee19d1285c3c1ffef675d1ca0826f9fd8d5c2c2ce6e53512481115", func := "ductus/ductuslaw15.ArcDisc", spec := "arcDisc", inPlace := ["math/bits.Add64", "math/bits.Sub64"], unfollowed := true, recurses := true, named := ["math/bits.divideError", "math/bits.overflowError"], apart := false, narrowed := true }
def ArcDiscUptoSaid : Prop := arcDiscUptoRow.holds Try.pinned (OpenSpec.upto arcDiscSpec)

/-- 'ductuslaw15.ArcPieces', WHERE WHAT IT READS IS OF BULK AT MOST 1048576: true; the input reads as it did. -/
def arcPiecesUptoRow : OpenClaim := { program := "ytpgjbalnipinoaa", sum := "5552e6b8c3ee19d1285c3c1ffef675d1ca0826f9fd8d5c2c2ce6e53512481115", func := "ductus/ductuslaw15.ArcPieces", spec := "arcPieces", inPlace := ["math/bits.Add64", "math/bits.Sub64"], unfollowed := true, recurses := true, named := ["math/bits.divideError", "math/bits.overflowError"], apart := false, narrowed := true }
def ArcPiecesUptoSaid : Prop := arcPiecesUptoRow.holds Try.pinned (OpenSpec.upto arcPiecesSpec)

/-- 'ductuslaw15.ArcEnds', WHERE WHAT IT READS IS OF BULK AT MOST 1048576: true; the input reads as it did. -/
def arcEndsUptoRow : OpenClaim := { program := "ytpgjbalnipinoaa", sum := "5552e6b8c3ee19d1285c3c1ffef675d1ca0826f9fd8d5c2c2ce6e53512481115", func := "ductus/ductuslaw15.ArcEnds", spec := "arcEnds", inPlace := ["math/bits.Add64", "math/bits.Sub64"], unfollowed := true, recurses := true, named := ["math/bits.divideError", "math/bits.overflowError"], apart := false, narrowed := true }
def ArcEndsUptoSaid : Prop := arcEndsUptoRow.holds Try.pinned (OpenSpec.upto arcEndsSpec)

/-- 'ductuslaw15.ArcSmall', WHERE WHAT IT READS IS OF BULK AT MOST 1048576: true; the input reads as it did. -/
def arcSmallUptoRow : OpenClaim := { program := "ytpgjbalnipinoaa", sum := "5552e6b8c3ee19d1285c3c1ffef675d1ca0826f9fd8d5c2c2ce6e53512481115", func := "ductus/ductuslaw15.ArcSmall", spec := "arcSmall", inPlace := ["math/bits.Add64", "math/bits.Sub64"], unfollowed := true, recurses := true, named := ["math/bits.divideError", "math/bits.overflowError"], apart := false, narrowed := true }
def ArcSmallUptoSaid : Prop := arcSmallUptoRow.holds Try.pinned (OpenSpec.upto arcSmallSpec)

/-- 'ductuslaw15.ArcHalf', WHERE WHAT IT READS IS OF BULK AT MOST 1048576: true; the input reads as it did. -/
def arcHalfUptoRow : OpenClaim := { program := "ytpgjbalnipinoaa", sum := "5552e6b8c3ee19d1285c3c1ffef675d1ca0826f9fd8d5c2c2ce6e53512481115", func := "ductus/ductuslaw15.ArcHalf", spec := "arcHalf", inPlace := ["math/bits.Add64", "math/bits.Sub64"], unfollowed := true, recurses := true, named := ["math/bits.divideError", "math/bits.overflowError"], apart := false, narrowed := true }
def ArcHalfUptoSaid : Prop := arcHalfUptoRow.holds Try.pinned (OpenSpec.upto arcHalfSpec)

/-- 'ductuslaw15.ArcShifts', WHERE WHAT IT READS IS OF BULK AT MOST 1048576: true; the input reads as it did. -/
def arcShiftsUptoRow : OpenClaim := { program := "ytpgjbalnipinoaa", sum := "5552e6b8c3ee19d1285c3c1ffef675d1ca0826f9fd8d5c2c2ce6e53512481115", func := "ductus/ductuslaw15.ArcShifts", spec := "arcShifts", inPlace := ["math/bits.Add64", "math/bits.Sub64"], unfollowed := true, recurses := true, named := ["math/bits.divideError", "math/bits.overflowError"], apart := false, narrowed := true }
def ArcShiftsUptoSaid : Prop := arcShiftsUptoRow.holds Try.pinned (OpenSpec.upto arcShiftsSpec)

/-- 'ductuslaw17.CapsTells', WHERE WHAT IT READS IS OF BULK AT MOST 1048576: true; the input reads as it did. -/
def capsTellsUptoRow : OpenClaim := { program := "ytpgjbalnipinoaa", sum := "5552e6b8c3ee19d1285c3c1ffef675d1ca0826f9fd8d5c2c2ce6e53512481115", func := "ductus/ductuslaw17.CapsTells", spec := "capsTells", inPlace := ["math/bits.Add64", "math/bits.Sub64"], unfollowed := true, recurses := true, named := ["math/bits.divideError", "math/bits.overflowError"], apart := false, narrowed := true }
def CapsTellsUptoSaid : Prop := capsTellsUptoRow.holds Try.pinned (OpenSpec.upto capsTellsSpec)

/-- 'ductuslaw17.CapsPieces', WHERE WHAT IT READS IS OF BULK AT MOST 1048576: true; the input reads as it did. -/
def capsPiecesUptoRow : OpenClaim := { program := "ytpgjbalnipinoaa", sum := "5552e6b8c3ee19d1285c3c1ffef675d1ca0826f9fd8d5c2c2ce6e53512481115", func := "ductus/ductuslaw17.CapsPieces", spec := "capsPieces", inPlace := ["math/bits.Add64", "math/bits.Sub64"], unfollowed := true, recurses := true, named := ["math/bits.divideError", "math/bits.overflowError"], apart := false, narrowed := true }
def CapsPiecesUptoSaid : Prop := capsPiecesUptoRow.holds Try.pinned (OpenSpec.upto capsPiecesSpec)

/-- 'ductuslaw17.CapsSquare', WHERE WHAT IT READS IS OF BULK AT MOST 1048576: true; the input reads as it did. -/
def capsSquareUptoRow : OpenClaim := { program := "ytpgjbalnipinoaa", sum := "5552e6b8c3ee19d1285c3c1ffef675d1ca0826f9fd8d5c2c2ce6e53512481115", func := "ductus/ductuslaw17.CapsSquare", spec := "capsSquare", inPlace := ["math/bits.Add64", "math/bits.Sub64"], unfollowed := true, recurses := true, named := ["math/bits.divideError", "math/bits.overflowError"], apart := false, narrowed := true }
def CapsSquareUptoSaid : Prop := capsSquareUptoRow.holds Try.pinned (OpenSpec.upto capsSquareSpec)

/-- 'ductuslaw17.CapsReach', WHERE WHAT IT READS IS OF BULK AT MOST 1048576: true; the input reads as it did. -/
def capsReachUptoRow : OpenClaim := { program := "ytpgjbalnipinoaa", sum := "5552e6b8c3ee19d1285c3c1ffef675d1ca0826f9fd8d5c2c2ce6e53512481115", func := "ductus/ductuslaw17.CapsReach", spec := "capsReach", inPlace := ["math/bits.Add64", "math/bits.Sub64"], unfollowed := true, recurses := true, named := ["math/bits.divideError", "math/bits.overflowError"], apart := false, narrowed := true }
def CapsReachUptoSaid : Prop := capsReachUptoRow.holds Try.pinned (OpenSpec.upto capsReachSpec)

end Rows
end Go.Proofs.Ytpgjbalnipinoaa
