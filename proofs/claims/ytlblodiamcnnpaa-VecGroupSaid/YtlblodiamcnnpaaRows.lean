/-
  No cell of these rows narrows 'for every input' (looked for: loops, veiled, ifaces, maps, wideKeys, modest, calm, conditions, laid).
  DERIVED. THE GIVEN ROWS OF THIS SEAT. 11 by the template 'for every input the law returns true; each argument reads behind the call as it read before'; 0 by the template 'total and deterministic' (their statements: YtlblodiamcnnpaaTotals.lean).
  GIVEN WITH THE SEED: the statements are not yours to turn. If you find one false, say at which input.
  Laid BY PROGRAM, IN A SANDBOX (cutbox-rows.mjs): the forced cells as the released guide's own fill.sh prints them over the translation cacd08e784872c5a… (all of the seat's roots in one cut). By AI agents, Wed Nov 11 2026. No macro, syntax, notation, axiom, sorry.
-/
import Derived.Test.YtlblodiamcnnpaaChecked
import GoSem.Claim
import GoSem.ClaimJoined
import GoSem.ClaimMapViews
import Derived.JoinedTies
import Derived.KernelRfl
namespace Go.Proofs.Ytlblodiamcnnpaa
/- THE CELL 'sum', in the pinned program and in every row, IS THE sha256 OF THE DUMP (.gsa) THAT YtlblodiamcnnpaaProg.lean LOADS. Nothing in Lean hashes anything: it is a label: what it is worth is what the hold of that sum in a sandbox is worth. -/
noncomputable def Try.pinned : Pinned := { name := "ytlblodiamcnnpaa", sum := "cacd08e784872c5acf2a947f573863f2a718fe10c1c96779f0b0e2389bf195de", checked := Try.checked }
namespace Rows
def none {H : Type} : Left H := { results := [], args := [] }

/-- 'cnclaw04.VecLength': WHATEVER THE INPUT: true; the input reads as it did. -/
def vecLengthSpec : ChangeSpec := { name := "vecLength", fn := fun _ => fun
  | [d1, d2] => { results := [.lit (.bool true)], args := [d1, d2] }
  | _ => none }
def vecLengthRow : OpenClaim := { program := "ytlblodiamcnnpaa", sum := "cacd08e784872c5acf2a947f573863f2a718fe10c1c96779f0b0e2389bf195de", func := "cnc/cnclaw04.VecLength", spec := "vecLength", inPlace := ["math/bits.Sub64"], apart := false }
def VecLengthSaid : Prop := vecLengthRow.holds Try.pinned (OpenSpec.ofChange vecLengthSpec)

/-- ITS FALSE NEIGHBOUR: 'it returns false'. Refute it at one input. -/
def vecLengthWrong : ChangeSpec := { name := "vecLength", fn := fun _ => fun
  | [d1, d2] => { results := [.lit (.bool false)], args := [d1, d2] }
  | _ => none }
def VecLengthWrongFalsely : Prop := vecLengthRow.holds Try.pinned (OpenSpec.ofChange vecLengthWrong)

/-- 'cnclaw04.VecTriangle': WHATEVER THE INPUT: true; the input reads as it did. -/
def vecTriangleSpec : ChangeSpec := { name := "vecTriangle", fn := fun _ => fun
  | [d1, d2] => { results := [.lit (.bool true)], args := [d1, d2] }
  | _ => none }
def vecTriangleRow : OpenClaim := { program := "ytlblodiamcnnpaa", sum := "cacd08e784872c5acf2a947f573863f2a718fe10c1c96779f0b0e2389bf195de", func := "cnc/cnclaw04.VecTriangle", spec := "vecTriangle", inPlace := ["math/bits.Sub64"], apart := false }
def VecTriangleSaid : Prop := vecTriangleRow.holds Try.pinned (OpenSpec.ofChange vecTriangleSpec)

/-- ITS FALSE NEIGHBOUR: 'it returns false'. Refute it at one input. -/
def vecTriangleWrong : ChangeSpec := { name := "vecTriangle", fn := fun _ => fun
  | [d1, d2] => { results := [.lit (.bool false)], args := [d1, d2] }
  | _ => none }
def VecTriangleWrongFalsely : Prop := vecTriangleRow.holds Try.pinned (OpenSpec.ofChange vecTriangleWrong)

/-- 'cnclaw04.VecPlaneDots': WHATEVER THE INPUT: true; the input reads as it did. -/
def vecPlaneDotsSpec : ChangeSpec := { name := "vecPlaneDots", fn := fun _ => fun
  | [d1, d2, d3] => { results := [.lit (.bool true)], args := [d1, d2, d3] }
  | _ => none }
def vecPlaneDotsRow : OpenClaim := { program := "ytlblodiamcnnpaa", sum := "cacd08e784872c5acf2a947f573863f2a718fe10c1c96779f0b0e2389bf195de", func := "cnc/cnclaw04.VecPlaneDots", spec := "vecPlaneDots", inPlace := ["math/bits.Sub64"], apart := false }
def VecPlaneDotsSaid : Prop := vecPlaneDotsRow.holds Try.pinned (OpenSpec.ofChange vecPlaneDotsSpec)

/-- ITS FALSE NEIGHBOUR: 'it returns false'. Refute it at one input. -/
def vecPlaneDotsWrong : ChangeSpec := { name := "vecPlaneDots", fn := fun _ => fun
  | [d1, d2, d3] => { results := [.lit (.bool false)], args := [d1, d2, d3] }
  | _ => none }
def VecPlaneDotsWrongFalsely : Prop := vecPlaneDotsRow.holds Try.pinned (OpenSpec.ofChange vecPlaneDotsWrong)

/-- 'cnclaw04.VecWithin': WHATEVER THE INPUT: true; the input reads as it did. -/
def vecWithinSpec : ChangeSpec := { name := "vecWithin", fn := fun _ => fun
  | [d1, d2] => { results := [.lit (.bool true)], args := [d1, d2] }
  | _ => none }
def vecWithinRow : OpenClaim := { program := "ytlblodiamcnnpaa", sum := "cacd08e784872c5acf2a947f573863f2a718fe10c1c96779f0b0e2389bf195de", func := "cnc/cnclaw04.VecWithin", spec := "vecWithin", inPlace := ["math/bits.Sub64"], apart := false }
def VecWithinSaid : Prop := vecWithinRow.holds Try.pinned (OpenSpec.ofChange vecWithinSpec)

/-- ITS FALSE NEIGHBOUR: 'it returns false'. Refute it at one input. -/
def vecWithinWrong : ChangeSpec := { name := "vecWithin", fn := fun _ => fun
  | [d1, d2] => { results := [.lit (.bool false)], args := [d1, d2] }
  | _ => none }
def VecWithinWrongFalsely : Prop := vecWithinRow.holds Try.pinned (OpenSpec.ofChange vecWithinWrong)

/-- 'cnclaw04.VecSums': WHATEVER THE INPUT: true; the input reads as it did. -/
def vecSumsSpec : ChangeSpec := { name := "vecSums", fn := fun _ => fun
  | [d1, d2] => { results := [.lit (.bool true)], args := [d1, d2] }
  | _ => none }
def vecSumsRow : OpenClaim := { program := "ytlblodiamcnnpaa", sum := "cacd08e784872c5acf2a947f573863f2a718fe10c1c96779f0b0e2389bf195de", func := "cnc/cnclaw04.VecSums", spec := "vecSums", inPlace := ["math/bits.Sub64"], apart := false }
def VecSumsSaid : Prop := vecSumsRow.holds Try.pinned (OpenSpec.ofChange vecSumsSpec)

/-- ITS FALSE NEIGHBOUR: 'it returns false'. Refute it at one input. -/
def vecSumsWrong : ChangeSpec := { name := "vecSums", fn := fun _ => fun
  | [d1, d2] => { results := [.lit (.bool false)], args := [d1, d2] }
  | _ => none }
def VecSumsWrongFalsely : Prop := vecSumsRow.holds Try.pinned (OpenSpec.ofChange vecSumsWrong)

/-- 'cnclaw04.VecProducts': WHATEVER THE INPUT: true; the input reads as it did. -/
def vecProductsSpec : ChangeSpec := { name := "vecProducts", fn := fun _ => fun
  | [d1, d2] => { results := [.lit (.bool true)], args := [d1, d2] }
  | _ => none }
def vecProductsRow : OpenClaim := { program := "ytlblodiamcnnpaa", sum := "cacd08e784872c5acf2a947f573863f2a718fe10c1c96779f0b0e2389bf195de", func := "cnc/cnclaw04.VecProducts", spec := "vecProducts", inPlace := ["math/bits.Sub64"], apart := false }
def VecProductsSaid : Prop := vecProductsRow.holds Try.pinned (OpenSpec.ofChange vecProductsSpec)

/-- ITS FALSE NEIGHBOUR: 'it returns false'. Refute it at one input. -/
def vecProductsWrong : ChangeSpec := { name := "vecProducts", fn := fun _ => fun
  | [d1, d2] => { results := [.lit (.bool false)], args := [d1, d2] }
  | _ => none }
def VecProductsWrongFalsely : Prop := vecProductsRow.holds Try.pinned (OpenSpec.ofChange vecProductsWrong)

/-- 'cnclaw04.VecGroup': WHATEVER THE INPUT: true; the input reads as it did. -/
def vecGroupSpec : ChangeSpec := { name := "vecGroup", fn := fun _ => fun
  | [d1, d2, d3] => { results := [.lit (.bool true)], args := [d1, d2, d3] }
  | _ => none }
def vecGroupRow : OpenClaim := { program := "ytlblodiamcnnpaa", sum := "cacd08e784872c5acf2a947f573863f2a718fe10c1c96779f0b0e2389bf195de", func := "cnc/cnclaw04.VecGroup", spec := "vecGroup", inPlace := ["math/bits.Sub64"], apart := false }
def VecGroupSaid : Prop := vecGroupRow.holds Try.pinned (OpenSpec.ofChange vecGroupSpec)

/-- ITS FALSE NEIGHBOUR: 'it returns false'. Refute it at one input. -/
def vecGroupWrong : ChangeSpec := { name := "vecGroup", fn := fun _ => fun
  | [d1, d2, d3] => { results := [.lit (.bool false)], args := [d1, d2, d3] }
  | _ => none }
def VecGroupWrongFalsely : Prop := vecGroupRow.holds Try.pinned (OpenSpec.ofChange vecGroupWrong)

/-- 'cnclaw04.VecLagrange': WHATEVER THE INPUT: true; the input reads as it did. -/
def vecLagrangeSpec : ChangeSpec := { name := "vecLagrange", fn := fun _ => fun
  | [d1, d2] => { results := [.lit (.bool true)], args := [d1, d2] }
  | _ => none }
def vecLagrangeRow : OpenClaim := { program := "ytlblodiamcnnpaa", sum := "cacd08e784872c5acf2a947f573863f2a718fe10c1c96779f0b0e2389bf195de", func := "cnc/cnclaw04.VecLagrange", spec := "vecLagrange", inPlace := ["math/bits.Sub64"], apart := false }
def VecLagrangeSaid : Prop := vecLagrangeRow.holds Try.pinned (OpenSpec.ofChange vecLagrangeSpec)

/-- ITS FALSE NEIGHBOUR: 'it returns false'. Refute it at one input. -/
def vecLagrangeWrong : ChangeSpec := { name := "vecLagrange", fn := fun _ => fun
  | [d1, d2] => { results := [.lit (.bool false)], args := [d1, d2] }
  | _ => none }
def VecLagrangeWrongFalsely : Prop := vecLagrangeRow.holds Try.pinned (OpenSpec.ofChange vecLagrangeWrong)

/-- 'cnclaw04.VecPlanes': WHATEVER THE INPUT: true; the input reads as it did. -/
def vecPlanesSpec : ChangeSpec := { name := "vecPlanes", fn := fun _ => fun
  | [d1, d2, d3, d4] => { results := [.lit (.bool true)], args := [d1, d2, d3, d4] }
  | _ => none }
def vecPlanesRow : OpenClaim := { program := "ytlblodiamcnnpaa", sum := "cacd08e784872c5acf2a947f573863f2a718fe10c1c96779f0b0e2389bf195de", func := "cnc/cnclaw04.VecPlanes", spec := "vecPlanes", inPlace := ["math/bits.Sub64"], apart := false }
def VecPlanesSaid : Prop := vecPlanesRow.holds Try.pinned (OpenSpec.ofChange vecPlanesSpec)

/-- ITS FALSE NEIGHBOUR: 'it returns false'. Refute it at one input. -/
def vecPlanesWrong : ChangeSpec := { name := "vecPlanes", fn := fun _ => fun
  | [d1, d2, d3, d4] => { results := [.lit (.bool false)], args := [d1, d2, d3, d4] }
  | _ => none }
def VecPlanesWrongFalsely : Prop := vecPlanesRow.holds Try.pinned (OpenSpec.ofChange vecPlanesWrong)

/-- 'cnclaw04.VecBack': WHATEVER THE INPUT: true; the input reads as it did. -/
def vecBackSpec : ChangeSpec := { name := "vecBack", fn := fun _ => fun
  | [d1, d2, d3, d4] => { results := [.lit (.bool true)], args := [d1, d2, d3, d4] }
  | _ => none }
def vecBackRow : OpenClaim := { program := "ytlblodiamcnnpaa", sum := "cacd08e784872c5acf2a947f573863f2a718fe10c1c96779f0b0e2389bf195de", func := "cnc/cnclaw04.VecBack", spec := "vecBack", inPlace := ["math/bits.Sub64"], apart := false }
def VecBackSaid : Prop := vecBackRow.holds Try.pinned (OpenSpec.ofChange vecBackSpec)

/-- ITS FALSE NEIGHBOUR: 'it returns false'. Refute it at one input. -/
def vecBackWrong : ChangeSpec := { name := "vecBack", fn := fun _ => fun
  | [d1, d2, d3, d4] => { results := [.lit (.bool false)], args := [d1, d2, d3, d4] }
  | _ => none }
def VecBackWrongFalsely : Prop := vecBackRow.holds Try.pinned (OpenSpec.ofChange vecBackWrong)

/-- 'cnclaw04.VecSquares': WHATEVER THE INPUT: true; the input reads as it did. -/
def vecSquaresSpec : ChangeSpec := { name := "vecSquares", fn := fun _ => fun
  | [d] => { results := [.lit (.bool true)], args := [d] }
  | _ => none }
def vecSquaresRow : OpenClaim := { program := "ytlblodiamcnnpaa", sum := "cacd08e784872c5acf2a947f573863f2a718fe10c1c96779f0b0e2389bf195de", func := "cnc/cnclaw04.VecSquares", spec := "vecSquares", inPlace := ["math/bits.Sub64"], apart := false }
def VecSquaresSaid : Prop := vecSquaresRow.holds Try.pinned (OpenSpec.ofChange vecSquaresSpec)

/-- ITS FALSE NEIGHBOUR: 'it returns false'. Refute it at one input. -/
def vecSquaresWrong : ChangeSpec := { name := "vecSquares", fn := fun _ => fun
  | [d] => { results := [.lit (.bool false)], args := [d] }
  | _ => none }
def VecSquaresWrongFalsely : Prop := vecSquaresRow.holds Try.pinned (OpenSpec.ofChange vecSquaresWrong)

/- THE SECOND FORM. 'bulk': how many values and letters a reading holds, each counted each time it is reached (what is shared counts as often as it is met; a slice's spare places count too). A statement '..UptoSaid' is the law's where the arguments, and the package variables that the reading takes, are together of bulk at most 1048576: NARROWER than '..Said'. Prove '..Said' where nothing that the law and all that it calls make is longer than what came in: it says more and counts as full. Else prove '..UptoSaid'. A law counts once. -/
mutual
def uptoBulk {H : Type} : DataW H → Nat
  | .lit (.string bytes) => bytes.length + 1
  | .lit _ => 1
  | .nil => 1
  | .ptr d => uptoBulk d + 1
  | .slice elems spare => uptoBulkAll elems + uptoBulkAll spare + 1
  | .agg parts => uptoBulkAll parts + 1
  | .iface _ d => uptoBulk d + 1
  | .map entries => uptoBulkEntries entries + 1
  | .held _ => 1
def uptoBulkAll {H : Type} : List (DataW H) → Nat
  | [] => 0
  | d :: r => uptoBulk d + uptoBulkAll r
def uptoBulkEntries {H : Type} : List (Lit × DataW H) → Nat
  | [] => 0
  | x :: r => uptoBulkEntry x + uptoBulkEntries r
def uptoBulkEntry {H : Type} : Lit × DataW H → Nat
  | (.string bytes, d) => bytes.length + uptoBulk d + 1
  | (_, d) => uptoBulk d + 1
 end
def uptoSmall : (H : Type) → List (DataW H) → Bool := fun _ ds => decide (uptoBulkAll ds ≤ 1048576)
def OpenSpec.upto (s : _root_.Go.ChangeSpec) : _root_.Go.OpenSpec := { _root_.Go.OpenSpec.ofChange s with cond := some uptoSmall }

/-- 'cnclaw04.VecLength', WHERE WHAT IT READS IS OF BULK AT MOST 1048576: true; the input reads as it did. -/
def vecLengthUptoRow : OpenClaim := { program := "ytlblodiamcnnpaa", sum := "cacd08e784872c5acf2a947f573863f2a718fe10c1c96779f0b0e2389bf195de", func := "cnc/cnclaw04.VecLength", spec := "vecLength", inPlace := ["math/bits.Sub64"], apart := false, narrowed := true }
def VecLengthUptoSaid : Prop := vecLengthUptoRow.holds Try.pinned (OpenSpec.upto vecLengthSpec)

/-- 'cnclaw04.VecTriangle', WHERE WHAT IT READS IS OF BULK AT MOST 1048576: true; the input reads as it did. -/
def vecTriangleUptoRow : OpenClaim := { program := "ytlblodiamcnnpaa", sum := "cacd08e784872c5acf2a947f573863f2a718fe10c1c96779f0b0e2389bf195de", func := "cnc/cnclaw04.VecTriangle", spec := "vecTriangle", inPlace := ["math/bits.Sub64"], apart := false, narrowed := true }
def VecTriangleUptoSaid : Prop := vecTriangleUptoRow.holds Try.pinned (OpenSpec.upto vecTriangleSpec)

/-- 'cnclaw04.VecPlaneDots', WHERE WHAT IT READS IS OF BULK AT MOST 1048576: true; the input reads as it did. -/
def vecPlaneDotsUptoRow : OpenClaim := { program := "ytlblodiamcnnpaa", sum := "cacd08e784872c5acf2a947f573863f2a718fe10c1c96779f0b0e2389bf195de", func := "cnc/cnclaw04.VecPlaneDots", spec := "vecPlaneDots", inPlace := ["math/bits.Sub64"], apart := false, narrowed := true }
def VecPlaneDotsUptoSaid : Prop := vecPlaneDotsUptoRow.holds Try.pinned (OpenSpec.upto vecPlaneDotsSpec)

/-- 'cnclaw04.VecWithin', WHERE WHAT IT READS IS OF BULK AT MOST 1048576: true; the input reads as it did. -/
def vecWithinUptoRow : OpenClaim := { program := "ytlblodiamcnnpaa", sum := "cacd08e784872c5acf2a947f573863f2a718fe10c1c96779f0b0e2389bf195de", func := "cnc/cnclaw04.VecWithin", spec := "vecWithin", inPlace := ["math/bits.Sub64"], apart := false, narrowed := true }
def VecWithinUptoSaid : Prop := vecWithinUptoRow.holds Try.pinned (OpenSpec.upto vecWithinSpec)

/-- 'cnclaw04.VecSums', WHERE WHAT IT READS IS OF BULK AT MOST 1048576: true; the input reads as it did. -/
def vecSumsUptoRow : OpenClaim := { program := "ytlblodiamcnnpaa", sum := "cacd08e784872c5acf2a947f573863f2a718fe10c1c96779f0b0e2389bf195de", func := "cnc/cnclaw04.VecSums", spec := "vecSums", inPlace := ["math/bits.Sub64"], apart := false, narrowed := true }
def VecSumsUptoSaid : Prop := vecSumsUptoRow.holds Try.pinned (OpenSpec.upto vecSumsSpec)

/-- 'cnclaw04.VecProducts', WHERE WHAT IT READS IS OF BULK AT MOST 1048576: true; the input reads as it did. -/
def vecProductsUptoRow : OpenClaim := { program := "ytlblodiamcnnpaa", sum := "cacd08e784872c5acf2a947f573863f2a718fe10c1c96779f0b0e2389bf195de", func := "cnc/cnclaw04.VecProducts", spec := "vecProducts", inPlace := ["math/bits.Sub64"], apart := false, narrowed := true }
def VecProductsUptoSaid : Prop := vecProductsUptoRow.holds Try.pinned (OpenSpec.upto vecProductsSpec)

/-- 'cnclaw04.VecGroup', WHERE WHAT IT READS IS OF BULK AT MOST 1048576: true; the input reads as it did. -/
def vecGroupUptoRow : OpenClaim := { program := "ytlblodiamcnnpaa", sum := "cacd08e784872c5acf2a947f573863f2a718fe10c1c96779f0b0e2389bf195de", func := "cnc/cnclaw04.VecGroup", spec := "vecGroup", inPlace := ["math/bits.Sub64"], apart := false, narrowed := true }
def VecGroupUptoSaid : Prop := vecGroupUptoRow.holds Try.pinned (OpenSpec.upto vecGroupSpec)

/-- 'cnclaw04.VecLagrange', WHERE WHAT IT READS IS OF BULK AT MOST 1048576: true; the input reads as it did. -/
def vecLagrangeUptoRow : OpenClaim := { program := "ytlblodiamcnnpaa", sum := "cacd08e784872c5acf2a947f573863f2a718fe10c1c96779f0b0e2389bf195de", func := "cnc/cnclaw04.VecLagrange", spec := "vecLagrange", inPlace := ["math/bits.Sub64"], apart := false, narrowed := true }
def VecLagrangeUptoSaid : Prop := vecLagrangeUptoRow.holds Try.pinned (OpenSpec.upto vecLagrangeSpec)

/-- 'cnclaw04.VecPlanes', WHERE WHAT IT READS IS OF BULK AT MOST 1048576: true; the input reads as it did. -/
def vecPlanesUptoRow : OpenClaim := { program := "ytlblodiamcnnpaa", sum := "cacd08e784872c5acf2a947f573863f2a718fe10c1c96779f0b0e2389bf195de", func := "cnc/cnclaw04.VecPlanes", spec := "vecPlanes", inPlace := ["math/bits.Sub64"], apart := false, narrowed := true }
def VecPlanesUptoSaid : Prop := vecPlanesUptoRow.holds Try.pinned (OpenSpec.upto vecPlanesSpec)

/-- 'cnclaw04.VecBack', WHERE WHAT IT READS IS OF BULK AT MOST 1048576: true; the input reads as it did. -/
def vecBackUptoRow : OpenClaim := { program := "ytlblodiamcnnpaa", sum := "cacd08e784872c5acf2a947f573863f2a718fe10c1c96779f0b0e2389bf195de", func := "cnc/cnclaw04.VecBack", spec := "vecBack", inPlace := ["math/bits.Sub64"], apart := false, narrowed := true }
def VecBackUptoSaid : Prop := vecBackUptoRow.holds Try.pinned (OpenSpec.upto vecBackSpec)

/-- 'cnclaw04.VecSquares', WHERE WHAT IT READS IS OF BULK AT MOST 1048576: true; the input reads as it did. -/
def vecSquaresUptoRow : OpenClaim := { program := "ytlblodiamcnnpaa", sum := "cacd08e784872c5acf2a947f573863f2a718fe10c1c96779f0b0e2389bf195de", func := "cnc/cnclaw04.VecSquares", spec := "vecSquares", inPlace := ["math/bits.Sub64"], apart := false, narrowed := true }
def VecSquaresUptoSaid : Prop := vecSquaresUptoRow.holds Try.pinned (OpenSpec.upto vecSquaresSpec)

end Rows
end Go.Proofs.Ytlblodiamcnnpaa
