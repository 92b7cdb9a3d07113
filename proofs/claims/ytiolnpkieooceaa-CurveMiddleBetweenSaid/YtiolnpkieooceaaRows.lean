/-
  No cell of these rows narrows 'for every input' (looked for: loops, veiled, ifaces, maps, wideKeys, modest, calm, conditions, laid).
  DERIVED. THE GIVEN ROWS OF THIS SEAT. 6 by the template 'for every input the law returns true; each argument reads behind the call as it read before'; 0 by the template 'total and deterministic' (their statements: YtiolnpkieooceaaTotals.lean).
  GIVEN WITH THE SEED: the statements are not yours to turn. If you find one false, say at which input.
  Laid BY PROGRAM, IN A SANDBOX (cutbox-rows.mjs): the forced cells as the released guide's own fill.sh prints them over the translation f964335dc34c8b29… (all of the seat's roots in one cut). By AI agents, Wed Nov 11 2026. No macro, syntax, notation, axiom, sorry.
-/
import Derived.Test.YtiolnpkieooceaaChecked
import GoSem.Claim
import GoSem.ClaimJoined
import GoSem.ClaimMapViews
import Derived.JoinedTies
import Derived.KernelRfl
namespace Go.Proofs.Ytiolnpkieooceaa
/- THE CELL 'sum', in the pinned program and in every row, IS THE sha256 OF THE DUMP (.gsa) THAT YtiolnpkieooceaaProg.lean LOADS. Nothing in Lean hashes anything: it is a label: what it is worth is what the hold of that sum in a sandbox is worth. -/
noncomputable def Try.pinned : Pinned := { name := "ytiolnpkieooceaa", sum := "f964335dc34c8b297aabf4d22246a9eea58a7857f840cf5ffc5f1f781bcd4dc5", checked := Try.checked }
namespace Rows
def none {H : Type} : Left H := { results := [], args := [] }

/-- 'cnclaw23.CurveLength': WHATEVER THE INPUT: true; the input reads as it did. -/
def curveLengthSpec : ChangeSpec := { name := "curveLength", fn := fun _ => fun
  | [d1, d2] => { results := [.lit (.bool true)], args := [d1, d2] }
  | _ => none }
def curveLengthRow : OpenClaim := { program := "ytiolnpkieooceaa", sum := "f964335dc34c8b297aabf4d22246a9eea58a7857f840cf5ffc5f1f781bcd4dc5", func := "cnc/cnclaw23.CurveLength", spec := "curveLength", inPlace := ["math/bits.Sub64"], named := ["math/bits.divideError", "math/bits.overflowError"], apart := false }
def CurveLengthSaid : Prop := curveLengthRow.holds Try.pinned (OpenSpec.ofChange curveLengthSpec)

/-- ITS FALSE NEIGHBOUR: 'it returns false'. Refute it at one input. -/
def curveLengthWrong : ChangeSpec := { name := "curveLength", fn := fun _ => fun
  | [d1, d2] => { results := [.lit (.bool false)], args := [d1, d2] }
  | _ => none }
def CurveLengthWrongFalsely : Prop := curveLengthRow.holds Try.pinned (OpenSpec.ofChange curveLengthWrong)

/-- 'cnclaw23.CurveFlat': WHATEVER THE INPUT: true; the input reads as it did. -/
def curveFlatSpec : ChangeSpec := { name := "curveFlat", fn := fun _ => fun
  | [d1, d2] => { results := [.lit (.bool true)], args := [d1, d2] }
  | _ => none }
def curveFlatRow : OpenClaim := { program := "ytiolnpkieooceaa", sum := "f964335dc34c8b297aabf4d22246a9eea58a7857f840cf5ffc5f1f781bcd4dc5", func := "cnc/cnclaw23.CurveFlat", spec := "curveFlat", inPlace := ["math/bits.Sub64"], named := ["math/bits.divideError", "math/bits.overflowError"], apart := false }
def CurveFlatSaid : Prop := curveFlatRow.holds Try.pinned (OpenSpec.ofChange curveFlatSpec)

/-- ITS FALSE NEIGHBOUR: 'it returns false'. Refute it at one input. -/
def curveFlatWrong : ChangeSpec := { name := "curveFlat", fn := fun _ => fun
  | [d1, d2] => { results := [.lit (.bool false)], args := [d1, d2] }
  | _ => none }
def CurveFlatWrongFalsely : Prop := curveFlatRow.holds Try.pinned (OpenSpec.ofChange curveFlatWrong)

/-- 'cnclaw23.CurveMiddle': WHATEVER THE INPUT: true; the input reads as it did. -/
def curveMiddleSpec : ChangeSpec := { name := "curveMiddle", fn := fun _ => fun
  | [d1, d2, d3, d4] => { results := [.lit (.bool true)], args := [d1, d2, d3, d4] }
  | _ => none }
def curveMiddleRow : OpenClaim := { program := "ytiolnpkieooceaa", sum := "f964335dc34c8b297aabf4d22246a9eea58a7857f840cf5ffc5f1f781bcd4dc5", func := "cnc/cnclaw23.CurveMiddle", spec := "curveMiddle", inPlace := ["math/bits.Sub64"], named := ["math/bits.divideError", "math/bits.overflowError"], apart := false }
def CurveMiddleSaid : Prop := curveMiddleRow.holds Try.pinned (OpenSpec.ofChange curveMiddleSpec)

/-- ITS FALSE NEIGHBOUR: 'it returns false'. Refute it at one input. -/
def curveMiddleWrong : ChangeSpec := { name := "curveMiddle", fn := fun _ => fun
  | [d1, d2, d3, d4] => { results := [.lit (.bool false)], args := [d1, d2, d3, d4] }
  | _ => none }
def CurveMiddleWrongFalsely : Prop := curveMiddleRow.holds Try.pinned (OpenSpec.ofChange curveMiddleWrong)

/-- 'cnclaw23.CurveMiddleCircle': WHATEVER THE INPUT: true; the input reads as it did. -/
def curveMiddleCircleSpec : ChangeSpec := { name := "curveMiddleCircle", fn := fun _ => fun
  | [d1, d2, d3, d4] => { results := [.lit (.bool true)], args := [d1, d2, d3, d4] }
  | _ => none }
def curveMiddleCircleRow : OpenClaim := { program := "ytiolnpkieooceaa", sum := "f964335dc34c8b297aabf4d22246a9eea58a7857f840cf5ffc5f1f781bcd4dc5", func := "cnc/cnclaw23.CurveMiddleCircle", spec := "curveMiddleCircle", inPlace := ["math/bits.Sub64"], named := ["math/bits.divideError", "math/bits.overflowError"], apart := false }
def CurveMiddleCircleSaid : Prop := curveMiddleCircleRow.holds Try.pinned (OpenSpec.ofChange curveMiddleCircleSpec)

/-- ITS FALSE NEIGHBOUR: 'it returns false'. Refute it at one input. -/
def curveMiddleCircleWrong : ChangeSpec := { name := "curveMiddleCircle", fn := fun _ => fun
  | [d1, d2, d3, d4] => { results := [.lit (.bool false)], args := [d1, d2, d3, d4] }
  | _ => none }
def CurveMiddleCircleWrongFalsely : Prop := curveMiddleCircleRow.holds Try.pinned (OpenSpec.ofChange curveMiddleCircleWrong)

/-- 'cnclaw23.CurveMiddleBetween': WHATEVER THE INPUT: true; the input reads as it did. -/
def curveMiddleBetweenSpec : ChangeSpec := { name := "curveMiddleBetween", fn := fun _ => fun
  | [d1, d2, d3] => { results := [.lit (.bool true)], args := [d1, d2, d3] }
  | _ => none }
def curveMiddleBetweenRow : OpenClaim := { program := "ytiolnpkieooceaa", sum := "f964335dc34c8b297aabf4d22246a9eea58a7857f840cf5ffc5f1f781bcd4dc5", func := "cnc/cnclaw23.CurveMiddleBetween", spec := "curveMiddleBetween", inPlace := ["math/bits.Sub64"], named := ["math/bits.divideError", "math/bits.overflowError"], apart := false }
def CurveMiddleBetweenSaid : Prop := curveMiddleBetweenRow.holds Try.pinned (OpenSpec.ofChange curveMiddleBetweenSpec)

/-- ITS FALSE NEIGHBOUR: 'it returns false'. Refute it at one input. -/
def curveMiddleBetweenWrong : ChangeSpec := { name := "curveMiddleBetween", fn := fun _ => fun
  | [d1, d2, d3] => { results := [.lit (.bool false)], args := [d1, d2, d3] }
  | _ => none }
def CurveMiddleBetweenWrongFalsely : Prop := curveMiddleBetweenRow.holds Try.pinned (OpenSpec.ofChange curveMiddleBetweenWrong)

/-- 'cnclaw23.CurvePlanes': WHATEVER THE INPUT: true; the input reads as it did. -/
def curvePlanesSpec : ChangeSpec := { name := "curvePlanes", fn := fun _ => fun
  | [d1, d2] => { results := [.lit (.bool true)], args := [d1, d2] }
  | _ => none }
def curvePlanesRow : OpenClaim := { program := "ytiolnpkieooceaa", sum := "f964335dc34c8b297aabf4d22246a9eea58a7857f840cf5ffc5f1f781bcd4dc5", func := "cnc/cnclaw23.CurvePlanes", spec := "curvePlanes", inPlace := ["math/bits.Sub64"], named := ["math/bits.divideError", "math/bits.overflowError"], apart := false }
def CurvePlanesSaid : Prop := curvePlanesRow.holds Try.pinned (OpenSpec.ofChange curvePlanesSpec)

/-- ITS FALSE NEIGHBOUR: 'it returns false'. Refute it at one input. -/
def curvePlanesWrong : ChangeSpec := { name := "curvePlanes", fn := fun _ => fun
  | [d1, d2] => { results := [.lit (.bool false)], args := [d1, d2] }
  | _ => none }
def CurvePlanesWrongFalsely : Prop := curvePlanesRow.holds Try.pinned (OpenSpec.ofChange curvePlanesWrong)

/- THE SECOND FORM. 'bulk': how many values and letters a reading holds, each counted each time it is reached (what is shared counts as often as it is met; a slice's spare places count too). A statement '..UptoSaid' is the law's where the arguments, and the package variables that the reading takes, are together of bulk at most 1048576: NARROWER than '..Said'. Prove '..Said' where nothing that the law and all that it calls make is longer than what came in: it says more and counts as full. Else prove '..UptoSaid'. A law counts once. -/
mutual
def uptoBulk {H : Type} : DataW H → Nat
  | .lit (.string bytes) => bytes.length + 1
  | .lit _ => 1
  | .nil => 1
  | .ptr d => uptoBulk d + 1
  | .slice elems spare => uptoBulkAll elems + uptoBulkAll spare + 1
  | .agg parts => uptoBulkAll parts + 1
  | .iface _ d => uptoBulk d + 1
  | .map entries => uptoBulkEntries entries + 1
  | .held _ => 1
def uptoBulkAll {H : Type} : List (DataW H) → Nat
  | [] => 0
  | d :: r => uptoBulk d + uptoBulkAll r
def uptoBulkEntries {H : Type} : List (Lit × DataW H) → Nat
  | [] => 0
  | x :: r => uptoBulkEntry x + uptoBulkEntries r
def uptoBulkEntry {H : Type} : Lit × DataW H → Nat
  | (.string bytes, d) => bytes.length + uptoBulk d + 1
  | (_, d) => uptoBulk d + 1
 end
def uptoSmall : (H : Type) → List (DataW H) → Bool := fun _ ds => decide (uptoBulkAll ds ≤ 1048576)
def OpenSpec.upto (s : _root_.Go.ChangeSpec) : _root_.Go.OpenSpec := { _root_.Go.OpenSpec.ofChange s with cond := some uptoSmall }

/-- 'cnclaw23.CurveLength', WHERE WHAT IT READS IS OF BULK AT MOST 1048576: true; the input reads as it did. -/
def curveLengthUptoRow : OpenClaim := { program := "ytiolnpkieooceaa", sum := "f964335dc34c8b297aabf4d22246a9eea58a7857f840cf5ffc5f1f781bcd4dc5", func := "cnc/cnclaw23.CurveLength", spec := "curveLength", inPlace := ["math/bits.Sub64"], named := ["math/bits.divideError", "math/bits.overflowError"], apart := false, narrowed := true }
def CurveLengthUptoSaid : Prop := curveLengthUptoRow.holds Try.pinned (OpenSpec.upto curveLengthSpec)

/-- 'cnclaw23.CurveFlat', WHERE WHAT IT READS IS OF BULK AT MOST 1048576: true; the input reads as it did. -/
def curveFlatUptoRow : OpenClaim := { program := "ytiolnpkieooceaa", sum := "f964335dc34c8b297aabf4d22246a9eea58a7857f840cf5ffc5f1f781bcd4dc5", func := "cnc/cnclaw23.CurveFlat", spec := "curveFlat", inPlace := ["math/bits.Sub64"], named := ["math/bits.divideError", "math/bits.overflowError"], apart := false, narrowed := true }
def CurveFlatUptoSaid : Prop := curveFlatUptoRow.holds Try.pinned (OpenSpec.upto curveFlatSpec)

/-- 'cnclaw23.CurveMiddle', WHERE WHAT IT READS IS OF BULK AT MOST 1048576: true; the input reads as it did. -/
def curveMiddleUptoRow : OpenClaim := { program := "ytiolnpkieooceaa", sum := "f964335dc34c8b297aabf4d22246a9eea58a7857f840cf5ffc5f1f781bcd4dc5", func := "cnc/cnclaw23.CurveMiddle", spec := "curveMiddle", inPlace := ["math/bits.Sub64"], named := ["math/bits.divideError", "math/bits.overflowError"], apart := false, narrowed := true }
def CurveMiddleUptoSaid : Prop := curveMiddleUptoRow.holds Try.pinned (OpenSpec.upto curveMiddleSpec)

/-- 'cnclaw23.CurveMiddleCircle', WHERE WHAT IT READS IS OF BULK AT MOST 1048576: true; the input reads as it did. -/
def curveMiddleCircleUptoRow : OpenClaim := { program := "ytiolnpkieooceaa", sum := "f964335dc34c8b297aabf4d22246a9eea58a7857f840cf5ffc5f1f781bcd4dc5", func := "cnc/cnclaw23.CurveMiddleCircle", spec := "curveMiddleCircle", inPlace := ["math/bits.Sub64"], named := ["math/bits.divideError", "math/bits.overflowError"], apart := false, narrowed := true }
def CurveMiddleCircleUptoSaid : Prop := curveMiddleCircleUptoRow.holds Try.pinned (OpenSpec.upto curveMiddleCircleSpec)

/-- 'cnclaw23.CurveMiddleBetween', WHERE WHAT IT READS IS OF BULK AT MOST 1048576: true; the input reads as it did. -/
def curveMiddleBetweenUptoRow : OpenClaim := { program := "ytiolnpkieooceaa", sum := "f964335dc34c8b297aabf4d22246a9eea58a7857f840cf5ffc5f1f781bcd4dc5", func := "cnc/cnclaw23.CurveMiddleBetween", spec := "curveMiddleBetween", inPlace := ["math/bits.Sub64"], named := ["math/bits.divideError", "math/bits.overflowError"], apart := false, narrowed := true }
def CurveMiddleBetweenUptoSaid : Prop := curveMiddleBetweenUptoRow.holds Try.pinned (OpenSpec.upto curveMiddleBetweenSpec)

/-- 'cnclaw23.CurvePlanes', WHERE WHAT IT READS IS OF BULK AT MOST 1048576: true; the input reads as it did. -/
def curvePlanesUptoRow : OpenClaim := { program := "ytiolnpkieooceaa", sum := "f964335dc34c8b297aabf4d22246a9eea58a7857f840cf5ffc5f1f781bcd4dc5", func := "cnc/cnclaw23.CurvePlanes", spec := "curvePlanes", inPlace := ["math/bits.Sub64"], named := ["math/bits.divideError", "math/bits.overflowError"], apart := false, narrowed := true }
def CurvePlanesUptoSaid : Prop := curvePlanesUptoRow.holds Try.pinned (OpenSpec.upto curvePlanesSpec)

end Rows
end Go.Proofs.Ytiolnpkieooceaa
