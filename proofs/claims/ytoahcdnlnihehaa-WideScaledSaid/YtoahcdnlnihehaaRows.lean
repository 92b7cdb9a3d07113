/-
  No cell of these rows narrows 'for every input' (looked for: loops, veiled, ifaces, maps, wideKeys, modest, calm, conditions, laid).
  DERIVED. THE GIVEN ROWS OF THIS SEAT. 14 by the template 'for every input the law returns true; each argument reads behind the call as it read before'; 0 by the template 'total and deterministic' (their statements: YtoahcdnlnihehaaTotals.lean).
  GIVEN WITH THE SEED: the statements are not yours to turn. If you find one false, say at which input.
  Laid BY PROGRAM, IN A SANDBOX (cutbox-rows.mjs): the forced cells as the released guide's own fill.sh prints them over the translation eda437face214b6e… (all of the seat's roots in one cut). By AI agents, Wed Nov 11 2026. No macro, syntax, notation, axiom, sorry.
-/
import Derived.Test.YtoahcdnlnihehaaChecked
import GoSem.Claim
import GoSem.ClaimJoined
import GoSem.ClaimMapViews
import Derived.JoinedTies
import Derived.KernelRfl
namespace Go.Proofs.Ytoahcdnlnihehaa
/- THE CELL 'sum', in the pinned program and in every row, IS THE sha256 OF THE DUMP (.gsa) THAT YtoahcdnlnihehaaProg.lean LOADS. Nothing in Lean hashes anything: it is a label: what it is worth is what the hold of that sum in a sandbox is worth. -/
noncomputable def Try.pinned : Pinned := { name := "ytoahcdnlnihehaa", sum := "eda437face214b6ef49b2ee96f66ee6d5d079d26bb85a47ee69912c9277468ae", checked := Try.checked }
namespace Rows
def none {H : Type} : Left H := { results := [], args := [] }

/-- 'cnclaw01.WideCmp': WHATEVER THE INPUT: true; the input reads as it did. -/
def wideCmpSpec : ChangeSpec := { name := "wideCmp", fn := fun _ => fun
  | [d1, d2, d3, d4] => { results := [.lit (.bool true)], args := [d1, d2, d3, d4] }
  | _ => none }
def wideCmpRow : OpenClaim := { program := "ytoahcdnlnihehaa", sum := "eda437face214b6ef49b2ee96f66ee6d5d079d26bb85a47ee69912c9277468ae", func := "cnc/cnclaw01.WideCmp", spec := "wideCmp", inPlace := ["math/bits.Sub64"], named := ["math/bits.divideError", "math/bits.overflowError"], apart := false }
def WideCmpSaid : Prop := wideCmpRow.holds Try.pinned (OpenSpec.ofChange wideCmpSpec)

/-- ITS FALSE NEIGHBOUR: 'it returns false'. Refute it at one input. -/
def wideCmpWrong : ChangeSpec := { name := "wideCmp", fn := fun _ => fun
  | [d1, d2, d3, d4] => { results := [.lit (.bool false)], args := [d1, d2, d3, d4] }
  | _ => none }
def WideCmpWrongFalsely : Prop := wideCmpRow.holds Try.pinned (OpenSpec.ofChange wideCmpWrong)

/-- 'cnclaw01.WideMulDiv': WHATEVER THE INPUT: true; the input reads as it did. -/
def wideMulDivSpec : ChangeSpec := { name := "wideMulDiv", fn := fun _ => fun
  | [d1, d2, d3, d4] => { results := [.lit (.bool true)], args := [d1, d2, d3, d4] }
  | _ => none }
def wideMulDivRow : OpenClaim := { program := "ytoahcdnlnihehaa", sum := "eda437face214b6ef49b2ee96f66ee6d5d079d26bb85a47ee69912c9277468ae", func := "cnc/cnclaw01.WideMulDiv", spec := "wideMulDiv", inPlace := ["math/bits.Sub64"], named := ["math/bits.divideError", "math/bits.overflowError"], apart := false }
def WideMulDivSaid : Prop := wideMulDivRow.holds Try.pinned (OpenSpec.ofChange wideMulDivSpec)

/-- ITS FALSE NEIGHBOUR: 'it returns false'. Refute it at one input. -/
def wideMulDivWrong : ChangeSpec := { name := "wideMulDiv", fn := fun _ => fun
  | [d1, d2, d3, d4] => { results := [.lit (.bool false)], args := [d1, d2, d3, d4] }
  | _ => none }
def WideMulDivWrongFalsely : Prop := wideMulDivRow.holds Try.pinned (OpenSpec.ofChange wideMulDivWrong)

/-- 'cnclaw01.WideQuotient': WHATEVER THE INPUT: true; the input reads as it did. -/
def wideQuotientSpec : ChangeSpec := { name := "wideQuotient", fn := fun _ => fun
  | [d1, d2, d3, d4] => { results := [.lit (.bool true)], args := [d1, d2, d3, d4] }
  | _ => none }
def wideQuotientRow : OpenClaim := { program := "ytoahcdnlnihehaa", sum := "eda437face214b6ef49b2ee96f66ee6d5d079d26bb85a47ee69912c9277468ae", func := "cnc/cnclaw01.WideQuotient", spec := "wideQuotient", inPlace := ["math/bits.Sub64"], named := ["math/bits.divideError", "math/bits.overflowError"], apart := false }
def WideQuotientSaid : Prop := wideQuotientRow.holds Try.pinned (OpenSpec.ofChange wideQuotientSpec)

/-- ITS FALSE NEIGHBOUR: 'it returns false'. Refute it at one input. -/
def wideQuotientWrong : ChangeSpec := { name := "wideQuotient", fn := fun _ => fun
  | [d1, d2, d3, d4] => { results := [.lit (.bool false)], args := [d1, d2, d3, d4] }
  | _ => none }
def WideQuotientWrongFalsely : Prop := wideQuotientRow.holds Try.pinned (OpenSpec.ofChange wideQuotientWrong)

/-- 'cnclaw01.WideSqrt': WHATEVER THE INPUT: true; the input reads as it did. -/
def wideSqrtSpec : ChangeSpec := { name := "wideSqrt", fn := fun _ => fun
  | [d1, d2] => { results := [.lit (.bool true)], args := [d1, d2] }
  | _ => none }
def wideSqrtRow : OpenClaim := { program := "ytoahcdnlnihehaa", sum := "eda437face214b6ef49b2ee96f66ee6d5d079d26bb85a47ee69912c9277468ae", func := "cnc/cnclaw01.WideSqrt", spec := "wideSqrt", inPlace := ["math/bits.Sub64"], named := ["math/bits.divideError", "math/bits.overflowError"], apart := false }
def WideSqrtSaid : Prop := wideSqrtRow.holds Try.pinned (OpenSpec.ofChange wideSqrtSpec)

/-- ITS FALSE NEIGHBOUR: 'it returns false'. Refute it at one input. -/
def wideSqrtWrong : ChangeSpec := { name := "wideSqrt", fn := fun _ => fun
  | [d1, d2] => { results := [.lit (.bool false)], args := [d1, d2] }
  | _ => none }
def WideSqrtWrongFalsely : Prop := wideSqrtRow.holds Try.pinned (OpenSpec.ofChange wideSqrtWrong)

/-- 'cnclaw01.WideOver': WHATEVER THE INPUT: true; the input reads as it did. -/
def wideOverSpec : ChangeSpec := { name := "wideOver", fn := fun _ => fun
  | [d1, d2, d3, d4] => { results := [.lit (.bool true)], args := [d1, d2, d3, d4] }
  | _ => none }
def wideOverRow : OpenClaim := { program := "ytoahcdnlnihehaa", sum := "eda437face214b6ef49b2ee96f66ee6d5d079d26bb85a47ee69912c9277468ae", func := "cnc/cnclaw01.WideOver", spec := "wideOver", inPlace := ["math/bits.Sub64"], named := ["math/bits.divideError", "math/bits.overflowError"], apart := false }
def WideOverSaid : Prop := wideOverRow.holds Try.pinned (OpenSpec.ofChange wideOverSpec)

/-- ITS FALSE NEIGHBOUR: 'it returns false'. Refute it at one input. -/
def wideOverWrong : ChangeSpec := { name := "wideOver", fn := fun _ => fun
  | [d1, d2, d3, d4] => { results := [.lit (.bool false)], args := [d1, d2, d3, d4] }
  | _ => none }
def WideOverWrongFalsely : Prop := wideOverRow.holds Try.pinned (OpenSpec.ofChange wideOverWrong)

/-- 'cnclaw01.WideScaled': WHATEVER THE INPUT: true; the input reads as it did. -/
def wideScaledSpec : ChangeSpec := { name := "wideScaled", fn := fun _ => fun
  | [d1, d2, d3, d4] => { results := [.lit (.bool true)], args := [d1, d2, d3, d4] }
  | _ => none }
def wideScaledRow : OpenClaim := { program := "ytoahcdnlnihehaa", sum := "eda437face214b6ef49b2ee96f66ee6d5d079d26bb85a47ee69912c9277468ae", func := "cnc/cnclaw01.WideScaled", spec := "wideScaled", inPlace := ["math/bits.Sub64"], named := ["math/bits.divideError", "math/bits.overflowError"], apart := false }
def WideScaledSaid : Prop := wideScaledRow.holds Try.pinned (OpenSpec.ofChange wideScaledSpec)

/-- ITS FALSE NEIGHBOUR: 'it returns false'. Refute it at one input. -/
def wideScaledWrong : ChangeSpec := { name := "wideScaled", fn := fun _ => fun
  | [d1, d2, d3, d4] => { results := [.lit (.bool false)], args := [d1, d2, d3, d4] }
  | _ => none }
def WideScaledWrongFalsely : Prop := wideScaledRow.holds Try.pinned (OpenSpec.ofChange wideScaledWrong)

/-- 'cnclaw01.WideModes': WHATEVER THE INPUT: true; the input reads as it did. -/
def wideModesSpec : ChangeSpec := { name := "wideModes", fn := fun _ => fun
  | [d1, d2, d3] => { results := [.lit (.bool true)], args := [d1, d2, d3] }
  | _ => none }
def wideModesRow : OpenClaim := { program := "ytoahcdnlnihehaa", sum := "eda437face214b6ef49b2ee96f66ee6d5d079d26bb85a47ee69912c9277468ae", func := "cnc/cnclaw01.WideModes", spec := "wideModes", inPlace := ["math/bits.Sub64"], named := ["math/bits.divideError", "math/bits.overflowError"], apart := false }
def WideModesSaid : Prop := wideModesRow.holds Try.pinned (OpenSpec.ofChange wideModesSpec)

/-- ITS FALSE NEIGHBOUR: 'it returns false'. Refute it at one input. -/
def wideModesWrong : ChangeSpec := { name := "wideModes", fn := fun _ => fun
  | [d1, d2, d3] => { results := [.lit (.bool false)], args := [d1, d2, d3] }
  | _ => none }
def WideModesWrongFalsely : Prop := wideModesRow.holds Try.pinned (OpenSpec.ofChange wideModesWrong)

/-- 'cnclaw01.WideBrackets': WHATEVER THE INPUT: true; the input reads as it did. -/
def wideBracketsSpec : ChangeSpec := { name := "wideBrackets", fn := fun _ => fun
  | [d] => { results := [.lit (.bool true)], args := [d] }
  | _ => none }
def wideBracketsRow : OpenClaim := { program := "ytoahcdnlnihehaa", sum := "eda437face214b6ef49b2ee96f66ee6d5d079d26bb85a47ee69912c9277468ae", func := "cnc/cnclaw01.WideBrackets", spec := "wideBrackets", inPlace := ["math/bits.Sub64"], named := ["math/bits.divideError", "math/bits.overflowError"], apart := false }
def WideBracketsSaid : Prop := wideBracketsRow.holds Try.pinned (OpenSpec.ofChange wideBracketsSpec)

/-- ITS FALSE NEIGHBOUR: 'it returns false'. Refute it at one input. -/
def wideBracketsWrong : ChangeSpec := { name := "wideBrackets", fn := fun _ => fun
  | [d] => { results := [.lit (.bool false)], args := [d] }
  | _ => none }
def WideBracketsWrongFalsely : Prop := wideBracketsRow.holds Try.pinned (OpenSpec.ofChange wideBracketsWrong)

/-- 'cnclaw01.WideNegates': WHATEVER THE INPUT: true; the input reads as it did. -/
def wideNegatesSpec : ChangeSpec := { name := "wideNegates", fn := fun _ => fun
  | [d1, d2, d3] => { results := [.lit (.bool true)], args := [d1, d2, d3] }
  | _ => none }
def wideNegatesRow : OpenClaim := { program := "ytoahcdnlnihehaa", sum := "eda437face214b6ef49b2ee96f66ee6d5d079d26bb85a47ee69912c9277468ae", func := "cnc/cnclaw01.WideNegates", spec := "wideNegates", inPlace := ["math/bits.Sub64"], named := ["math/bits.divideError", "math/bits.overflowError"], apart := false }
def WideNegatesSaid : Prop := wideNegatesRow.holds Try.pinned (OpenSpec.ofChange wideNegatesSpec)

/-- ITS FALSE NEIGHBOUR: 'it returns false'. Refute it at one input. -/
def wideNegatesWrong : ChangeSpec := { name := "wideNegates", fn := fun _ => fun
  | [d1, d2, d3] => { results := [.lit (.bool false)], args := [d1, d2, d3] }
  | _ => none }
def WideNegatesWrongFalsely : Prop := wideNegatesRow.holds Try.pinned (OpenSpec.ofChange wideNegatesWrong)

/-- 'cnclaw01.WideOrder': WHATEVER THE INPUT: true; the input reads as it did. -/
def wideOrderSpec : ChangeSpec := { name := "wideOrder", fn := fun _ => fun
  | [d1, d2, d3, d4] => { results := [.lit (.bool true)], args := [d1, d2, d3, d4] }
  | _ => none }
def wideOrderRow : OpenClaim := { program := "ytoahcdnlnihehaa", sum := "eda437face214b6ef49b2ee96f66ee6d5d079d26bb85a47ee69912c9277468ae", func := "cnc/cnclaw01.WideOrder", spec := "wideOrder", inPlace := ["math/bits.Sub64"], named := ["math/bits.divideError", "math/bits.overflowError"], apart := false }
def WideOrderSaid : Prop := wideOrderRow.holds Try.pinned (OpenSpec.ofChange wideOrderSpec)

/-- ITS FALSE NEIGHBOUR: 'it returns false'. Refute it at one input. -/
def wideOrderWrong : ChangeSpec := { name := "wideOrder", fn := fun _ => fun
  | [d1, d2, d3, d4] => { results := [.lit (.bool false)], args := [d1, d2, d3, d4] }
  | _ => none }
def WideOrderWrongFalsely : Prop := wideOrderRow.holds Try.pinned (OpenSpec.ofChange wideOrderWrong)

/-- 'cnclaw01.WideCancels': WHATEVER THE INPUT: true; the input reads as it did. -/
def wideCancelsSpec : ChangeSpec := { name := "wideCancels", fn := fun _ => fun
  | [d1, d2, d3] => { results := [.lit (.bool true)], args := [d1, d2, d3] }
  | _ => none }
def wideCancelsRow : OpenClaim := { program := "ytoahcdnlnihehaa", sum := "eda437face214b6ef49b2ee96f66ee6d5d079d26bb85a47ee69912c9277468ae", func := "cnc/cnclaw01.WideCancels", spec := "wideCancels", inPlace := ["math/bits.Sub64"], named := ["math/bits.divideError", "math/bits.overflowError"], apart := false }
def WideCancelsSaid : Prop := wideCancelsRow.holds Try.pinned (OpenSpec.ofChange wideCancelsSpec)

/-- ITS FALSE NEIGHBOUR: 'it returns false'. Refute it at one input. -/
def wideCancelsWrong : ChangeSpec := { name := "wideCancels", fn := fun _ => fun
  | [d1, d2, d3] => { results := [.lit (.bool false)], args := [d1, d2, d3] }
  | _ => none }
def WideCancelsWrongFalsely : Prop := wideCancelsRow.holds Try.pinned (OpenSpec.ofChange wideCancelsWrong)

/-- 'cnclaw01.WideRoot': WHATEVER THE INPUT: true; the input reads as it did. -/
def wideRootSpec : ChangeSpec := { name := "wideRoot", fn := fun _ => fun
  | [d1, d2, d3] => { results := [.lit (.bool true)], args := [d1, d2, d3] }
  | _ => none }
def wideRootRow : OpenClaim := { program := "ytoahcdnlnihehaa", sum := "eda437face214b6ef49b2ee96f66ee6d5d079d26bb85a47ee69912c9277468ae", func := "cnc/cnclaw01.WideRoot", spec := "wideRoot", inPlace := ["math/bits.Sub64"], named := ["math/bits.divideError", "math/bits.overflowError"], apart := false }
def WideRootSaid : Prop := wideRootRow.holds Try.pinned (OpenSpec.ofChange wideRootSpec)

/-- ITS FALSE NEIGHBOUR: 'it returns false'. Refute it at one input. -/
def wideRootWrong : ChangeSpec := { name := "wideRoot", fn := fun _ => fun
  | [d1, d2, d3] => { results := [.lit (.bool false)], args := [d1, d2, d3] }
  | _ => none }
def WideRootWrongFalsely : Prop := wideRootRow.holds Try.pinned (OpenSpec.ofChange wideRootWrong)

/-- 'cnclaw01.WideSquares': WHATEVER THE INPUT: true; the input reads as it did. -/
def wideSquaresSpec : ChangeSpec := { name := "wideSquares", fn := fun _ => fun
  | [d1, d2, d3, d4] => { results := [.lit (.bool true)], args := [d1, d2, d3, d4] }
  | _ => none }
def wideSquaresRow : OpenClaim := { program := "ytoahcdnlnihehaa", sum := "eda437face214b6ef49b2ee96f66ee6d5d079d26bb85a47ee69912c9277468ae", func := "cnc/cnclaw01.WideSquares", spec := "wideSquares", inPlace := ["math/bits.Sub64"], named := ["math/bits.divideError", "math/bits.overflowError"], apart := false }
def WideSquaresSaid : Prop := wideSquaresRow.holds Try.pinned (OpenSpec.ofChange wideSquaresSpec)

/-- ITS FALSE NEIGHBOUR: 'it returns false'. Refute it at one input. -/
def wideSquaresWrong : ChangeSpec := { name := "wideSquares", fn := fun _ => fun
  | [d1, d2, d3, d4] => { results := [.lit (.bool false)], args := [d1, d2, d3, d4] }
  | _ => none }
def WideSquaresWrongFalsely : Prop := wideSquaresRow.holds Try.pinned (OpenSpec.ofChange wideSquaresWrong)

/-- 'cnclaw01.WideRefuses': WHATEVER THE INPUT: true; the input reads as it did. -/
def wideRefusesSpec : ChangeSpec := { name := "wideRefuses", fn := fun _ => fun
  | [d1, d2, d3, d4] => { results := [.lit (.bool true)], args := [d1, d2, d3, d4] }
  | _ => none }
def wideRefusesRow : OpenClaim := { program := "ytoahcdnlnihehaa", sum := "eda437face214b6ef49b2ee96f66ee6d5d079d26bb85a47ee69912c9277468ae", func := "cnc/cnclaw01.WideRefuses", spec := "wideRefuses", inPlace := ["math/bits.Sub64"], named := ["math/bits.divideError", "math/bits.overflowError"], apart := false }
def WideRefusesSaid : Prop := wideRefusesRow.holds Try.pinned (OpenSpec.ofChange wideRefusesSpec)

/-- ITS FALSE NEIGHBOUR: 'it returns false'. Refute it at one input. -/
def wideRefusesWrong : ChangeSpec := { name := "wideRefuses", fn := fun _ => fun
  | [d1, d2, d3, d4] => { results := [.lit (.bool false)], args := [d1, d2, d3, d4] }
  | _ => none }
def WideRefusesWrongFalsely : Prop := wideRefusesRow.holds Try.pinned (OpenSpec.ofChange wideRefusesWrong)

/- THE SECOND FORM. 'bulk': how many values and letters a reading holds, each counted each time it is reached (what is shared counts as often as it is met; a slice's spare places count too). A statement '..UptoSaid' is the law's where the arguments, and the package variables that the reading takes, are together of bulk at most 1048576: NARROWER than '..Said'. Prove '..Said' where nothing that the law and all that it calls make is longer than what came in: it says more and counts as full. Else prove '..UptoSaid'. A law counts once. -/
mutual
def uptoBulk {H : Type} : DataW H → Nat
  | .lit (.string bytes) => bytes.length + 1
  | .lit _ => 1
  | .nil => 1
  | .ptr d => uptoBulk d + 1
  | .slice elems spare => uptoBulkAll elems + uptoBulkAll spare + 1
  | .agg parts => uptoBulkAll parts + 1
  | .iface _ d => uptoBulk d + 1
  | .map entries => uptoBulkEntries entries + 1
  | .held _ => 1
def uptoBulkAll {H : Type} : List (DataW H) → Nat
  | [] => 0
  | d :: r => uptoBulk d + uptoBulkAll r
def uptoBulkEntries {H : Type} : List (Lit × DataW H) → Nat
  | [] => 0
  | x :: r => uptoBulkEntry x + uptoBulkEntries r
def uptoBulkEntry {H : Type} : Lit × DataW H → Nat
  | (.string bytes, d) => bytes.length + uptoBulk d + 1
  | (_, d) => uptoBulk d + 1
 end
def uptoSmall : (H : Type) → List (DataW H) → Bool := fun _ ds => decide (uptoBulkAll ds ≤ 1048576)
def OpenSpec.upto (s : _root_.Go.ChangeSpec) : _root_.Go.OpenSpec := { _root_.Go.OpenSpec.ofChange s with cond := some uptoSmall }

/-- 'cnclaw01.WideCmp', WHERE WHAT IT READS IS OF BULK AT MOST 1048576: true; the input reads as it did. -/
def wideCmpUptoRow : OpenClaim := { program := "ytoahcdnlnihehaa", sum := "eda437face214b6ef49b2ee96f66ee6d5d079d26bb85a47ee69912c9277468ae", func := "cnc/cnclaw01.WideCmp", spec := "wideCmp", inPlace := ["math/bits.Sub64"], named := ["math/bits.divideError", "math/bits.overflowError"], apart := false, narrowed := true }
def WideCmpUptoSaid : Prop := wideCmpUptoRow.holds Try.pinned (OpenSpec.upto wideCmpSpec)

/-- 'cnclaw01.WideMulDiv', WHERE WHAT IT READS IS OF BULK AT MOST 1048576: true; the input reads as it did. -/
def wideMulDivUptoRow : OpenClaim := { program := "ytoahcdnlnihehaa", sum := "eda437face214b6ef49b2ee96f66ee6d5d079d26bb85a47ee69912c9277468ae", func := "cnc/cnclaw01.WideMulDiv", spec := "wideMulDiv", inPlace := ["math/bits.Sub64"], named := ["math/bits.divideError", "math/bits.overflowError"], apart := false, narrowed := true }
def WideMulDivUptoSaid : Prop := wideMulDivUptoRow.holds Try.pinned (OpenSpec.upto wideMulDivSpec)

/-- 'cnclaw01.WideQuotient', WHERE WHAT IT READS IS OF BULK AT MOST 1048576: true; the input reads as it did. -/
def wideQuotientUptoRow : OpenClaim := { program := "ytoahcdnlnihehaa", sum := "eda437face214b6ef49b2ee96f66ee6d5d079d26bb85a47ee69912c9277468ae", func := "cnc/cnclaw01.WideQuotient", spec := "wideQuotient", inPlace := ["math/bits.Sub64"], named := ["math/bits.divideError", "math/bits.overflowError"], apart := false, narrowed := true }
def WideQuotientUptoSaid : Prop := wideQuotientUptoRow.holds Try.pinned (OpenSpec.upto wideQuotientSpec)

/-- 'cnclaw01.WideSqrt', WHERE WHAT IT READS IS OF BULK AT MOST 1048576: true; the input reads as it did. -/
def wideSqrtUptoRow : OpenClaim := { program := "ytoahcdnlnihehaa", sum := "eda437face214b6ef49b2ee96f66ee6d5d079d26bb85a47ee69912c9277468ae", func := "cnc/cnclaw01.WideSqrt", spec := "wideSqrt", inPlace := ["math/bits.Sub64"], named := ["math/bits.divideError", "math/bits.overflowError"], apart := false, narrowed := true }
def WideSqrtUptoSaid : Prop := wideSqrtUptoRow.holds Try.pinned (OpenSpec.upto wideSqrtSpec)

/-- 'cnclaw01.WideOver', WHERE WHAT IT READS IS OF BULK AT MOST 1048576: true; the input reads as it did. -/
def wideOverUptoRow : OpenClaim := { program := "ytoahcdnlnihehaa", sum := "eda437face214b6ef49b2ee96f66ee6d5d079d26bb85a47ee69912c9277468ae", func := "cnc/cnclaw01.WideOver", spec := "wideOver", inPlace := ["math/bits.Sub64"], named := ["math/bits.divideError", "math/bits.overflowError"], apart := false, narrowed := true }
def WideOverUptoSaid : Prop := wideOverUptoRow.holds Try.pinned (OpenSpec.upto wideOverSpec)

/-- 'cnclaw01.WideScaled', WHERE WHAT IT READS IS OF BULK AT MOST 1048576: true; the input reads as it did. -/
def wideScaledUptoRow : OpenClaim := { program := "ytoahcdnlnihehaa", sum := "eda437face214b6ef49b2ee96f66ee6d5d079d26bb85a47ee69912c9277468ae", func := "cnc/cnclaw01.WideScaled", spec := "wideScaled", inPlace := ["math/bits.Sub64"], named := ["math/bits.divideError", "math/bits.overflowError"], apart := false, narrowed := true }
def WideScaledUptoSaid : Prop := wideScaledUptoRow.holds Try.pinned (OpenSpec.upto wideScaledSpec)

/-- 'cnclaw01.WideModes', WHERE WHAT IT READS IS OF BULK AT MOST 1048576: true; the input reads as it did. -/
def wideModesUptoRow : OpenClaim := { program := "ytoahcdnlnihehaa", sum := "eda437face214b6ef49b2ee96f66ee6d5d079d26bb85a47ee69912c9277468ae", func := "cnc/cnclaw01.WideModes", spec := "wideModes", inPlace := ["math/bits.Sub64"], named := ["math/bits.divideError", "math/bits.overflowError"], apart := false, narrowed := true }
def WideModesUptoSaid : Prop := wideModesUptoRow.holds Try.pinned (OpenSpec.upto wideModesSpec)

/-- 'cnclaw01.WideBrackets', WHERE WHAT IT READS IS OF BULK AT MOST 1048576: true; the input reads as it did. -/
def wideBracketsUptoRow : OpenClaim := { program := "ytoahcdnlnihehaa", sum := "eda437face214b6ef49b2ee96f66ee6d5d079d26bb85a47ee69912c9277468ae", func := "cnc/cnclaw01.WideBrackets", spec := "wideBrackets", inPlace := ["math/bits.Sub64"], named := ["math/bits.divideError", "math/bits.overflowError"], apart := false, narrowed := true }
def WideBracketsUptoSaid : Prop := wideBracketsUptoRow.holds Try.pinned (OpenSpec.upto wideBracketsSpec)

/-- 'cnclaw01.WideNegates', WHERE WHAT IT READS IS OF BULK AT MOST 1048576: true; the input reads as it did. -/
def wideNegatesUptoRow : OpenClaim := { program := "ytoahcdnlnihehaa", sum := "eda437face214b6ef49b2ee96f66ee6d5d079d26bb85a47ee69912c9277468ae", func := "cnc/cnclaw01.WideNegates", spec := "wideNegates", inPlace := ["math/bits.Sub64"], named := ["math/bits.divideError", "math/bits.overflowError"], apart := false, narrowed := true }
def WideNegatesUptoSaid : Prop := wideNegatesUptoRow.holds Try.pinned (OpenSpec.upto wideNegatesSpec)

/-- 'cnclaw01.WideOrder', WHERE WHAT IT READS IS OF BULK AT MOST 1048576: true; the input reads as it did. -/
def wideOrderUptoRow : OpenClaim := { program := "ytoahcdnlnihehaa", sum := "eda437face214b6ef49b2ee96f66ee6d5d079d26bb85a47ee69912c9277468ae", func := "cnc/cnclaw01.WideOrder", spec := "wideOrder", inPlace := ["math/bits.Sub64"], named := ["math/bits.divideError", "math/bits.overflowError"], apart := false, narrowed := true }
def WideOrderUptoSaid : Prop := wideOrderUptoRow.holds Try.pinned (OpenSpec.upto wideOrderSpec)

/-- 'cnclaw01.WideCancels', WHERE WHAT IT READS IS OF BULK AT MOST 1048576: true; the input reads as it did. -/
def wideCancelsUptoRow : OpenClaim := { program := "ytoahcdnlnihehaa", sum := "eda437face214b6ef49b2ee96f66ee6d5d079d26bb85a47ee69912c9277468ae", func := "cnc/cnclaw01.WideCancels", spec := "wideCancels", inPlace := ["math/bits.Sub64"], named := ["math/bits.divideError", "math/bits.overflowError"], apart := false, narrowed := true }
def WideCancelsUptoSaid : Prop := wideCancelsUptoRow.holds Try.pinned (OpenSpec.upto wideCancelsSpec)

/-- 'cnclaw01.WideRoot', WHERE WHAT IT READS IS OF BULK AT MOST 1048576: true; the input reads as it did. -/
def wideRootUptoRow : OpenClaim := { program := "ytoahcdnlnihehaa", sum := "eda437face214b6ef49b2ee96f66ee6d5d079d26bb85a47ee69912c9277468ae", func := "cnc/cnclaw01.WideRoot", spec := "wideRoot", inPlace := ["math/bits.Sub64"], named := ["math/bits.divideError", "math/bits.overflowError"], apart := false, narrowed := true }
def WideRootUptoSaid : Prop := wideRootUptoRow.holds Try.pinned (OpenSpec.upto wideRootSpec)

/-- 'cnclaw01.WideSquares', WHERE WHAT IT READS IS OF BULK AT MOST 1048576: true; the input reads as it did. -/
def wideSquaresUptoRow : OpenClaim := { program := "ytoahcdnlnihehaa", sum := "eda437face214b6ef49b2ee96f66ee6d5d079d26bb85a47ee69912c9277468ae", func := "cnc/cnclaw01.WideSquares", spec := "wideSquares", inPlace := ["math/bits.Sub64"], named := ["math/bits.divideError", "math/bits.overflowError"], apart := false, narrowed := true }
def WideSquaresUptoSaid : Prop := wideSquaresUptoRow.holds Try.pinned (OpenSpec.upto wideSquaresSpec)

/-- 'cnclaw01.WideRefuses', WHERE WHAT IT READS IS OF BULK AT MOST 1048576: true; the input reads as it did. -/
def wideRefusesUptoRow : OpenClaim := { program := "ytoahcdnlnihehaa", sum := "eda437face214b6ef49b2ee96f66ee6d5d079d26bb85a47ee69912c9277468ae", func := "cnc/cnclaw01.WideRefuses", spec := "wideRefuses", inPlace := ["math/bits.Sub64"], named := ["math/bits.divideError", "math/bits.overflowError"], apart := false, narrowed := true }
def WideRefusesUptoSaid : Prop := wideRefusesUptoRow.holds Try.pinned (OpenSpec.upto wideRefusesSpec)

end Rows
end Go.Proofs.Ytoahcdnlnihehaa
