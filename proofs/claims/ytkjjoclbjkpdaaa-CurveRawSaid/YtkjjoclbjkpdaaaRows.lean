/-
  No cell of these rows narrows 'for every input' (looked for: loops, veiled, ifaces, maps, wideKeys, modest, calm, conditions, laid).
  DERIVED. THE GIVEN ROWS OF THIS SEAT. 7 by the template 'for every input the law returns true; each argument reads behind the call as it read before'; 0 by the template 'total and deterministic' (their statements: YtkjjoclbjkpdaaaTotals.lean).
  GIVEN WITH THE SEED: the statements are not yours to turn. If you find one false, say at which input.
  Laid BY PROGRAM, IN A SANDBOX (cutbox-rows.mjs): the forced cells as the released guide's own fill.sh prints them over the translation 66e3d10251d51800… (all of the seat's roots in one cut). By AI agents, Wed Nov 11 2026. No macro, syntax, notation, axiom, sorry.
-/
import Derived.Test.YtkjjoclbjkpdaaaChecked
import GoSem.Claim
import GoSem.ClaimJoined
import GoSem.ClaimMapViews
import Derived.JoinedTies
import Derived.KernelRfl
namespace Go.Proofs.Ytkjjoclbjkpdaaa
/- THE CELL 'sum', in the pinned program and in every row, IS THE sha256 OF THE DUMP (.gsa) THAT YtkjjoclbjkpdaaaProg.lean LOADS. Nothing in Lean hashes anything: it is a label: what it is worth is what the hold of that sum in a sandbox is worth. -/
noncomputable def Try.pinned : Pinned := { name := "ytkjjoclbjkpdaaa", sum := "66e3d10251d51800428645fd728b44c5456dc4433ee17d461220981acb3b6d04", checked := Try.checked }
namespace Rows
def none {H : Type} : Left H := { results := [], args := [] }

/-- 'cnclaw23.CurveBand': WHATEVER THE INPUT: true; the input reads as it did. -/
def curveBandSpec : ChangeSpec := { name := "curveBand", fn := fun _ => fun
  | [d1, d2] => { results := [.lit (.bool true)], args := [d1, d2] }
  | _ => none }
def curveBandRow : OpenClaim := { program := "ytkjjoclbjkpdaaa", sum := "66e3d10251d51800428645fd728b44c5456dc4433ee17d461220981acb3b6d04", func := "cnc/cnclaw23.CurveBand", spec := "curveBand", inPlace := ["math/bits.Sub64"], recurses := true, named := ["math/bits.divideError", "math/bits.overflowError"], apart := false }
def CurveBandSaid : Prop := curveBandRow.holds Try.pinned (OpenSpec.ofChange curveBandSpec)

/-- ITS FALSE NEIGHBOUR: 'it returns false'. Refute it at one input. -/
def curveBandWrong : ChangeSpec := { name := "curveBand", fn := fun _ => fun
  | [d1, d2] => { results := [.lit (.bool false)], args := [d1, d2] }
  | _ => none }
def CurveBandWrongFalsely : Prop := curveBandRow.holds Try.pinned (OpenSpec.ofChange curveBandWrong)

/-- 'cnclaw23.CurveFine': WHATEVER THE INPUT: true; the input reads as it did. -/
def curveFineSpec : ChangeSpec := { name := "curveFine", fn := fun _ => fun
  | [d1, d2] => { results := [.lit (.bool true)], args := [d1, d2] }
  | _ => none }
def curveFineRow : OpenClaim := { program := "ytkjjoclbjkpdaaa", sum := "66e3d10251d51800428645fd728b44c5456dc4433ee17d461220981acb3b6d04", func := "cnc/cnclaw23.CurveFine", spec := "curveFine", inPlace := ["math/bits.Sub64"], recurses := true, named := ["math/bits.divideError", "math/bits.overflowError"], apart := false }
def CurveFineSaid : Prop := curveFineRow.holds Try.pinned (OpenSpec.ofChange curveFineSpec)

/-- ITS FALSE NEIGHBOUR: 'it returns false'. Refute it at one input. -/
def curveFineWrong : ChangeSpec := { name := "curveFine", fn := fun _ => fun
  | [d1, d2] => { results := [.lit (.bool false)], args := [d1, d2] }
  | _ => none }
def CurveFineWrongFalsely : Prop := curveFineRow.holds Try.pinned (OpenSpec.ofChange curveFineWrong)

/-- 'cnclaw23.CurveHelix': WHATEVER THE INPUT: true; the input reads as it did. -/
def curveHelixSpec : ChangeSpec := { name := "curveHelix", fn := fun _ => fun
  | [d1, d2] => { results := [.lit (.bool true)], args := [d1, d2] }
  | _ => none }
def curveHelixRow : OpenClaim := { program := "ytkjjoclbjkpdaaa", sum := "66e3d10251d51800428645fd728b44c5456dc4433ee17d461220981acb3b6d04", func := "cnc/cnclaw23.CurveHelix", spec := "curveHelix", inPlace := ["math/bits.Sub64"], recurses := true, named := ["math/bits.divideError", "math/bits.overflowError"], apart := false }
def CurveHelixSaid : Prop := curveHelixRow.holds Try.pinned (OpenSpec.ofChange curveHelixSpec)

/-- ITS FALSE NEIGHBOUR: 'it returns false'. Refute it at one input. -/
def curveHelixWrong : ChangeSpec := { name := "curveHelix", fn := fun _ => fun
  | [d1, d2] => { results := [.lit (.bool false)], args := [d1, d2] }
  | _ => none }
def CurveHelixWrongFalsely : Prop := curveHelixRow.holds Try.pinned (OpenSpec.ofChange curveHelixWrong)

/-- 'cnclaw23.CurveRaw': WHATEVER THE INPUT: true; the input reads as it did. -/
def curveRawSpec : ChangeSpec := { name := "curveRaw", fn := fun _ => fun
  | [d] => { results := [.lit (.bool true)], args := [d] }
  | _ => none }
def curveRawRow : OpenClaim := { program := "ytkjjoclbjkpdaaa", sum := "66e3d10251d51800428645fd728b44c5456dc4433ee17d461220981acb3b6d04", func := "cnc/cnclaw23.CurveRaw", spec := "curveRaw", inPlace := ["math/bits.Sub64"], recurses := true, named := ["math/bits.divideError", "math/bits.overflowError"], apart := false }
def CurveRawSaid : Prop := curveRawRow.holds Try.pinned (OpenSpec.ofChange curveRawSpec)

/-- ITS FALSE NEIGHBOUR: 'it returns false'. Refute it at one input. -/
def curveRawWrong : ChangeSpec := { name := "curveRaw", fn := fun _ => fun
  | [d] => { results := [.lit (.bool false)], args := [d] }
  | _ => none }
def CurveRawWrongFalsely : Prop := curveRawRow.holds Try.pinned (OpenSpec.ofChange curveRawWrong)

/-- 'cnclaw23.CurveChords': WHATEVER THE INPUT: true; the input reads as it did. -/
def curveChordsSpec : ChangeSpec := { name := "curveChords", fn := fun _ => fun
  | [d1, d2] => { results := [.lit (.bool true)], args := [d1, d2] }
  | _ => none }
def curveChordsRow : OpenClaim := { program := "ytkjjoclbjkpdaaa", sum := "66e3d10251d51800428645fd728b44c5456dc4433ee17d461220981acb3b6d04", func := "cnc/cnclaw23.CurveChords", spec := "curveChords", inPlace := ["math/bits.Sub64"], recurses := true, named := ["math/bits.divideError", "math/bits.overflowError"], apart := false }
def CurveChordsSaid : Prop := curveChordsRow.holds Try.pinned (OpenSpec.ofChange curveChordsSpec)

/-- ITS FALSE NEIGHBOUR: 'it returns false'. Refute it at one input. -/
def curveChordsWrong : ChangeSpec := { name := "curveChords", fn := fun _ => fun
  | [d1, d2] => { results := [.lit (.bool false)], args := [d1, d2] }
  | _ => none }
def CurveChordsWrongFalsely : Prop := curveChordsRow.holds Try.pinned (OpenSpec.ofChange curveChordsWrong)

/-- 'cnclaw23.CurveEnds': WHATEVER THE INPUT: true; the input reads as it did. -/
def curveEndsSpec : ChangeSpec := { name := "curveEnds", fn := fun _ => fun
  | [d1, d2] => { results := [.lit (.bool true)], args := [d1, d2] }
  | _ => none }
def curveEndsRow : OpenClaim := { program := "ytkjjoclbjkpdaaa", sum := "66e3d10251d51800428645fd728b44c5456dc4433ee17d461220981acb3b6d04", func := "cnc/cnclaw23.CurveEnds", spec := "curveEnds", inPlace := ["math/bits.Sub64"], recurses := true, named := ["math/bits.divideError", "math/bits.overflowError"], apart := false }
def CurveEndsSaid : Prop := curveEndsRow.holds Try.pinned (OpenSpec.ofChange curveEndsSpec)

/-- ITS FALSE NEIGHBOUR: 'it returns false'. Refute it at one input. -/
def curveEndsWrong : ChangeSpec := { name := "curveEnds", fn := fun _ => fun
  | [d1, d2] => { results := [.lit (.bool false)], args := [d1, d2] }
  | _ => none }
def CurveEndsWrongFalsely : Prop := curveEndsRow.holds Try.pinned (OpenSpec.ofChange curveEndsWrong)

/-- 'cnclaw23.CurveReversed': WHATEVER THE INPUT: true; the input reads as it did. -/
def curveReversedSpec : ChangeSpec := { name := "curveReversed", fn := fun _ => fun
  | [d1, d2] => { results := [.lit (.bool true)], args := [d1, d2] }
  | _ => none }
def curveReversedRow : OpenClaim := { program := "ytkjjoclbjkpdaaa", sum := "66e3d10251d51800428645fd728b44c5456dc4433ee17d461220981acb3b6d04", func := "cnc/cnclaw23.CurveReversed", spec := "curveReversed", inPlace := ["math/bits.Sub64"], recurses := true, named := ["math/bits.divideError", "math/bits.overflowError"], apart := false }
def CurveReversedSaid : Prop := curveReversedRow.holds Try.pinned (OpenSpec.ofChange curveReversedSpec)

/-- ITS FALSE NEIGHBOUR: 'it returns false'. Refute it at one input. -/
def curveReversedWrong : ChangeSpec := { name := "curveReversed", fn := fun _ => fun
  | [d1, d2] => { results := [.lit (.bool false)], args := [d1, d2] }
  | _ => none }
def CurveReversedWrongFalsely : Prop := curveReversedRow.holds Try.pinned (OpenSpec.ofChange curveReversedWrong)

/- THE SECOND FORM. 'bulk': how many values and letters a reading holds, each counted each time it is reached (what is shared counts as often as it is met; a slice's spare places count too). A statement '..UptoSaid' is the law's where the arguments, and the package variables that the reading takes, are together of bulk at most 1048576: NARROWER than '..Said'. Prove '..Said' where nothing that the law and all that it calls make is longer than what came in: it says more and counts as full. Else prove '..UptoSaid'. A law counts once. -/
mutual
def uptoBulk {H : Type} : DataW H → Nat
  | .lit (.string bytes) => bytes.length + 1
  | .lit _ => 1
  | .nil => 1
  | .ptr d => uptoBulk d + 1
  | .slice elems spare => uptoBulkAll elems + uptoBulkAll spare + 1
  | .agg parts => uptoBulkAll parts + 1
  | .iface _ d => uptoBulk d + 1
  | .map entries => uptoBulkEntries entries + 1
  | .held _ => 1
def uptoBulkAll {H : Type} : List (DataW H) → Nat
  | [] => 0
  | d :: r => uptoBulk d + uptoBulkAll r
def uptoBulkEntries {H : Type} : List (Lit × DataW H) → Nat
  | [] => 0
  | x :: r => uptoBulkEntry x + uptoBulkEntries r
def uptoBulkEntry {H : Type} : Lit × DataW H → Nat
  | (.string bytes, d) => bytes.length + uptoBulk d + 1
  | (_, d) => uptoBulk d + 1
 end
def uptoSmall : (H : Type) → List (DataW H) → Bool := fun _ ds => decide (uptoBulkAll ds ≤ 1048576)
def OpenSpec.upto (s : _root_.Go.ChangeSpec) : _root_.Go.OpenSpec := { _root_.Go.OpenSpec.ofChange s with cond := some uptoSmall }

/-- 'cnclaw23.CurveBand', WHERE WHAT IT READS IS OF BULK AT MOST 1048576: true; the input reads as it did. -/
def curveBandUptoRow : OpenClaim := { program := "ytkjjoclbjkpdaaa", sum := "66e3d10251d51800428645fd728b44c5456dc4433ee17d461220981acb3b6d04", func := "cnc/cnclaw23.CurveBand", spec := "curveBand", inPlace := ["math/bits.Sub64"], recurses := true, named := ["math/bits.divideError", "math/bits.overflowError"], apart := false, narrowed := true }
def CurveBandUptoSaid : Prop := curveBandUptoRow.holds Try.pinned (OpenSpec.upto curveBandSpec)

/-- 'cnclaw23.CurveFine', WHERE WHAT IT READS IS OF BULK AT MOST 1048576: true; the input reads as it did. -/
def curveFineUptoRow : OpenClaim := { program := "ytkjjoclbjkpdaaa", sum := "66e3d10251d51800428645fd728b44c5456dc4433ee17d461220981acb3b6d04", func := "cnc/cnclaw23.CurveFine", spec := "curveFine", inPlace := ["math/bits.Sub64"], recurses := true, named := ["math/bits.divideError", "math/bits.overflowError"], apart := false, narrowed := true }
def CurveFineUptoSaid : Prop := curveFineUptoRow.holds Try.pinned (OpenSpec.upto curveFineSpec)

/-- 'cnclaw23.CurveHelix', WHERE WHAT IT READS IS OF BULK AT MOST 1048576: true; the input reads as it did. -/
def curveHelixUptoRow : OpenClaim := { program := "ytkjjoclbjkpdaaa", sum := "66e3d10251d51800428645fd728b44c5456dc4433ee17d461220981acb3b6d04", func := "cnc/cnclaw23.CurveHelix", spec := "curveHelix", inPlace := ["math/bits.Sub64"], recurses := true, named := ["math/bits.divideError", "math/bits.overflowError"], apart := false, narrowed := true }
def CurveHelixUptoSaid : Prop := curveHelixUptoRow.holds Try.pinned (OpenSpec.upto curveHelixSpec)

/-- 'cnclaw23.CurveRaw', WHERE WHAT IT READS IS OF BULK AT MOST 1048576: true; the input reads as it did. -/
def curveRawUptoRow : OpenClaim := { program := "ytkjjoclbjkpdaaa", sum := "66e3d10251d51800428645fd728b44c5456dc4433ee17d461220981acb3b6d04", func := "cnc/cnclaw23.CurveRaw", spec := "curveRaw", inPlace := ["math/bits.Sub64"], recurses := true, named := ["math/bits.divideError", "math/bits.overflowError"], apart := false, narrowed := true }
def CurveRawUptoSaid : Prop := curveRawUptoRow.holds Try.pinned (OpenSpec.upto curveRawSpec)

/-- 'cnclaw23.CurveChords', WHERE WHAT IT READS IS OF BULK AT MOST 1048576: true; the input reads as it did. -/
def curveChordsUptoRow : OpenClaim := { program := "ytkjjoclbjkpdaaa", sum := "66e3d10251d51800428645fd728b44c5456dc4433ee17d461220981acb3b6d04", func := "cnc/cnclaw23.CurveChords", spec := "curveChords", inPlace := ["math/bits.Sub64"], recurses := true, named := ["math/bits.divideError", "math/bits.overflowError"], apart := false, narrowed := true }
def CurveChordsUptoSaid : Prop := curveChordsUptoRow.holds Try.pinned (OpenSpec.upto curveChordsSpec)

/-- 'cnclaw23.CurveEnds', WHERE WHAT IT READS IS OF BULK AT MOST 1048576: true; the input reads as it did. -/
def curveEndsUptoRow : OpenClaim := { program := "ytkjjoclbjkpdaaa", sum := "66e3d10251d51800428645fd728b44c5456dc4433ee17d461220981acb3b6d04", func := "cnc/cnclaw23.CurveEnds", spec := "curveEnds", inPlace := ["math/bits.Sub64"], recurses := true, named := ["math/bits.divideError", "math/bits.overflowError"], apart := false, narrowed := true }
def CurveEndsUptoSaid : Prop := curveEndsUptoRow.holds Try.pinned (OpenSpec.upto curveEndsSpec)

/-- 'cnclaw23.CurveReversed', WHERE WHAT IT READS IS OF BULK AT MOST 1048576: true; the input reads as it did. -/
def curveReversedUptoRow : OpenClaim := { program := "ytkjjoclbjkpdaaa", sum := "66e3d10251d51800428645fd728b44c5456dc4433ee17d461220981acb3b6d04", func := "cnc/cnclaw23.CurveReversed", spec := "curveReversed", inPlace := ["math/bits.Sub64"], recurses := true, named := ["math/bits.divideError", "math/bits.overflowError"], apart := false, narrowed := true }
def CurveReversedUptoSaid : Prop := curveReversedUptoRow.holds Try.pinned (OpenSpec.upto curveReversedSpec)

end Rows
end Go.Proofs.Ytkjjoclbjkpdaaa
