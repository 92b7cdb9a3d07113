/-
  No cell of these rows narrows 'for every input' (looked for: loops, veiled, ifaces, maps, wideKeys, modest, calm, conditions, laid).
  DERIVED. THE GIVEN ROWS OF THIS SEAT. 9 by the template 'for every input the law returns true; each argument reads behind the call as it read before'; 0 by the template 'total and deterministic' (their statements: YtdjopepipcnmdaaTotals.lean).
  GIVEN WITH THE SEED: the statements are not yours to turn. If you find one false, say at which input.
  Laid BY PROGRAM, IN A SANDBOX (cutbox-rows.mjs): the forced cells as the released guide's own fill.sh prints them over the translation db1c87a1ccad7f2e… (all of the seat's roots in one cut). By AI agents, Wed Nov 11 2026. No macro, syntax, notation, axiom, sorry.
-/
import Derived.Test.YtdjopepipcnmdaaChecked
import GoSem.Claim
import GoSem.ClaimJoined
import GoSem.ClaimMapViews
import Derived.JoinedTies
import Derived.KernelRfl
namespace Go.Proofs.Ytdjopepipcnmdaa
/- THE CELL 'sum', in the pinned program and in every row, IS THE sha256 OF THE DUMP (.gsa) THAT YtdjopepipcnmdaaProg.lean LOADS. Nothing in Lean hashes anything: it is a label: what it is worth is what the hold of that sum in a sandbox is worth. -/
noncomputable def Try.pinned : Pinned := { name := "ytdjopepipcnmdaa", sum := "db1c87a1ccad7f2e71f081486929498d3aced8f797745f9767caa564c1b476d6", checked := Try.checked }
namespace Rows
def none {H : Type} : Left H := { results := [], args := [] }

/-- 'cnclaw24.BlendToward': WHATEVER THE INPUT: true; the input reads as it did. -/
def blendTowardSpec : ChangeSpec := { name := "blendToward", fn := fun _ => fun
  | [d1, d2, d3] => { results := [.lit (.bool true)], args := [d1, d2, d3] }
  | _ => none }
def blendTowardRow : OpenClaim := { program := "ytdjopepipcnmdaa", sum := "db1c87a1ccad7f2e71f081486929498d3aced8f797745f9767caa564c1b476d6", func := "cnc/cnclaw24.BlendToward", spec := "blendToward", inPlace := ["math/bits.Sub64"], named := ["math/bits.divideError", "math/bits.overflowError"], apart := false }
def BlendTowardSaid : Prop := blendTowardRow.holds Try.pinned (OpenSpec.ofChange blendTowardSpec)

/-- ITS FALSE NEIGHBOUR: 'it returns false'. Refute it at one input. -/
def blendTowardWrong : ChangeSpec := { name := "blendToward", fn := fun _ => fun
  | [d1, d2, d3] => { results := [.lit (.bool false)], args := [d1, d2, d3] }
  | _ => none }
def BlendTowardWrongFalsely : Prop := blendTowardRow.holds Try.pinned (OpenSpec.ofChange blendTowardWrong)

/-- 'cnclaw24.BlendDistance': WHATEVER THE INPUT: true; the input reads as it did. -/
def blendDistanceSpec : ChangeSpec := { name := "blendDistance", fn := fun _ => fun
  | [d1, d2, d3] => { results := [.lit (.bool true)], args := [d1, d2, d3] }
  | _ => none }
def blendDistanceRow : OpenClaim := { program := "ytdjopepipcnmdaa", sum := "db1c87a1ccad7f2e71f081486929498d3aced8f797745f9767caa564c1b476d6", func := "cnc/cnclaw24.BlendDistance", spec := "blendDistance", inPlace := ["math/bits.Sub64"], named := ["math/bits.divideError", "math/bits.overflowError"], apart := false }
def BlendDistanceSaid : Prop := blendDistanceRow.holds Try.pinned (OpenSpec.ofChange blendDistanceSpec)

/-- ITS FALSE NEIGHBOUR: 'it returns false'. Refute it at one input. -/
def blendDistanceWrong : ChangeSpec := { name := "blendDistance", fn := fun _ => fun
  | [d1, d2, d3] => { results := [.lit (.bool false)], args := [d1, d2, d3] }
  | _ => none }
def BlendDistanceWrongFalsely : Prop := blendDistanceRow.holds Try.pinned (OpenSpec.ofChange blendDistanceWrong)

/-- 'cnclaw24.BlendReach': WHATEVER THE INPUT: true; the input reads as it did. -/
def blendReachSpec : ChangeSpec := { name := "blendReach", fn := fun _ => fun
  | [d1, d2, d3, d4] => { results := [.lit (.bool true)], args := [d1, d2, d3, d4] }
  | _ => none }
def blendReachRow : OpenClaim := { program := "ytdjopepipcnmdaa", sum := "db1c87a1ccad7f2e71f081486929498d3aced8f797745f9767caa564c1b476d6", func := "cnc/cnclaw24.BlendReach", spec := "blendReach", inPlace := ["math/bits.Sub64"], named := ["math/bits.divideError", "math/bits.overflowError"], apart := false }
def BlendReachSaid : Prop := blendReachRow.holds Try.pinned (OpenSpec.ofChange blendReachSpec)

/-- ITS FALSE NEIGHBOUR: 'it returns false'. Refute it at one input. -/
def blendReachWrong : ChangeSpec := { name := "blendReach", fn := fun _ => fun
  | [d1, d2, d3, d4] => { results := [.lit (.bool false)], args := [d1, d2, d3, d4] }
  | _ => none }
def BlendReachWrongFalsely : Prop := blendReachRow.holds Try.pinned (OpenSpec.ofChange blendReachWrong)

/-- 'cnclaw24.BlendPieces': WHATEVER THE INPUT: true; the input reads as it did. -/
def blendPiecesSpec : ChangeSpec := { name := "blendPieces", fn := fun _ => fun
  | [d1, d2, d3, d4] => { results := [.lit (.bool true)], args := [d1, d2, d3, d4] }
  | _ => none }
def blendPiecesRow : OpenClaim := { program := "ytdjopepipcnmdaa", sum := "db1c87a1ccad7f2e71f081486929498d3aced8f797745f9767caa564c1b476d6", func := "cnc/cnclaw24.BlendPieces", spec := "blendPieces", inPlace := ["math/bits.Sub64"], named := ["math/bits.divideError", "math/bits.overflowError"], apart := false }
def BlendPiecesSaid : Prop := blendPiecesRow.holds Try.pinned (OpenSpec.ofChange blendPiecesSpec)

/-- ITS FALSE NEIGHBOUR: 'it returns false'. Refute it at one input. -/
def blendPiecesWrong : ChangeSpec := { name := "blendPieces", fn := fun _ => fun
  | [d1, d2, d3, d4] => { results := [.lit (.bool false)], args := [d1, d2, d3, d4] }
  | _ => none }
def BlendPiecesWrongFalsely : Prop := blendPiecesRow.holds Try.pinned (OpenSpec.ofChange blendPiecesWrong)

/-- 'cnclaw24.BlendEnds': WHATEVER THE INPUT: true; the input reads as it did. -/
def blendEndsSpec : ChangeSpec := { name := "blendEnds", fn := fun _ => fun
  | [d1, d2, d3, d4] => { results := [.lit (.bool true)], args := [d1, d2, d3, d4] }
  | _ => none }
def blendEndsRow : OpenClaim := { program := "ytdjopepipcnmdaa", sum := "db1c87a1ccad7f2e71f081486929498d3aced8f797745f9767caa564c1b476d6", func := "cnc/cnclaw24.BlendEnds", spec := "blendEnds", inPlace := ["math/bits.Sub64"], named := ["math/bits.divideError", "math/bits.overflowError"], apart := false }
def BlendEndsSaid : Prop := blendEndsRow.holds Try.pinned (OpenSpec.ofChange blendEndsSpec)

/-- ITS FALSE NEIGHBOUR: 'it returns false'. Refute it at one input. -/
def blendEndsWrong : ChangeSpec := { name := "blendEnds", fn := fun _ => fun
  | [d1, d2, d3, d4] => { results := [.lit (.bool false)], args := [d1, d2, d3, d4] }
  | _ => none }
def BlendEndsWrongFalsely : Prop := blendEndsRow.holds Try.pinned (OpenSpec.ofChange blendEndsWrong)

/-- 'cnclaw24.BlendDeviation': WHATEVER THE INPUT: true; the input reads as it did. -/
def blendDeviationSpec : ChangeSpec := { name := "blendDeviation", fn := fun _ => fun
  | [d1, d2, d3, d4] => { results := [.lit (.bool true)], args := [d1, d2, d3, d4] }
  | _ => none }
def blendDeviationRow : OpenClaim := { program := "ytdjopepipcnmdaa", sum := "db1c87a1ccad7f2e71f081486929498d3aced8f797745f9767caa564c1b476d6", func := "cnc/cnclaw24.BlendDeviation", spec := "blendDeviation", inPlace := ["math/bits.Sub64"], named := ["math/bits.divideError", "math/bits.overflowError"], apart := false }
def BlendDeviationSaid : Prop := blendDeviationRow.holds Try.pinned (OpenSpec.ofChange blendDeviationSpec)

/-- ITS FALSE NEIGHBOUR: 'it returns false'. Refute it at one input. -/
def blendDeviationWrong : ChangeSpec := { name := "blendDeviation", fn := fun _ => fun
  | [d1, d2, d3, d4] => { results := [.lit (.bool false)], args := [d1, d2, d3, d4] }
  | _ => none }
def BlendDeviationWrongFalsely : Prop := blendDeviationRow.holds Try.pinned (OpenSpec.ofChange blendDeviationWrong)

/-- 'cnclaw24.BlendSmooth': WHATEVER THE INPUT: true; the input reads as it did. -/
def blendSmoothSpec : ChangeSpec := { name := "blendSmooth", fn := fun _ => fun
  | [d1, d2, d3, d4] => { results := [.lit (.bool true)], args := [d1, d2, d3, d4] }
  | _ => none }
def blendSmoothRow : OpenClaim := { program := "ytdjopepipcnmdaa", sum := "db1c87a1ccad7f2e71f081486929498d3aced8f797745f9767caa564c1b476d6", func := "cnc/cnclaw24.BlendSmooth", spec := "blendSmooth", inPlace := ["math/bits.Sub64"], named := ["math/bits.divideError", "math/bits.overflowError"], apart := false }
def BlendSmoothSaid : Prop := blendSmoothRow.holds Try.pinned (OpenSpec.ofChange blendSmoothSpec)

/-- ITS FALSE NEIGHBOUR: 'it returns false'. Refute it at one input. -/
def blendSmoothWrong : ChangeSpec := { name := "blendSmooth", fn := fun _ => fun
  | [d1, d2, d3, d4] => { results := [.lit (.bool false)], args := [d1, d2, d3, d4] }
  | _ => none }
def BlendSmoothWrongFalsely : Prop := blendSmoothRow.holds Try.pinned (OpenSpec.ofChange blendSmoothWrong)

/-- 'cnclaw24.BlendReversed': WHATEVER THE INPUT: true; the input reads as it did. -/
def blendReversedSpec : ChangeSpec := { name := "blendReversed", fn := fun _ => fun
  | [d1, d2, d3, d4] => { results := [.lit (.bool true)], args := [d1, d2, d3, d4] }
  | _ => none }
def blendReversedRow : OpenClaim := { program := "ytdjopepipcnmdaa", sum := "db1c87a1ccad7f2e71f081486929498d3aced8f797745f9767caa564c1b476d6", func := "cnc/cnclaw24.BlendReversed", spec := "blendReversed", inPlace := ["math/bits.Sub64"], named := ["math/bits.divideError", "math/bits.overflowError"], apart := false }
def BlendReversedSaid : Prop := blendReversedRow.holds Try.pinned (OpenSpec.ofChange blendReversedSpec)

/-- ITS FALSE NEIGHBOUR: 'it returns false'. Refute it at one input. -/
def blendReversedWrong : ChangeSpec := { name := "blendReversed", fn := fun _ => fun
  | [d1, d2, d3, d4] => { results := [.lit (.bool false)], args := [d1, d2, d3, d4] }
  | _ => none }
def BlendReversedWrongFalsely : Prop := blendReversedRow.holds Try.pinned (OpenSpec.ofChange blendReversedWrong)

/-- 'cnclaw24.BlendMoved': WHATEVER THE INPUT: true; the input reads as it did. -/
def blendMovedSpec : ChangeSpec := { name := "blendMoved", fn := fun _ => fun
  | [d1, d2, d3, d4, d5] => { results := [.lit (.bool true)], args := [d1, d2, d3, d4, d5] }
  | _ => none }
def blendMovedRow : OpenClaim := { program := "ytdjopepipcnmdaa", sum := "db1c87a1ccad7f2e71f081486929498d3aced8f797745f9767caa564c1b476d6", func := "cnc/cnclaw24.BlendMoved", spec := "blendMoved", inPlace := ["math/bits.Sub64"], named := ["math/bits.divideError", "math/bits.overflowError"], apart := false }
def BlendMovedSaid : Prop := blendMovedRow.holds Try.pinned (OpenSpec.ofChange blendMovedSpec)

/-- ITS FALSE NEIGHBOUR: 'it returns false'. Refute it at one input. -/
def blendMovedWrong : ChangeSpec := { name := "blendMoved", fn := fun _ => fun
  | [d1, d2, d3, d4, d5] => { results := [.lit (.bool false)], args := [d1, d2, d3, d4, d5] }
  | _ => none }
def BlendMovedWrongFalsely : Prop := blendMovedRow.holds Try.pinned (OpenSpec.ofChange blendMovedWrong)

/- THE SECOND FORM. 'bulk': how many values and letters a reading holds, each counted each time it is reached (what is shared counts as often as it is met; a slice's spare places count too). A statement '..UptoSaid' is the law's where the arguments, and the package variables that the reading takes, are together of bulk at most 1048576: NARROWER than '..Said'. Prove '..Said' where nothing that the law and all that it calls make is longer than what came in: it says more and counts as full. Else prove '..UptoSaid'. A law counts once. -/
mutual
def uptoBulk {H : Type} : DataW H → Nat
  | .lit (.string bytes) => bytes.length + 1
  | .lit _ => 1
  | .nil => 1
  | .ptr d => uptoBulk d + 1
  | .slice elems spare => uptoBulkAll elems + uptoBulkAll spare + 1
  | .agg parts => uptoBulkAll parts + 1
  | .iface _ d => uptoBulk d + 1
  | .map entries => uptoBulkEntries entries + 1
  | .held _ => 1
def uptoBulkAll {H : Type} : List (DataW H) → Nat
  | [] => 0
  | d :: r => uptoBulk d + uptoBulkAll r
def uptoBulkEntries {H : Type} : List (Lit × DataW H) → Nat
  | [] => 0
  | x :: r => uptoBulkEntry x + uptoBulkEntries r
def uptoBulkEntry {H : Type} : Lit × DataW H → Nat
  | (.string bytes, d) => bytes.length + uptoBulk d + 1
  | (_, d) => uptoBulk d + 1
 end
def uptoSmall : (H : Type) → List (DataW H) → Bool := fun _ ds => decide (uptoBulkAll ds ≤ 1048576)
def OpenSpec.upto (s : _root_.Go.ChangeSpec) : _root_.Go.OpenSpec := { _root_.Go.OpenSpec.ofChange s with cond := some uptoSmall }

/-- 'cnclaw24.BlendToward', WHERE WHAT IT READS IS OF BULK AT MOST 1048576: true; the input reads as it did. -/
def blendTowardUptoRow : OpenClaim := { program := "ytdjopepipcnmdaa", sum := "db1c87a1ccad7f2e71f081486929498d3aced8f797745f9767caa564c1b476d6", func := "cnc/cnclaw24.BlendToward", spec := "blendToward", inPlace := ["math/bits.Sub64"], named := ["math/bits.divideError", "math/bits.overflowError"], apart := false, narrowed := true }
def BlendTowardUptoSaid : Prop := blendTowardUptoRow.holds Try.pinned (OpenSpec.upto blendTowardSpec)

/-- 'cnclaw24.BlendDistance', WHERE WHAT IT READS IS OF BULK AT MOST 1048576: true; the input reads as it did. -/
def blendDistanceUptoRow : OpenClaim := { program := "ytdjopepipcnmdaa", sum := "db1c87a1ccad7f2e71f081486929498d3aced8f797745f9767caa564c1b476d6", func := "cnc/cnclaw24.BlendDistance", spec := "blendDistance", inPlace := ["math/bits.Sub64"], named := ["math/bits.divideError", "math/bits.overflowError"], apart := false, narrowed := true }
def BlendDistanceUptoSaid : Prop := blendDistanceUptoRow.holds Try.pinned (OpenSpec.upto blendDistanceSpec)

/-- 'cnclaw24.BlendReach', WHERE WHAT IT READS IS OF BULK AT MOST 1048576: true; the input reads as it did. -/
def blendReachUptoRow : OpenClaim := { program := "ytdjopepipcnmdaa", sum := "db1c87a1ccad7f2e71f081486929498d3aced8f797745f9767caa564c1b476d6", func := "cnc/cnclaw24.BlendReach", spec := "blendReach", inPlace := ["math/bits.Sub64"], named := ["math/bits.divideError", "math/bits.overflowError"], apart := false, narrowed := true }
def BlendReachUptoSaid : Prop := blendReachUptoRow.holds Try.pinned (OpenSpec.upto blendReachSpec)

/-- 'cnclaw24.BlendPieces', WHERE WHAT IT READS IS OF BULK AT MOST 1048576: true; the input reads as it did. -/
def blendPiecesUptoRow : OpenClaim := { program := "ytdjopepipcnmdaa", sum := "db1c87a1ccad7f2e71f081486929498d3aced8f797745f9767caa564c1b476d6", func := "cnc/cnclaw24.BlendPieces", spec := "blendPieces", inPlace := ["math/bits.Sub64"], named := ["math/bits.divideError", "math/bits.overflowError"], apart := false, narrowed := true }
def BlendPiecesUptoSaid : Prop := blendPiecesUptoRow.holds Try.pinned (OpenSpec.upto blendPiecesSpec)

/-- 'cnclaw24.BlendEnds', WHERE WHAT IT READS IS OF BULK AT MOST 1048576: true; the input reads as it did. -/
def blendEndsUptoRow : OpenClaim := { program := "ytdjopepipcnmdaa", sum := "db1c87a1ccad7f2e71f081486929498d3aced8f797745f9767caa564c1b476d6", func := "cnc/cnclaw24.BlendEnds", spec := "blendEnds", inPlace := ["math/bits.Sub64"], named := ["math/bits.divideError", "math/bits.overflowError"], apart := false, narrowed := true }
def BlendEndsUptoSaid : Prop := blendEndsUptoRow.holds Try.pinned (OpenSpec.upto blendEndsSpec)

/-- 'cnclaw24.BlendDeviation', WHERE WHAT IT READS IS OF BULK AT MOST 1048576: true; the input reads as it did. -/
def blendDeviationUptoRow : OpenClaim := { program := "ytdjopepipcnmdaa", sum := "db1c87a1ccad7f2e71f081486929498d3aced8f797745f9767caa564c1b476d6", func := "cnc/cnclaw24.BlendDeviation", spec := "blendDeviation", inPlace := ["math/bits.Sub64"], named := ["math/bits.divideError", "math/bits.overflowError"], apart := false, narrowed := true }
def BlendDeviationUptoSaid : Prop := blendDeviationUptoRow.holds Try.pinned (OpenSpec.upto blendDeviationSpec)

/-- 'cnclaw24.BlendSmooth', WHERE WHAT IT READS IS OF BULK AT MOST 1048576: true; the input reads as it did. -/
def blendSmoothUptoRow : OpenClaim := { program := "ytdjopepipcnmdaa", sum := "db1c87a1ccad7f2e71f081486929498d3aced8f797745f9767caa564c1b476d6", func := "cnc/cnclaw24.BlendSmooth", spec := "blendSmooth", inPlace := ["math/bits.Sub64"], named := ["math/bits.divideError", "math/bits.overflowError"], apart := false, narrowed := true }
def BlendSmoothUptoSaid : Prop := blendSmoothUptoRow.holds Try.pinned (OpenSpec.upto blendSmoothSpec)

/-- 'cnclaw24.BlendReversed', WHERE WHAT IT READS IS OF BULK AT MOST 1048576: true; the input reads as it did. -/
def blendReversedUptoRow : OpenClaim := { program := "ytdjopepipcnmdaa", sum := "db1c87a1ccad7f2e71f081486929498d3aced8f797745f9767caa564c1b476d6", func := "cnc/cnclaw24.BlendReversed", spec := "blendReversed", inPlace := ["math/bits.Sub64"], named := ["math/bits.divideError", "math/bits.overflowError"], apart := false, narrowed := true }
def BlendReversedUptoSaid : Prop := blendReversedUptoRow.holds Try.pinned (OpenSpec.upto blendReversedSpec)

/-- 'cnclaw24.BlendMoved', WHERE WHAT IT READS IS OF BULK AT MOST 1048576: true; the input reads as it did. -/
def blendMovedUptoRow : OpenClaim := { program := "ytdjopepipcnmdaa", sum := "db1c87a1ccad7f2e71f081486929498d3aced8f797745f9767caa564c1b476d6", func := "cnc/cnclaw24.BlendMoved", spec := "blendMoved", inPlace := ["math/bits.Sub64"], named := ["math/bits.divideError", "math/bits.overflowError"], apart := false, narrowed := true }
def BlendMovedUptoSaid : Prop := blendMovedUptoRow.holds Try.pinned (OpenSpec.upto blendMovedSpec)

end Rows
end Go.Proofs.Ytdjopepipcnmdaa
