/- Proved here: CurveHelix: the heights of a helix go from one end to the other without turning back. -/
import Derived.Test.YtkjjoclbjkpdaaaNd8J
import Derived.Test.YtkjjoclbjkpdaaaNc3J
import Derived.Test.YtkjjoclbjkpdaaaKa5J
import Derived.Test.YtkjjoclbjkpdaaaNf2J
namespace Go.Proofs.Ytkjjoclbjkpdaaa
open Go.RowKit
set_option linter.unusedVariables false
set_option linter.unusedSimpArgs false
theorem spF_get {l : List Spk} {i : Nat} (h : i < l.length) (c : Nat) : spF l i c = spq l[i] c := by unfold spF; rw [List.getD_eq_getElem?_getD, List.getElem?_eq_getElem h]; rfl
end Go.Proofs.Ytkjjoclbjkpdaaa
