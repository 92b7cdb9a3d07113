/- Proved here: CurveHelix: the heights of a helix go from one end to the other without turning back. -/
import Derived.Test.YtkjjoclbjkpdaaaNd8K
import Derived.Test.YtkjjoclbjkpdaaaNc3K
import Derived.Test.YtkjjoclbjkpdaaaKa5K
import Derived.Test.YtkjjoclbjkpdaaaNf2K
namespace Go.Proofs.Ytkjjoclbjkpdaaa
open Go.RowKit
set_option linter.unusedVariables false
set_option linter.unusedSimpArgs false
theorem spF_get {l : List Spk} {i : Nat} (h : i < l.length) (c : Nat) : spF l i c = spq l[i] c := by unfold spF; rw [List.getD_eq_getElem?_getD, List.getElem?_eq_getElem h]; rfl
theorem Itm.spokes_last (t : Itm) (c : Nat) : spF t.spokes (t.spokes.length - 1) c = spq t.B c := by
  have h := t.spokes_len
  have e : t.spokes.getLast? = some t.B := by
    have hp := pcs_last t.dir 16 t.full t.A t.B
    unfold Itm.spokes
    rw [List.getLast?_cons, hp]; rfl
  rw [spF_get (by omega)]
  rw [List.getLast?_eq_getElem?, List.getElem?_eq_getElem (by omega)] at e
  rw [Option.some.inj e]
end Go.Proofs.Ytkjjoclbjkpdaaa
