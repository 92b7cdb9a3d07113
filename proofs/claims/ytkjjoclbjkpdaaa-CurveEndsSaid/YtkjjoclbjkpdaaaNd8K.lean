/- Proved here: Arc of cncmill: an arc as cncmill makes it; ranges as stated. -/
import Derived.Test.YtkjjoclbjkpdaaaNd7K
namespace Go.Proofs.Ytkjjoclbjkpdaaa
open Go.RowKit
set_option linter.unusedVariables false
set_option linter.unusedSimpArgs false
end Go.Proofs.Ytkjjoclbjkpdaaa
