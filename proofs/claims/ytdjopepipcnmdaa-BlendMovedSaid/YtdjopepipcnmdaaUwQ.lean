/- Proved here: a tactic: a region that draws its order and whose operations only read, its callees leaving worlds of a class: walked once, in the order of the text. -/
import Derived.Test.YtdjopepipcnmdaaRows
import Derived.WalkKit
import Derived.ProofKit
import Derived.Deep.QuietTactic
import Derived.Below
namespace Go.Proofs.Ytdjopepipcnmdaa
open Go.RowKit
theorem wp_region_class {P : Program} {id : Nat} {Q : Exit → Act → World → Prop} {a : Act} {w : World} {l : List Oper} (C : World → Prop) (hC : C w.drew) (hm : P.follows .mixedOrders = true) (hB : Region.lexB .any l.toArray = true)
    (h : wpQuiet P l.toArray C (fun a' => ∀ w', C w' → Q .normal a' w') l a) : (Code.region id l.toArray true).wp P Q a w :=
  wp_region_quiet (C := C) hm hB hC (by simpa using h)
end Go.Proofs.Ytdjopepipcnmdaa
