/- Proved here: a tactic: a region that draws its order and whose operations only read, its callees leaving worlds of a class: walked once, in the order of the text. -/
import Derived.Test.YtiolnpkieooceaaRows
import Derived.WalkKit
import Derived.ProofKit
import Derived.Deep.QuietTactic
import Derived.Below
namespace Go.Proofs.Ytiolnpkieooceaa
open Go.RowKit
theorem wp_region_class {P : Program} {id : Nat} {Q : Exit → Act → World → Prop} {a : Act} {w : World} {l : List Oper} (C : World → Prop) (hC : C w.drew) (hm : P.follows .mixedOrders = true) (hB : Region.lexB .any l.toArray = true)
    (h : wpQuiet P l.toArray C (fun a' => ∀ w', C w' → Q .normal a' w') l a) : (Code.region id l.toArray true).wp P Q a w :=
  wp_region_quiet (C := C) hm hB hC (by simpa using h)
macro "class_step " "(" tac:tactic ")" : tactic => `(tactic|
  (refine wpQuiet_step (fun K hK => ?_)
   go_simp
   first
     | (refine hK _ ?_; clear hK K)
     | (apply Exists.intro
        refine ⟨?_, hK _ ?_⟩
        (first | (intros; rfl) | ($tac:tactic))
        clear hK K)))
/-- at a region that draws: C the class, hC its proof at the world behind the draw; tac meets '∀ w, C w → ..' of a load or of a call -/
macro "go_class " C:term:max hC:term:max "(" tac:tactic ")" : tactic => `(tactic|
  (refine wp_region_class $C $hC (by kernel_rfl) (by kernel_rfl) ?_
   repeat (class_step ($tac:tactic))))
end Go.Proofs.Ytiolnpkieooceaa
