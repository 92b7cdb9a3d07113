/- Proved here: the last region of VecGroup may be walked once in the text's order: its Bool, shown step by step; no conditions. -/
import Derived.Test.YtlblodiamcnnpaaVw7
namespace Go.Proofs.Ytlblodiamcnnpaa
open Go.RowKit
set_option linter.unusedVariables false
/-- the operations of the region of this number -/
def regOps (n : Nat) : Code → Option (Array Oper)
  | .region id ops _ => if id = n then some ops else none
  | .seq a b => (regOps n a).or (regOps n b)
  | .cond _ a b => (regOps n a).or (regOps n b)
  | .block _ b => regOps n b
  | .loop b => regOps n b
  | .scope b => regOps n b
  | _ => none
def firstK (n k : Nat) : Array Bool := ((List.range n).map fun i => decide (i < k)).toArray
theorem firstK_set (n k : Nat) : (firstK n k).setIfInBounds k true = firstK n (k + 1) := by
  apply Array.ext
  · simp [firstK]
  · intro i h1 h2
    simp [firstK] at h1 h2 ⊢
    by_cases h : k = i
    · simp [h]
    · simp [h]; omega
theorem firstK_zero (n : Nat) : Array.replicate n false = firstK n 0 := by
  apply Array.ext
  · simp [firstK]
  · intro i h1 h2
    simp [firstK]
def stepB (md : Region.Mode) (ops : Array Oper) (n k : Nat) : Bool := (Region.ready md ops (firstK n k)).contains k && Region.free md ops (firstK n k) k
theorem lexFrom_steps (md : Region.Mode) (ops : Array Oper) (n : Nat) (hs : ∀ j, j < n → stepB md ops n j = true) (he : (Region.ready md ops (firstK n n)).isEmpty = true) : ∀ l k, k + l = n → Region.lexFrom md ops l k (firstK n k) = true := by
  intro l
  induction l with
  | zero => intro k hk; have : k = n := by omega
            subst this; exact he
  | succ l ih =>
    intro k hk
    have h := hs k (by omega)
    unfold stepB at h
    unfold Region.lexFrom
    rw [h, Bool.true_and, firstK_set]
    exact ih (k + 1) (by omega)
def stepsB (md : Region.Mode) (ops : Array Oper) (n a c : Nat) : Bool := (List.range c).all fun j => stepB md ops n (a + j)
theorem stepsB_spec {md : Region.Mode} {ops : Array Oper} {n a c : Nat} (h : stepsB md ops n a c = true) (j : Nat) (h1 : a ≤ j) (h2 : j < a + c) : stepB md ops n j = true := by
  have := List.all_eq_true.1 h (j - a) (List.mem_range.2 (by omega))
  rwa [show a + (j - a) = j by omega] at this
theorem g_size : ((Try.f9.body.bind (regOps 4)).getD #[]).size = 103 := by kernel_rfl
theorem g_sel : Region.noSelect ((Try.f9.body.bind (regOps 4)).getD #[]) = true := by kernel_rfl
theorem g_0 : stepsB .any ((Try.f9.body.bind (regOps 4)).getD #[]) 103 0 6 = true := by kernel_rfl
theorem g_6 : stepsB .any ((Try.f9.body.bind (regOps 4)).getD #[]) 103 6 6 = true := by kernel_rfl
theorem g_12 : stepsB .any ((Try.f9.body.bind (regOps 4)).getD #[]) 103 12 6 = true := by kernel_rfl
theorem g_18 : stepsB .any ((Try.f9.body.bind (regOps 4)).getD #[]) 103 18 6 = true := by kernel_rfl
theorem g_24 : stepsB .any ((Try.f9.body.bind (regOps 4)).getD #[]) 103 24 6 = true := by kernel_rfl
theorem g_30 : stepsB .any ((Try.f9.body.bind (regOps 4)).getD #[]) 103 30 6 = true := by kernel_rfl
theorem g_36 : stepsB .any ((Try.f9.body.bind (regOps 4)).getD #[]) 103 36 6 = true := by kernel_rfl
theorem g_42 : stepsB .any ((Try.f9.body.bind (regOps 4)).getD #[]) 103 42 6 = true := by kernel_rfl
theorem g_48 : stepsB .any ((Try.f9.body.bind (regOps 4)).getD #[]) 103 48 6 = true := by kernel_rfl
theorem g_54 : stepsB .any ((Try.f9.body.bind (regOps 4)).getD #[]) 103 54 6 = true := by kernel_rfl
theorem g_60 : stepsB .any ((Try.f9.body.bind (regOps 4)).getD #[]) 103 60 6 = true := by kernel_rfl
theorem g_66 : stepsB .any ((Try.f9.body.bind (regOps 4)).getD #[]) 103 66 6 = true := by kernel_rfl
theorem g_72 : stepsB .any ((Try.f9.body.bind (regOps 4)).getD #[]) 103 72 6 = true := by kernel_rfl
theorem g_78 : stepsB .any ((Try.f9.body.bind (regOps 4)).getD #[]) 103 78 6 = true := by kernel_rfl
theorem g_84 : stepsB .any ((Try.f9.body.bind (regOps 4)).getD #[]) 103 84 6 = true := by kernel_rfl
theorem g_90 : stepsB .any ((Try.f9.body.bind (regOps 4)).getD #[]) 103 90 6 = true := by kernel_rfl
theorem g_96 : stepsB .any ((Try.f9.body.bind (regOps 4)).getD #[]) 103 96 6 = true := by kernel_rfl
theorem g_102 : stepsB .any ((Try.f9.body.bind (regOps 4)).getD #[]) 103 102 1 = true := by kernel_rfl
theorem g_end : (Region.ready .any ((Try.f9.body.bind (regOps 4)).getD #[]) (firstK 103 103)).isEmpty = true := by kernel_rfl
theorem g_all (j : Nat) (hj : j < 103) : stepB .any ((Try.f9.body.bind (regOps 4)).getD #[]) 103 j = true := by
  by_cases h0 : j < 6
  · exact stepsB_spec g_0 j (by omega) h0
  by_cases h6 : j < 12
  · exact stepsB_spec g_6 j (by omega) h6
  by_cases h12 : j < 18
  · exact stepsB_spec g_12 j (by omega) h12
  by_cases h18 : j < 24
  · exact stepsB_spec g_18 j (by omega) h18
  by_cases h24 : j < 30
  · exact stepsB_spec g_24 j (by omega) h24
  by_cases h30 : j < 36
  · exact stepsB_spec g_30 j (by omega) h30
  by_cases h36 : j < 42
  · exact stepsB_spec g_36 j (by omega) h36
  by_cases h42 : j < 48
  · exact stepsB_spec g_42 j (by omega) h42
  by_cases h48 : j < 54
  · exact stepsB_spec g_48 j (by omega) h48
  by_cases h54 : j < 60
  · exact stepsB_spec g_54 j (by omega) h54
  by_cases h60 : j < 66
  · exact stepsB_spec g_60 j (by omega) h60
  by_cases h66 : j < 72
  · exact stepsB_spec g_66 j (by omega) h66
  by_cases h72 : j < 78
  · exact stepsB_spec g_72 j (by omega) h72
  by_cases h78 : j < 84
  · exact stepsB_spec g_78 j (by omega) h78
  by_cases h84 : j < 90
  · exact stepsB_spec g_84 j (by omega) h84
  by_cases h90 : j < 96
  · exact stepsB_spec g_90 j (by omega) h90
  by_cases h96 : j < 102
  · exact stepsB_spec g_96 j (by omega) h96
  by_cases h102 : j < 103
  · exact stepsB_spec g_102 j (by omega) h102
  omega
theorem g_lex : Region.lexB .any ((Try.f9.body.bind (regOps 4)).getD #[]) = true := by
  unfold Region.lexB
  rw [g_sel, g_size, firstK_zero, Bool.true_and]
  exact lexFrom_steps .any _ 103 g_all g_end 103 0 rfl
theorem wp_region_class_of {P : Program} {id : Nat} {Q : Exit → Act → World → Prop} {a : Act} {w : World} {l : List Oper} (C : World → Prop) (hC : C w.drew) (hm : P.follows .mixedOrders = true) (ops : Array Oper) (ho : l.toArray = ops) (hB : Region.lexB .any ops = true)
    (h : wpQuiet P l.toArray C (fun a' => ∀ w', C w' → Q .normal a' w') l a) : (Code.region id l.toArray true).wp P Q a w := wp_region_class C hC hm (by rw [ho]; exact hB) h
theorem wp_region_grp {P : Program} {id : Nat} {Q : Exit → Act → World → Prop} {a : Act} {w : World} {l : List Oper} (C : World → Prop) (hC : C w.drew) (hm : P.follows .mixedOrders = true) (ho : l.toArray = ((Try.f9.body.bind (regOps 4)).getD #[]))
    (h : wpQuiet P l.toArray C (fun a' => ∀ w', C w' → Q .normal a' w') l a) : (Code.region id l.toArray true).wp P Q a w := wp_region_class_of C hC hm _ ho g_lex h
end Go.Proofs.Ytlblodiamcnnpaa
