/- Proved here: the pieces of the reversed arc are the pieces in reverse order; the heights do not turn back; no program in sight. -/
import Derived.Test.YtkjjoclbjkpdaaaNe1M
namespace Go.Proofs.Ytkjjoclbjkpdaaa
open Go.RowKit
set_option linter.unusedVariables false
set_option linter.unusedSimpArgs false
theorem stl_rev (dir : Int) (full : Bool) (a b : Spk) : stl (-dir) full b a = stl dir full a b := by
  unfold stl
  have e1 : (b.u * a.w - b.w * a.u) * -dir = (a.u * b.w - a.w * b.u) * dir := by grind
  have e2 : (b.u - a.u) * (b.u - a.u) + (b.w - a.w) * (b.w - a.w) = (a.u - b.u) * (a.u - b.u) + (a.w - b.w) * (a.w - b.w) := by grind
  rw [e1, e2, Int.min_comm]
theorem mdS_rev (dir : Int) (full : Bool) (a b : Spk) (hf : full = true → a.u = b.u ∧ a.w = b.w) : mdS (-dir) full b a = mdS dir full a b := by
  have eu : mdU b.u b.w a.u a.w (-dir) full = mdU a.u a.w b.u b.w dir full := by
    unfold mdU
    cases full
    · have e1 : b.u * a.u + b.w * a.w = a.u * b.u + a.w * b.w := by grind
      have e2 : (b.u * a.w - b.w * a.u) * -dir = (a.u * b.w - a.w * b.u) * dir := by grind
      have e3 : -dir * (a.w - b.w) = dir * (b.w - a.w) := by grind
      simp only [e1, e2, e3, Int.add_comm b.u a.u, Bool.false_eq_true, if_false]
    · simp [(hf rfl).1]
  have ew : mdW b.u b.w a.u a.w (-dir) full = mdW a.u a.w b.u b.w dir full := by
    unfold mdW
    cases full
    · have e1 : b.u * a.u + b.w * a.w = a.u * b.u + a.w * b.w := by grind
      have e2 : (b.u * a.w - b.w * a.u) * -dir = (a.u * b.w - a.w * b.u) * dir := by grind
      have e3 : -dir * (b.u - a.u) = dir * (a.u - b.u) := by grind
      simp only [e1, e2, e3, Int.add_comm b.w a.w, Bool.false_eq_true, if_false]
    · simp [(hf rfl).2]
  unfold mdS
  rw [eu, ew, Int.add_comm b.r a.r, Int.add_comm b.h a.h]
theorem pcs_rev (dir : Int) : ∀ (k : Nat) (full : Bool) (a b : Spk), (full = true → a.u = b.u ∧ a.w = b.w) → (a :: pcs dir k full a b).reverse = b :: pcs (-dir) k full b a
  | 0, full, a, b, hf => rfl
  | k + 1, full, a, b, hf => by
    unfold pcs
    rw [stl_rev, mdS_rev dir full a b hf]
    split
    · rfl
    · have h1 := pcs_rev dir k false a (mdS dir full a b) (fun h => by cases h)
      have h2 := pcs_rev dir k false (mdS dir full a b) b (fun h => by cases h)
      rw [List.reverse_cons] at h1 h2
      rw [List.reverse_cons, List.reverse_append, List.append_assoc, h1, ← List.cons_append, ← h2, List.append_assoc]
      rfl
end Go.Proofs.Ytkjjoclbjkpdaaa
