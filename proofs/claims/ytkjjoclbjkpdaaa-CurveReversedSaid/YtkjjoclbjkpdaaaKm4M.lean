/- Proved here: CurveMiddleCircle returns true for every argument; no conditions but that integers are ints. -/
import Derived.Test.YtkjjoclbjkpdaaaKm3M
import Derived.Test.YtkjjoclbjkpdaaaKc3M
namespace Go.Proofs.Ytkjjoclbjkpdaaa
open Go.RowKit
set_option linter.unusedVariables false
set_option linter.unusedSimpArgs false
theorem nr_zero (r n : Int) (hr : r.natAbs ≤ 67108864) (hn : 1 ≤ n) : nrI 0 r n = 0 := by
  have h := (nrN_spec 0 r n (by decide) hr hn).1
  have e : nrN 0 r n = 0 := by
    rcases hN : nrN 0 r n with _ | N
    · rfl
    · rw [hN, show 2 * (N + 1) - 1 = 2 * N + 1 by omega] at h
      have h2 := Nat.mul_le_mul (Nat.mul_le_mul (show 1 ≤ 2 * N + 1 by omega) (show 1 ≤ 2 * N + 1 by omega)) (show 1 ≤ n.natAbs by omega)
      simp at h h2; omega
  unfold nrI; rw [if_neg (by omega), e]; rfl
theorem near_len2 (x y r n : Int) (hx : x.natAbs ≤ 67108864) (hy : y.natAbs ≤ 67108864) (hr : 1 ≤ r) (hr2 : r ≤ 67108864) (hn : 1 ≤ n) (he : n = x * x + y * y) :
    (r - 1) * (r - 1) ≤ nrI x r n * nrI x r n + nrI y r n * nrI y r n ∧ nrI x r n * nrI x r n + nrI y r n * nrI y r n ≤ (r + 1) * (r + 1) := by
  have h := near_len x y 0 r n hx hy (by decide) hr hr2 hn (by omega)
  rw [nr_zero r n (by omega) hn] at h
  omega
theorem sq_bdL {x : Int} (h1 : -134217728 ≤ x) (h2 : x ≤ 134217728) : 0 ≤ x * x ∧ x * x ≤ 18014398509481984 := by
  have e : (x * x).natAbs ≤ 134217728 * 134217728 := by rw [Int.natAbs_mul]; exact Nat.mul_le_mul (by omega) (by omega)
  have h : 0 ≤ x * x := by
    have := natAbs_sq' x
    omega
  omega
theorem sq_nn (x : Int) : 0 ≤ x * x := by
  have := natAbs_sq' x
  omega
set_option maxHeartbeats 1000000 in
theorem dotR_w (aU aW aR aH bU bW bR bH : Int) (w : World) (h1 : -1152921504606846976 ≤ aU * bU) (h2 : aU * bU ≤ 1152921504606846976) (h3 : -1152921504606846976 ≤ aW * bW) (h4 : aW * bW ≤ 1152921504606846976) :
    Calls Try.prog 14 #[.agg #[.int .i64 aU, .int .i64 aW, .int .i64 aR, .int .i64 aH], .agg #[.int .i64 bU, .int .i64 bW, .int .i64 bR, .int .i64 bH]] w fun e w' => e = .returned (.int .i64 (aU * bU + aW * bW)) ∧ Below w.heap.size w w' := by
  go_enter Try.func14, Try.ntmps14
  go_wp2_with fail
  go_ret
  exact ⟨rfl, (((Below.refl _ _).alloc (Nat.le_refl _) _).alloc (by simp) _)⟩
end Go.Proofs.Ytkjjoclbjkpdaaa
