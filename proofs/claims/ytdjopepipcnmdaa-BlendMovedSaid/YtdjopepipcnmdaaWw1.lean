/- Proved here: what the small functions of package wide return: size, known, product, compare, sign, signed, grows; every argument. -/
import Derived.Test.YtdjopepipcnmdaaWb1
namespace Go.Proofs.Ytdjopepipcnmdaa
open Go.RowKit
set_option linter.unusedVariables false
theorem ret_u64 {a b : Int} (h : a = b) : Ending.returned (.int .u64 a) = .returned (.int .u64 b) := by rw [h]
theorem ret_i64w {a b : Int} (h : a = b) : Ending.returned (.int .i64 a) = .returned (.int .i64 b) := by rw [h]
theorem btW {w w1 w2 : World} (h1 : Below w.heap.size w w1) (h2 : Below w1.heap.size w1 w2) : Below w.heap.size w w2 := h1.trans (h2.mono h1.size)
set_option maxHeartbeats 400000 in
theorem size_any (n : Int) (w : World) (h1 : -9223372036854775808 ≤ n) (h2 : n ≤ 9223372036854775807) :
    Calls Try.prog 41 #[.int .i64 n] w fun e w' => e = .returned (.int .u64 (n.natAbs : Int)) ∧ w = w' := by
  by_cases h : n < 0
  · go_enter Try.func41, Try.ntmps41
    go_wp2
    go_ret
    exact ⟨ret_u64 (by omega), rfl⟩
  · go_enter Try.func41, Try.ntmps41
    go_wp2
    go_ret
    exact ⟨ret_u64 (by omega), rfl⟩
theorem known_yes (m : Int) (w : World) (h1 : 0 ≤ m) (h2 : m ≤ 2) :
    Calls Try.prog 42 #[.int .i64 m] w fun e w' => e = .returned (.bool true) ∧ w = w' := by
  have h3 : m = 0 ∨ m = 1 ∨ m = 2 := by omega
  rcases h3 with rfl | rfl | rfl <;>
  · go_enter Try.func42, Try.ntmps42
    go_wp2
    go_ret
    exact ⟨rfl, rfl⟩
theorem known_no (m : Int) (w : World) (h : m < 0 ∨ 2 < m) :
    Calls Try.prog 42 #[.int .i64 m] w fun e w' => e = .returned (.bool false) ∧ w = w' := by
  have e0 : (m == 0) = false := by simp; omega
  have e1 : (m == 1) = false := by simp; omega
  have e2 : (m == 2) = false := by simp; omega
  clear h
  go_enter Try.func42, Try.ntmps42
  go_wp2
  go_ret
  exact ⟨rfl, rfl⟩
/-- a number of 128 bits as a value -/
def pairV (P : Nat) : Value := .agg #[.int .u64 ((P / 18446744073709551616 : Nat) : Int), .int .u64 ((P % 18446744073709551616 : Nat) : Int)]
set_option maxHeartbeats 400000 in
theorem product_any (x y : Nat) (hx : x < 18446744073709551616) (hy : y < 18446744073709551616) (w : World) :
    Calls Try.prog 44 #[.int .u64 x, .int .u64 y] w fun e w' => e = .returned (pairV (x * y)) ∧ Below w.heap.size w w' := by
  go_enter Try.func44, Try.ntmps44
  go_wp2_with fail
  refine (mul64_any x y hx hy _).mono ?_
  rintro e w' ⟨rfl, rfl⟩
  go_wp2_with fail
  refine bodyPost_ret (v := pairV (x * y)) ?_ rfl ⟨rfl, ?_⟩
  · simp [results, Try.results44, go_sem, pairV]
  · exact (Below.refl _ _).alloc (Nat.le_refl _) _
end Go.Proofs.Ytdjopepipcnmdaa
