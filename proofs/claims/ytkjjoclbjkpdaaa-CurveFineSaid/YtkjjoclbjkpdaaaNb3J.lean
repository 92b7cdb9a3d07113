/- Proved here: the ends of an arc, of the reference, and their nominal radii; ranges as stated. -/
import Derived.Test.YtkjjoclbjkpdaaaNb2J
import Derived.Test.YtkjjoclbjkpdaaaWq2J
namespace Go.Proofs.Ytkjjoclbjkpdaaa
open Go.RowKit
set_option linter.unusedVariables false
set_option linter.unusedSimpArgs false
/-- the square root, rounded to the nearest integer -/
def rad (n : Int) : Int := sqV n 2
theorem rad_near (n : Nat) (h : n ≤ 1152921504606846976) : rad (n : Int) = if rtN n * (rtN n + 1) < n then ((rtN n : Nat) : Int) + 1 else ((rtN n : Nat) : Int) := by
  have s := rtN_spec n (by omega)
  have hr : rootN n 2 = rtN n + (if rtN n < n - rtN n * rtN n then 1 else 0) := by
    unfold rootN upI
    by_cases h : rtN n < n - rtN n * rtN n
    · rw [decide_eq_true h, if_pos h]; rfl
    · rw [decide_eq_false h, if_neg h]; rfl
  have hb : rtN n ≤ 1073741824 := by
    refine Nat.le_of_not_lt fun hc => ?_
    have := sq_mono (show 1073741825 ≤ rtN n from hc)
    omega
  have hg : sqG (n : Int) 2 = true := decide_eq_true ⟨by omega, by decide, by decide⟩
  have e : rtN n * (rtN n + 1) = rtN n * rtN n + rtN n := Nat.mul_succ _ _
  rw [e]
  unfold rad sqV sgV
  rw [hg, if_pos rfl, if_neg (by decide), Int.toNat_natCast, if_pos (by rw [hr]; split <;> omega), hr]
  by_cases h1 : rtN n * rtN n + rtN n < n
  · rw [if_pos (by omega), if_pos h1]; rfl
  · rw [if_neg (by omega), if_neg h1]; rfl
theorem sc_bd {x : Int} (h : -2097152 ≤ x ∧ x ≤ 2097152) : 0 ≤ x * 16 * (x * 16) ∧ x * 16 * (x * 16) ≤ 1125899906842624 := by
  have := sq_bdK (x := x * 16) (by omega) (by omega)
  have e : (x * 16 * (x * 16)).natAbs ≤ 33554432 * 33554432 := by rw [Int.natAbs_mul]; exact Nat.mul_le_mul (by omega) (by omega)
  omega
end Go.Proofs.Ytkjjoclbjkpdaaa
