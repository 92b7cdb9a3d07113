/- Proved here: Cmp of package wide compares the two products, for every argument. -/
import Derived.Test.YtdjopepipcnmdaaWw2
import Derived.Test.YtdjopepipcnmdaaWw3
namespace Go.Proofs.Ytdjopepipcnmdaa
open Go.RowKit
set_option linter.unusedVariables false
/-- comparison of integers -/
def cmpZ (P Q : Int) : Int := if P < Q then -1 else if P = Q then 0 else 1
theorem sgC (a b : Int) : (sgI a b = -1 ∧ a * b < 0) ∨ (sgI a b = 0 ∧ a * b = 0) ∨ (sgI a b = 1 ∧ 0 < a * b) := by
  by_cases h0 : a = 0 ∨ b = 0
  · have : a * b = 0 := by rcases h0 with h | h <;> subst h <;> simp
    exact Or.inr (Or.inl ⟨sgI_zero h0, this⟩)
  · by_cases h1 : (a < 0 ∧ b < 0) ∨ (0 < a ∧ 0 < b)
    · refine Or.inr (Or.inr ⟨sgI_pos h1, ?_⟩)
      rcases h1 with h | h
      · exact Int.mul_pos_of_neg_of_neg h.1 h.2
      · exact Int.mul_pos h.1 h.2
    · have h2 : (a < 0 ∧ 0 < b) ∨ (0 < a ∧ b < 0) := by omega
      refine Or.inl ⟨sgI_neg h2, ?_⟩
      rcases h2 with h | h
      · exact Int.mul_neg_of_neg_of_pos h.1 h.2
      · exact Int.mul_neg_of_pos_of_neg h.1 h.2
theorem cmp_abs (a b c d : Int) : cmpN (a.natAbs * b.natAbs) (c.natAbs * d.natAbs) = cmpN (a * b).natAbs (c * d).natAbs := by rw [Int.natAbs_mul, Int.natAbs_mul]
theorem absW {a : Int} (h1 : -9223372036854775808 ≤ a) (h2 : a ≤ 9223372036854775807) : a.natAbs < 18446744073709551616 := by omega
end Go.Proofs.Ytdjopepipcnmdaa

