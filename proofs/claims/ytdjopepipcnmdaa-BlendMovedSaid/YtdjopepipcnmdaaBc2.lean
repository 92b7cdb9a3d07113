/- Proved here: the length rounded up; no program in sight. -/
import Derived.Test.YtdjopepipcnmdaaBd1
namespace Go.Proofs.Ytdjopepipcnmdaa
open Go.RowKit
set_option linter.unusedVariables false
theorem len_facts (D : Int) (h0 : 0 ≤ D) (h1 : D ≤ 13510798882111488) : ∃ n : Nat, sqV D 1 = n ∧ n ≤ 134217728 ∧ D ≤ (n : Int) * n ∧ (n = 0 ∨ ((n : Int) - 1) * (n - 1) < D) := by
  obtain ⟨d, rfl⟩ := Int.eq_ofNat_of_zero_le h0
  have s := rtN_spec d (by omega)
  have hr : rootN d 1 = rtN d + (if 0 < d - rtN d * rtN d then 1 else 0) := by
    unfold rootN upI
    by_cases h : 0 < d - rtN d * rtN d
    · rw [decide_eq_true h, if_pos h]; rfl
    · rw [decide_eq_false h, if_neg h]; rfl
  have hb : rtN d ≤ 116237000 := by
    refine Nat.le_of_not_lt fun hc => ?_
    have := sq_mono (show 116237001 ≤ rtN d from hc)
    omega
  have hg : sqG (d : Int) 1 = true := decide_eq_true ⟨h0, by decide, by decide⟩
  have hv : sqV (d : Int) 1 = (rootN d 1 : Nat) := by
    unfold sqV sgV
    rw [hg, if_pos rfl, if_neg (by decide), Int.toNat_natCast, if_pos (by rw [hr]; split <;> omega)]
  refine ⟨rootN d 1, hv, by rw [hr]; split <;> omega, ?_⟩
  rw [hr]
  generalize rtN d = t at *
  have e1 : (t + 1) * (t + 1) = t * t + 2 * t + 1 := by grind
  split
  · refine ⟨?_, Or.inr ?_⟩
    · have : (((t + 1 : Nat) : Int)) * ((t + 1 : Nat) : Int) = (((t + 1) * (t + 1) : Nat) : Int) := by rw [Int.natCast_mul]
      rw [this]; omega
    · have e2 : (((t + 1 : Nat) : Int) - 1) * (((t + 1 : Nat) : Int) - 1) = ((t * t : Nat) : Int) := by rw [Int.natCast_add, Int.natCast_one, Int.add_sub_cancel, Int.natCast_mul]
      rw [e2]; omega
  · rw [Nat.add_zero]
    have e3 : (t : Int) * t = ((t * t : Nat) : Int) := by rw [Int.natCast_mul]
    refine ⟨by rw [e3]; omega, ?_⟩
    rcases t with _ | t
    · exact Or.inl rfl
    · right
      have e2 : (((t + 1 : Nat) : Int) - 1) * (((t + 1 : Nat) : Int) - 1) = ((t * t : Nat) : Int) := by rw [Int.natCast_add, Int.natCast_one, Int.add_sub_cancel, Int.natCast_mul]
      have e4 : (t + 1) * (t + 1) = t * t + 2 * t + 1 := by grind
      rw [e2]; omega
end Go.Proofs.Ytdjopepipcnmdaa
