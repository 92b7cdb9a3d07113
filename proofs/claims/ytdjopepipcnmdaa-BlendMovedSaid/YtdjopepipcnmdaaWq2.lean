/- Proved here: the plain function for roots is the exact root, rounded; no program in sight; every argument. -/
import Derived.Test.YtdjopepipcnmdaaWr4
namespace Go.Proofs.Ytdjopepipcnmdaa
open Go.RowKit
set_option linter.unusedVariables false
/-- r is the square root of P, rounded by the mode m -/
def SQ (m : Int) (P r : Nat) : Prop := (m = 0 → r * r ≤ P ∧ P < r * r + 2 * r + 1) ∧ (m = 1 → P ≤ r * r ∧ (r = 0 ∨ r * r < P + 2 * r - 1)) ∧ (m = 2 → P ≤ r * r + r ∧ (r = 0 ∨ r * r < P + r))
theorem rootN_spec (P : Nat) (m : Int) (h : P < 340282366920938463463374607431768211456) (hm : m = 0 ∨ m = 1 ∨ m = 2) : SQ m P (rootN P m) := by
  have s := rtN_spec P h
  unfold rootN
  generalize rtN P = r at *
  have e : (r + 1) * (r + 1) = r * r + 2 * r + 1 := by grind
  rw [e] at s
  rcases hm with rfl | rfl | rfl
  · rw [up_false (by omega), if_neg (by decide)]
    exact ⟨fun _ => s, fun h => absurd h (by decide), fun h => absurd h (by decide)⟩
  · refine ⟨fun h => absurd h (by decide), fun _ => ?_, fun h => absurd h (by decide)⟩
    by_cases h0 : 0 < P - r * r
    · rw [up_true (Or.inl ⟨rfl, h0⟩), if_pos rfl, e]; omega
    · rw [up_false (by omega), if_neg (by decide), Nat.add_zero]; omega
  · refine ⟨fun h => absurd h (by decide), fun h => absurd h (by decide), fun _ => ?_⟩
    by_cases h0 : r < P - r * r
    · rw [up_true (Or.inr ⟨rfl, h0⟩), if_pos rfl, e]; omega
    · rw [up_false (by omega), if_neg (by decide), Nat.add_zero]; omega
theorem SQ.le {m : Int} {P r : Nat} (hm : m = 0 ∨ m = 1 ∨ m = 2) (h : SQ m P r) : r = 0 ∨ r * r < P + 2 * r := by
  rcases hm with rfl | rfl | rfl
  · have := h.1 rfl; omega
  · have := h.2.1 rfl; omega
  · have := h.2.2 rfl; omega
/-- the root is an int where the number is small enough -/
theorem SQ.fits {m : Int} {P r : Nat} (hm : m = 0 ∨ m = 1 ∨ m = 2) (h : SQ m P r) (B : Nat) (hB : P ≤ B * B) : r ≤ B + 1 := by
  refine Nat.le_of_not_lt fun hc => ?_
  have h1 := h.le hm
  obtain ⟨k, rfl⟩ : ∃ k, r = B + 2 + k := ⟨r - (B + 2), by omega⟩
  have e : (B + 2 + k) * (B + 2 + k) = B * B + 2 * B + 2 * (B * k) + 2 * B + 4 + 4 * k + k * k := by grind
  rw [e] at h1
  have : 0 ≤ B * k := Nat.zero_le _
  have : 0 ≤ k * k := Nat.zero_le _
  omega
theorem sq_rel (n m : Int) (h0 : 0 ≤ n) (h1 : n ≤ 9223372036854775807) (hm : m = 0 ∨ m = 1 ∨ m = 2) :
    ∃ r : Nat, SQ m n.toNat r ∧ r ≤ 3037000501 ∧ sqO n m = true ∧ sqV n m = r := by
  have s := rootN_spec n.toNat m (Nat.lt_of_le_of_lt (show n.toNat ≤ 9223372036854775807 by omega) (by decide)) hm
  have f := s.fits hm 3037000500 (Nat.le_trans (show n.toNat ≤ 9223372036854775807 by omega) (by decide))
  have hg : sqG n m = true := decide_eq_true (by omega)
  refine ⟨rootN n.toNat m, s, f, ?_, ?_⟩
  · unfold sqO; rw [hg, if_pos rfl]; unfold sgO; rw [if_neg (by decide)]; exact decide_eq_true (by omega)
  · unfold sqV; rw [hg, if_pos rfl]; unfold sgV; rw [if_neg (by decide), if_pos (by omega)]
theorem sq_not (n m : Int) (h : n < 0 ∨ m < 0 ∨ 2 < m) : sqO n m = false ∧ sqV n m = 0 := by
  have hg : sqG n m = false := decide_eq_false (by omega)
  unfold sqO sqV; rw [hg]; exact ⟨rfl, rfl⟩
end Go.Proofs.Ytdjopepipcnmdaa
