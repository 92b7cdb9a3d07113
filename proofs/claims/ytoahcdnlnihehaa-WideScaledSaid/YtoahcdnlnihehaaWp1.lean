/- Proved here: the plain facts of the laws on package wide that do without the reference; no program in sight; conditions as stated. -/
import Derived.Test.YtoahcdnlnihehaaWo3
namespace Go.Proofs.Ytoahcdnlnihehaa
open Go.RowKit
set_option linter.unusedVariables false
theorem sgV_bd (n : Nat) (neg : Bool) : -9223372036854775808 ≤ sgV n neg ∧ sgV n neg ≤ 9223372036854775807 := by
  unfold sgV; cases neg <;> simp only [if_true, if_false, Bool.false_eq_true] <;> split <;> omega
theorem mdV_bd (a b c m : Int) : -9223372036854775808 ≤ mdV a b c m ∧ mdV a b c m ≤ 9223372036854775807 := by
  unfold mdV; split
  · exact sgV_bd _ _
  · omega
theorem ov_not (a b n m : Int) (h : 2147483648 < a.natAbs ∨ 2147483648 < b.natAbs ∨ n < 1 ∨ 4611686018427387904 < n ∨ m < 0 ∨ 2 < m) : ovO a b n m = false ∧ ovV a b n m = 0 := by
  have e : ovG a b n m = false := decide_eq_false (by omega)
  unfold ovO ovV; rw [e]; exact ⟨rfl, rfl⟩
theorem ro_not (a b m : Int) (h : a < 0 ∨ b < 0 ∨ m < 0 ∨ 2 < m) : roO a b m = false ∧ roV a b m = 0 := by
  have e : roG a b m = false := decide_eq_false (by omega)
  unfold roO roV; rw [e]; exact ⟨rfl, rfl⟩
theorem yI_neg (a b c : Int) : yI (-a) b c = -yI a b c := by
  unfold yI; split <;> grind
/-- the negated numerator -/
theorem neg_fact (a b c : Int) (h1 : mdO (-a) b c 0 = true) (h2 : mdO a b c 1 = true) : mdV a b c 1 = -mdV (-a) b c 0 := by
  by_cases hc : c = 0
  · rw [(md_not a b c 1 (Or.inl hc)).1] at h2; exact absurd h2 (by decide)
  · obtain ⟨v, r1, _, k1, _⟩ := md_rel (-a) b c 0 hc (Or.inl rfl)
    obtain ⟨u, r2, _, k2, _⟩ := md_rel a b c 1 hc (Or.inr (Or.inl rfl))
    rw [k1 h1, k2 h2]
    rw [yI_neg] at r1
    have hd : (0 : Int) < c.natAbs := by omega
    refine RD.uniq hd (Or.inr (Or.inl rfl)) r2 ⟨fun h => absurd h (by decide), fun _ => ?_, fun h => absurd h (by decide)⟩
    have := r1.1 rfl
    have e : -v * (c.natAbs : Int) = -(v * (c.natAbs : Int)) := Int.neg_mul _ _
    rw [e]; omega
/-- a factor cancels -/
theorem cancel_fact (a b m : Int) (hb : b ≠ 0) (hm : m = 0 ∨ m = 1 ∨ m = 2) (h1 : -9223372036854775808 ≤ a) (h2 : a ≤ 9223372036854775807) : mdO a b b m = true ∧ mdV a b b m = a := by
  obtain ⟨v, r1, k0, k1, _⟩ := md_rel a b b m hb hm
  have hd : (0 : Int) < b.natAbs := by omega
  have e : yI a b b = a * (b.natAbs : Int) := by
    unfold yI
    split
    · have : (b.natAbs : Int) = -b := by omega
      rw [this]; grind
    · have : (b.natAbs : Int) = b := by omega
      rw [this]
  rw [e] at r1
  have u := RD.uniq hd hm r1 (v' := a) ⟨fun _ => by omega, fun _ => by omega, fun _ => by omega⟩
  subst u
  have ok : mdO v b b m = true := by rw [k0]; exact decide_eq_true ⟨h1, h2⟩
  exact ⟨ok, k1 ok⟩
theorem mul_lt_of {x y d : Int} (hd : 0 < d) (h : x * d < y * d) : x < y := by
  refine Int.not_le.mp fun hc => ?_
  have := Int.mul_le_mul_of_nonneg_right hc (Int.le_of_lt hd)
  omega
/-- the three modes -/
theorem modes_fact (a b c : Int) (h0 : mdO a b c 0 = true) (h1 : mdO a b c 1 = true) (h2 : mdO a b c 2 = true) :
    (mdV a b c 1 = mdV a b c 0 ∨ mdV a b c 1 = mdV a b c 0 + 1) ∧ (mdV a b c 2 = mdV a b c 0 ∨ mdV a b c 2 = mdV a b c 1) ∧ (mdV a b c 1 = mdV a b c 0 ↔ mdV a b c 0 * c = a * b) := by
  by_cases hc : c = 0
  · rw [(md_not a b c 1 (Or.inl hc)).1] at h1; exact absurd h1 (by decide)
  · obtain ⟨l, r0, _, k0, _⟩ := md_rel a b c 0 hc (Or.inl rfl)
    obtain ⟨h, r1, _, k1, _⟩ := md_rel a b c 1 hc (Or.inr (Or.inl rfl))
    obtain ⟨n, r2, _, k2, _⟩ := md_rel a b c 2 hc (Or.inr (Or.inr rfl))
    rw [k0 h0, k1 h1, k2 h2]
    have hd : (0 : Int) < c.natAbs := by omega
    have hy : (l * (c.natAbs : Int) = yI a b c ↔ l * c = a * b) := by
      unfold yI
      split
      · have : (c.natAbs : Int) = -c := by omega
        rw [this, Int.mul_neg]; omega
      · have : (c.natAbs : Int) = c := by omega
        rw [this]
    have a0 := r0.1 rfl
    have a1 := r1.2.1 rfl
    have a2 := r2.2.2 rfl
    generalize (c.natAbs : Int) = d at *
    generalize yI a b c = y at *
    have e1 : (l + 1) * d = l * d + d := by rw [Int.add_mul, Int.one_mul]
    have e2 : (h + 1) * d = h * d + d := by rw [Int.add_mul, Int.one_mul]
    have e3 : (l + 2) * d = l * d + 2 * d := by rw [Int.add_mul]
    have e4 : (n + 1) * d = n * d + d := by rw [Int.add_mul, Int.one_mul]
    have b1 : l < h + 1 := mul_lt_of hd (by omega)
    have b2 : h < l + 2 := mul_lt_of hd (by omega)
    have b3 : l < n + 1 := mul_lt_of hd (by omega)
    have b4 : n < l + 2 := mul_lt_of hd (by omega)
    refine ⟨by omega, ?_, ?_⟩
    · rcases (show h = l ∨ h = l + 1 by omega) with g | g
      · subst g
        have : n < h + 1 := mul_lt_of hd (by omega)
        omega
      · omega
    · rw [← hy]
      constructor
      · intro g; subst g; omega
      · intro g
        have : h < l + 1 := mul_lt_of hd (by omega)
        omega
theorem lt_of_sqN {s t : Nat} (h : s * s < t * t) : s < t := by
  refine Nat.not_le.mp fun hc => ?_
  have := Nat.mul_le_mul hc hc
  omega
/-- the brackets of a root -/
theorem brackets_fact {P r0 r1 r2 : Nat} (h0 : SQ 0 P r0) (h1 : SQ 1 P r1) (h2 : SQ 2 P r2) : r0 * r0 ≤ P ∧ P < (r0 + 1) * (r0 + 1) ∧ P ≤ r1 * r1 ∧ r1 ≤ r0 + 1 ∧ (r2 = r0 ∨ r2 = r1) := by
  have a0 := h0.1 rfl
  have a1 := h1.2.1 rfl
  have a2 := h2.2.2 rfl
  have e0 : (r0 + 1) * (r0 + 1) = r0 * r0 + 2 * r0 + 1 := by grind
  have e2 : (r2 + 1) * (r2 + 1) = r2 * r2 + 2 * r2 + 1 := by grind
  have b1 : r1 ≤ r0 + 1 := by
    rcases Nat.eq_zero_or_pos r1 with h | h
    · omega
    · obtain ⟨s, rfl⟩ : ∃ s, r1 = s + 1 := ⟨r1 - 1, by omega⟩
      have e : (s + 1) * (s + 1) = s * s + 2 * s + 1 := by grind
      have := lt_of_sqN (s := s) (t := r0 + 1) (by omega)
      omega
  have b2 : r0 ≤ r2 := by
    have := lt_of_sqN (s := r0) (t := r2 + 1) (by omega)
    omega
  have b3 : r2 ≤ r1 := by
    rcases Nat.eq_zero_or_pos r2 with h | h
    · omega
    · obtain ⟨s, rfl⟩ : ∃ s, r2 = s + 1 := ⟨r2 - 1, by omega⟩
      have e : (s + 1) * (s + 1) = s * s + 2 * s + 1 := by grind
      have := lt_of_sqN (s := s) (t := r1) (by omega)
      omega
  omega
theorem cmpZ_bd (P Q : Int) : -1 ≤ cmpZ P Q ∧ cmpZ P Q ≤ 1 := by unfold cmpZ; (repeat' split) <;> omega
theorem cmpZ_swap (P Q : Int) : cmpZ Q P = -cmpZ P Q := by unfold cmpZ; (repeat' split) <;> omega
theorem cmpZ_refl (P : Int) : cmpZ P P = 0 := by unfold cmpZ; (repeat' split) <;> omega
theorem cmpZ_lt {P Q : Int} (h : P < Q) : cmpZ P Q = -1 := if_pos h
theorem cmpZ_gt {P Q : Int} (h : Q < P) : cmpZ P Q = 1 := by unfold cmpZ; rw [if_neg (by omega), if_neg (by omega)]
theorem cmpZ_le {P Q : Int} (h : P ≤ Q) : cmpZ P Q ≤ 0 := by unfold cmpZ; (repeat' split) <;> omega
theorem cmpZ_ge {P Q : Int} (h : Q ≤ P) : 0 ≤ cmpZ P Q := by unfold cmpZ; (repeat' split) <;> omega
theorem cmpZ_eq (P Q : Int) : cmpZ P Q = 0 ↔ P = Q := by unfold cmpZ; (repeat' split) <;> omega
end Go.Proofs.Ytoahcdnlnihehaa
