/- Proved here: the square root by bits is the greatest number whose square is at most the given one; plain; numbers below 2^128. -/
namespace Go.Proofs.Ytdjopepipcnmdaa
set_option linter.unusedVariables false
/-- the root, bit by bit -/
def rtGo : Nat → Nat → Nat → Nat
  | 0, P, r => r
  | k + 1, P, r => if (r + 2 ^ k) * (r + 2 ^ k) ≤ P then rtGo k P (r + 2 ^ k) else rtGo k P r
def rtN (P : Nat) : Nat := rtGo 64 P 0
theorem sq_mono {a b : Nat} (h : a ≤ b) : a * a ≤ b * b := Nat.mul_le_mul h h
theorem rtGo_spec (k P r : Nat) (h1 : r * r ≤ P) (h2 : P < (r + 2 ^ k) * (r + 2 ^ k)) : rtGo k P r * rtGo k P r ≤ P ∧ P < (rtGo k P r + 1) * (rtGo k P r + 1) := by
  induction k generalizing r with
  | zero => exact ⟨h1, h2⟩
  | succ k ih =>
    unfold rtGo
    split
    · rename_i h
      refine ih _ h ?_
      have : r + 2 ^ (k + 1) = r + 2 ^ k + 2 ^ k := by rw [Nat.pow_succ]; omega
      rw [← this]; exact h2
    · rename_i h
      exact ih _ h1 (by omega)
theorem rtN_spec (P : Nat) (h : P < 340282366920938463463374607431768211456) : rtN P * rtN P ≤ P ∧ P < (rtN P + 1) * (rtN P + 1) := by
  refine rtGo_spec 64 P 0 (Nat.zero_le _) ?_
  have e : (0 + 2 ^ 64) * (0 + 2 ^ 64) = 340282366920938463463374607431768211456 := by decide
  rw [e]; exact h
theorem rt_uniq {P r s : Nat} (h1 : r * r ≤ P) (h2 : P < (r + 1) * (r + 1)) (h3 : s * s ≤ P) (h4 : P < (s + 1) * (s + 1)) : r = s := by
  rcases Nat.lt_trichotomy r s with h | h | h
  · have := sq_mono (show r + 1 ≤ s from h); omega
  · exact h
  · have := sq_mono (show s + 1 ≤ r from h); omega
theorem rtN_lt (P : Nat) (h : P < 340282366920938463463374607431768211456) : rtN P < 18446744073709551616 := by
  refine Nat.lt_of_not_le fun hc => ?_
  have h1 := sq_mono hc
  have h2 := (rtN_spec P h).1
  have e : 18446744073709551616 * 18446744073709551616 = 340282366920938463463374607431768211456 := by decide
  rw [e] at h1
  exact absurd (Nat.lt_of_le_of_lt (Nat.le_trans h1 h2) h) (Nat.lt_irrefl _)
/-- the state of the loop: the bits from k on are decided -/
structure RI (P k r : Nat) : Prop where
  k1 : k ≤ 64
  m : r % 2 ^ k = 0
  lt : r < 18446744073709551616
  eq : rtGo k P r = rtN P
theorem RI.start (P : Nat) : RI P 64 0 := ⟨Nat.le_refl _, Nat.zero_mod _, by decide, rfl⟩
theorem RI.fits {P k r : Nat} (h : RI P (k + 1) r) : r + 2 ^ k < 18446744073709551616 ∧ (r + 2 ^ k) % 2 ^ k = 0 ∧ r % 2 ^ k = 0 ∧ 2 ^ k < 18446744073709551616 := by
  have hp : 0 < 2 ^ k := Nat.pow_pos (by decide)
  have hm := h.m
  have hl := h.lt
  have hk := h.k1
  obtain ⟨c, hc⟩ := Nat.dvd_of_mod_eq_zero hm
  have e64 : 2 ^ (k + 1) * 2 ^ (63 - k) = 18446744073709551616 := by
    rw [← Nat.pow_add]
    have : k + 1 + (63 - k) = 64 := by omega
    rw [this]
  have hq : 0 < 2 ^ (63 - k) := Nat.pow_pos (by decide)
  have hc2 : c < 2 ^ (63 - k) := by
    rw [hc, ← e64] at hl
    exact Nat.lt_of_mul_lt_mul_left hl
  have h1 : r + 2 ^ (k + 1) ≤ 18446744073709551616 := by
    rw [hc, ← e64]
    have := Nat.mul_le_mul_left (2 ^ (k + 1)) (show c + 1 ≤ 2 ^ (63 - k) from hc2)
    rw [Nat.mul_add, Nat.mul_one] at this
    exact this
  have h2 : 2 ^ (k + 1) = 2 ^ k * 2 := Nat.pow_succ 2 k
  have h3 : r % 2 ^ k = 0 := by
    rw [hc, h2, Nat.mul_assoc, Nat.mul_mod_right]
  refine ⟨by omega, ?_, h3, by omega⟩
  rw [Nat.add_mod, h3, Nat.mod_self, Nat.zero_add, Nat.zero_mod]
theorem RI.yes {P k r : Nat} (h : RI P (k + 1) r) (hc : (r + 2 ^ k) * (r + 2 ^ k) ≤ P) : RI P k (r + 2 ^ k) := by
  have f := h.fits
  have e := h.eq
  have hk := h.k1
  unfold rtGo at e
  rw [if_pos hc] at e
  exact ⟨by omega, f.2.1, f.1, e⟩
theorem RI.no {P k r : Nat} (h : RI P (k + 1) r) (hc : ¬ (r + 2 ^ k) * (r + 2 ^ k) ≤ P) : RI P k r := by
  have f := h.fits
  have e := h.eq
  have hk := h.k1
  unfold rtGo at e
  rw [if_neg hc] at e
  exact ⟨by omega, f.2.2.1, h.lt, e⟩
/-- the bit in hand -/
def bitK (k : Nat) : Nat := 2 ^ k / 2
theorem bitK_succ (k : Nat) : bitK (k + 1) = 2 ^ k := by unfold bitK; rw [Nat.pow_succ, Nat.mul_div_cancel _ (by decide)]
theorem bitK_half (k : Nat) : bitK (k + 1) / 2 = bitK k := by rw [bitK_succ]; rfl
theorem bitK_zero : bitK 0 = 0 := rfl
theorem bitK_64 : bitK 64 = 9223372036854775808 := by decide
end Go.Proofs.Ytdjopepipcnmdaa
