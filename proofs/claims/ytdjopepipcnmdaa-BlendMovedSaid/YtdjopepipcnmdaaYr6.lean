/- Proved here: a number built by its bits; the root's test; the rounded quotient by a root, by halves; no program in sight. -/
import Derived.Test.YtdjopepipcnmdaaYo3
namespace Go.Proofs.Ytdjopepipcnmdaa
open Go.RowKit
set_option linter.unusedVariables false
def rnN (q : Nat) (m half : Int) (exact neg : Bool) : Nat := q + (if grI m half (!exact) neg then 1 else 0)
theorem sg_over {n : Nat} (neg : Bool) (h : 9223372036854775808 < n) : sgV n neg = 0 ∧ sgO n neg = false := by
  unfold sgV sgO
  cases neg
  · rw [if_neg (by decide), if_neg (by omega), if_neg (by decide)]; exact ⟨rfl, decide_eq_false (by omega)⟩
  · rw [if_pos rfl, if_neg (by omega), if_pos rfl]; exact ⟨rfl, decide_eq_false (by omega)⟩
/-- a number T that is built from its highest bit on -/
structure BI (T k q : Nat) : Prop where
  m : q % 2 ^ k = 0
  le : q ≤ T
  lt : T < q + 2 ^ k
theorem BI.start {T k : Nat} (h : T < 2 ^ k) : BI T k 0 := ⟨Nat.zero_mod _, Nat.zero_le _, by omega⟩
theorem BI.done {T q : Nat} (h : BI T 0 q) : q = T := by have := h.le; have := h.lt; simp at this; omega
theorem mod_half {q k : Nat} (h : q % 2 ^ (k + 1) = 0) : q % 2 ^ k = 0 := by
  obtain ⟨c, rfl⟩ := Nat.dvd_of_mod_eq_zero h
  rw [Nat.pow_succ, Nat.mul_assoc]; exact Nat.mul_mod_right _ _
theorem BI.yes {T k q : Nat} (h : BI T (k + 1) q) (hc : q + 2 ^ k ≤ T) : BI T k (q + 2 ^ k) := by
  refine ⟨by rw [Nat.add_mod_right]; exact mod_half h.m, hc, ?_⟩
  have := h.lt
  rw [Nat.pow_succ] at this; omega
theorem BI.no {T k q : Nat} (h : BI T (k + 1) q) (hc : ¬ q + 2 ^ k ≤ T) : BI T k q := ⟨mod_half h.m, h.le, by omega⟩
theorem BI.fits {T k q : Nat} (h : BI T (k + 1) q) (hT : T < 18446744073709551616) (hk : k + 1 ≤ 64) : q + 2 ^ k < 18446744073709551616 := by
  have h1 := h.le
  have e : (18446744073709551616 : Nat) = 2 ^ (64 - (k + 1)) * 2 ^ (k + 1) := by rw [← Nat.pow_add, show 64 - (k + 1) + (k + 1) = 64 by omega]
  obtain ⟨c, rfl⟩ := Nat.dvd_of_mod_eq_zero h.m
  have h2 : 2 ^ (k + 1) * c < 2 ^ (64 - (k + 1)) * 2 ^ (k + 1) := by rw [← e]; omega
  rw [Nat.mul_comm] at h2
  have h3 : c < 2 ^ (64 - (k + 1)) := Nat.lt_of_mul_lt_mul_right h2
  have h4 : (c + 1) * 2 ^ (k + 1) ≤ 2 ^ (64 - (k + 1)) * 2 ^ (k + 1) := Nat.mul_le_mul_right _ h3
  rw [← e, Nat.add_mul, Nat.one_mul, Nat.mul_comm c] at h4
  have : 2 ^ k < 2 ^ (k + 1) := Nat.pow_lt_pow_right (by decide) (by omega)
  omega
theorem rt_test {X t : Nat} (hX : X < 340282366920938463463374607431768211456) : (cmpN (t * t) X ≤ 0) ↔ t ≤ rtN X := by
  have s := rtN_spec X hX
  have h : t * t ≤ X ↔ t ≤ rtN X := by
    constructor
    · intro h
      refine Nat.le_of_not_lt fun hc => ?_
      have := sq_mono (show rtN X + 1 ≤ t from hc)
      omega
    · intro h; exact Nat.le_trans (sq_mono h) s.1
  unfold cmpN
  (repeat' split) <;> omega
theorem ot_test {X d t : Nat} (hd : 0 < d) (hX : X < 340282366920938463463374607431768211456) : (cmpN (t * t * d) X ≤ 0) ↔ t ≤ rtN (X / d) := by
  have hq : X / d < 340282366920938463463374607431768211456 := Nat.lt_of_le_of_lt (Nat.div_le_self _ _) hX
  have h := rt_test (X := X / d) (t := t) hq
  have e : t * t * d ≤ X ↔ t * t ≤ X / d := (Nat.le_div_iff_mul_le hd).symm
  rw [← h]
  unfold cmpN
  (repeat' split) <;> omega
theorem ov_ref (X d m : Nat) (mm : Int) (t T : Nat) (so ng : Bool) (hd : 0 < d) (ht1 : t * t ≤ 4 * X / d) (ht2 : 4 * X / d < (t + 1) * (t + 1)) (hT1 : T * T ≤ X / d) (hT2 : X / d < (T + 1) * (T + 1))
    (hso : so = (decide (0 < 4 * X % d) || decide (t * t ≠ 4 * X / d))) :
    rnN T mm (cmpN (4 * X) ((2 * T + 1) * (2 * T + 1) * d)) (cmpN (T * T * d) X == 0) ng = ovS mm t so ng := by
  have dm := Nat.div_add_mod (4 * X) d
  have ml := Nat.mod_lt (4 * X) hd
  have a1 : t * t * d ≤ 4 * X := (Nat.le_div_iff_mul_le hd).1 ht1
  have a2 : 4 * X < (t + 1) * (t + 1) * d := (Nat.div_lt_iff_lt_mul hd).1 ht2
  have b1 : T * T * d ≤ X := (Nat.le_div_iff_mul_le hd).1 hT1
  have b2 : X < (T + 1) * (T + 1) * d := (Nat.div_lt_iff_lt_mul hd).1 hT2
  have lo : 2 * T ≤ t := by
    refine Nat.le_of_not_lt fun hc => ?_
    have h1 := sq_mono (show t + 1 ≤ 2 * T from hc)
    have h2 := Nat.mul_le_mul_right d h1
    have e : 2 * T * (2 * T) * d = 4 * (T * T * d) := by grind
    omega
  have hi : t < 2 * T + 2 := by
    refine Nat.lt_of_not_le fun hc => ?_
    have h1 := sq_mono hc
    have h2 := Nat.mul_le_mul_right d h1
    have e : (2 * T + 2) * (2 * T + 2) * d = 4 * ((T + 1) * (T + 1) * d) := by grind
    omega
  have hs : so = decide (t * t * d ≠ 4 * X) := by
    rw [hso, ← Bool.decide_or]
    refine decide_eq_decide.mpr ?_
    constructor
    · intro h e
      rcases h with h | h
      · have : 4 * X % d = 0 := by rw [← e]; exact Nat.mul_mod_left _ _
        omega
      · exact h (by rw [← e, Nat.mul_div_cancel _ hd])
    · intro h
      refine Classical.byContradiction fun g => ?_
      obtain ⟨g1, g2⟩ := not_or.mp g
      have g2 := Classical.not_not.mp g2
      have g1 : 4 * X % d = 0 := by omega
      rw [g1, ← g2, Nat.add_zero, Nat.mul_comm] at dm
      exact h dm
  have e1 : (2 * T + 1) * (2 * T + 1) * d = 4 * (T * T * d) + 4 * (T * d) + d := by grind
  have e0 : 2 * T * (2 * T) * d = 4 * (T * T * d) := by grind
  have hex : (!(cmpN (T * T * d) X == 0)) = decide (T * T * d ≠ X) := by
    by_cases h : T * T * d = X
    · have c : cmpN (T * T * d) X = 0 := by unfold cmpN; rw [if_neg (by omega), if_pos h]
      rw [c, decide_eq_false (fun g => g h)]; rfl
    · have c : cmpN (T * T * d) X = -1 := if_pos (by omega)
      rw [c, decide_eq_true h]; rfl
  unfold rnN ovS
  rw [hex, hs]
  rcases (show t = 2 * T ∨ t = 2 * T + 1 by omega) with rfl | rfl
  · have c : cmpN (4 * X) ((2 * T + 1) * (2 * T + 1) * d) = -1 := if_pos a2
    have cm : ovM (2 * T) (decide (2 * T * (2 * T) * d ≠ 4 * X)) = -1 := by unfold ovM; rw [if_neg (by omega)]
    rw [c, cm, show 2 * T / 2 = T by omega, decide_eq_false (show ¬ 2 * T % 2 = 1 by omega), Bool.or_false]
    have : decide (2 * T * (2 * T) * d ≠ 4 * X) = decide (T * T * d ≠ X) := decide_eq_decide.mpr (by omega)
    rw [this]
  · have cm : ovM (2 * T + 1) (decide ((2 * T + 1) * (2 * T + 1) * d ≠ 4 * X)) = cmpN (4 * X) ((2 * T + 1) * (2 * T + 1) * d) := by
      unfold ovM cmpN
      rw [if_pos (by omega)]
      by_cases h : (2 * T + 1) * (2 * T + 1) * d = 4 * X
      · rw [decide_eq_false (fun g => g h), if_neg (by decide), if_neg (by omega), if_pos h.symm]
      · rw [decide_eq_true h, if_pos rfl, if_neg (by omega), if_neg (by omega)]
    rw [cm, show (2 * T + 1) / 2 = T by omega, decide_eq_true (show (2 * T + 1) % 2 = 1 by omega), Bool.or_true, decide_eq_true (show T * T * d ≠ X by omega)]
end Go.Proofs.Ytdjopepipcnmdaa
