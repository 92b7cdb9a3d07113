/- Proved here: a vector of given length in a given direction, its components rounded to the nearest integers, has nearly that length; no program in sight. -/
import Derived.Test.YtdjopepipcnmdaaBb1
namespace Go.Proofs.Ytdjopepipcnmdaa
open Go.RowKit
set_option linter.unusedVariables false
theorem le_of_sq {a b : Nat} (h : a * a ≤ b * b) : a ≤ b := by
  refine Nat.le_of_not_lt fun hc => ?_
  have := Nat.mul_lt_mul'' hc hc
  omega
theorem sq3_sum (a b c : Nat) : (a + b + c) * (a + b + c) ≤ 3 * (a * a + b * b + c * c) := by
  have sq : ∀ x y : Int, 2 * (x * y) ≤ x * x + y * y := by
    intro x y
    have h : 0 ≤ (x - y) * (x - y) := by
      rcases Int.le_total 0 (x - y) with h | h
      · exact Int.mul_nonneg h h
      · have := Int.mul_nonneg (a := -(x - y)) (b := -(x - y)) (by omega) (by omega)
        rwa [Int.neg_mul_neg] at this
    have e : (x - y) * (x - y) = x * x + y * y - 2 * (x * y) := by grind
    omega
  have h1 := sq a b
  have h2 := sq a c
  have h3 := sq b c
  have e : (a + b + c) * (a + b + c) = a * a + b * b + c * c + 2 * (a * b) + 2 * (a * c) + 2 * (b * c) := by grind
  have i1 : 2 * (a * b) ≤ a * a + b * b := by exact_mod_cast h1
  have i2 : 2 * (a * c) ≤ a * a + c * c := by exact_mod_cast h2
  have i3 : 2 * (b * c) ≤ b * b + c * c := by exact_mod_cast h3
  omega
theorem odd_up (p : Nat) : 4 * (p * p) ≤ (2 * p - 1) * (2 * p - 1) + 2 * (2 * p - 1) + 1 := by
  rcases p with _ | p
  · omega
  · rw [show 2 * (p + 1) - 1 = 2 * p + 1 by omega]
    have e : 4 * ((p + 1) * (p + 1)) = (2 * p + 1) * (2 * p + 1) + 2 * (2 * p + 1) + 1 := by grind
    omega
theorem odd_dn (p : Nat) : (2 * p + 1) * (2 * p + 1) = 4 * (p * p) + 4 * p + 1 := by grind
theorem near3 (p q s d : Nat) (h1 : (2 * p - 1) * (2 * p - 1) + (2 * q - 1) * (2 * q - 1) + (2 * s - 1) * (2 * s - 1) ≤ 4 * (d * d)) (h2 : 4 * (d * d) ≤ (2 * p + 1) * (2 * p + 1) + (2 * q + 1) * (2 * q + 1) + (2 * s + 1) * (2 * s + 1)) (hd : 1 ≤ d) :
    (d - 1) * (d - 1) ≤ p * p + q * q + s * s ∧ p * p + q * q + s * s ≤ (d + 1) * (d + 1) := by
  constructor
  · obtain ⟨k, rfl⟩ : ∃ k, d = k + 1 := ⟨d - 1, by omega⟩
    rw [Nat.add_sub_cancel]
    refine Nat.le_of_not_lt fun hc => ?_
    have e1 := sq3_sum p q s
    have h4 : 4 * (p + q + s) ≤ 7 * k := by
      refine le_of_sq ?_
      have a1 : 4 * (p + q + s) * (4 * (p + q + s)) = 16 * ((p + q + s) * (p + q + s)) := by grind
      have a2 : 7 * k * (7 * k) = 49 * (k * k) := by grind
      omega
    rw [odd_dn, odd_dn, odd_dn] at h2
    have a3 : (k + 1) * (k + 1) = k * k + 2 * k + 1 := by grind
    omega
  · have u1 := odd_up p
    have u2 := odd_up q
    have u3 := odd_up s
    have e1 := sq3_sum (2 * p - 1) (2 * q - 1) (2 * s - 1)
    have h4 : 2 * ((2 * p - 1) + (2 * q - 1) + (2 * s - 1)) ≤ 7 * d := by
      generalize 2 * p - 1 = a at *
      generalize 2 * q - 1 = b at *
      generalize 2 * s - 1 = c at *
      refine le_of_sq ?_
      have a1 : 2 * (a + b + c) * (2 * (a + b + c)) = 4 * ((a + b + c) * (a + b + c)) := by grind
      have a2 : 7 * d * (7 * d) = 49 * (d * d) := by grind
      omega
    have a3 : (d + 1) * (d + 1) = d * d + 2 * d + 1 := by grind
    omega
theorem nrN_spec (x r n : Int) (hx : x.natAbs ≤ 67108864) (hr : r.natAbs ≤ 67108864) (hn : 1 ≤ n) :
    (2 * nrN x r n - 1) * (2 * nrN x r n - 1) * n.natAbs ≤ 4 * (x.natAbs * r.natAbs * (x.natAbs * r.natAbs)) ∧ 4 * (x.natAbs * r.natAbs * (x.natAbs * r.natAbs)) ≤ (2 * nrN x r n + 1) * (2 * nrN x r n + 1) * n.natAbs := by
  have hA := Nat.mul_le_mul hx hr
  have hXX := Nat.mul_le_mul hA hA
  obtain ⟨d, hd⟩ : ∃ d, n.natAbs = d := ⟨_, rfl⟩
  have hd0 : 0 < d := by omega
  have s := rtN_spec (x.natAbs * r.natAbs * (x.natAbs * r.natAbs) / d) (Nat.lt_of_le_of_lt (Nat.div_le_self _ _) (by omega))
  unfold nrN nrT
  rw [hd]
  have e4 : 2 * (x.natAbs * r.natAbs) * (2 * (x.natAbs * r.natAbs)) = 4 * (x.natAbs * r.natAbs * (x.natAbs * r.natAbs)) := by generalize x.natAbs * r.natAbs = a; grind
  rw [e4]
  generalize x.natAbs * r.natAbs * (x.natAbs * r.natAbs) = A at *
  generalize rtN (A / d) = T at *
  have s1 : T * T * d ≤ A := (Nat.le_div_iff_mul_le hd0).1 s.1
  have s2 : A < (T + 1) * (T + 1) * d := (Nat.div_lt_iff_lt_mul hd0).1 s.2
  have e1 : (2 * T + 1) * (2 * T + 1) * d = 4 * (T * T * d) + 4 * (T * d) + d := by grind
  have e2 : (T + 1) * (T + 1) * d = T * T * d + 2 * (T * d) + d := by grind
  by_cases h : mostI ((2 * T + 1) * (2 * T + 1) * d) (4 * A) (decide (x < 0)) = true
  · rw [if_pos h]
    have h' : (2 * T + 1) * (2 * T + 1) * d ≤ 4 * A := by
      unfold mostI at h
      rw [Bool.or_eq_true, Bool.and_eq_true, decide_eq_true_eq, decide_eq_true_eq] at h
      omega
    rw [show 2 * (T + 1) - 1 = 2 * T + 1 by omega]
    refine ⟨h', ?_⟩
    have e3 : (2 * (T + 1) + 1) * (2 * (T + 1) + 1) * d = 4 * (T * T * d) + 12 * (T * d) + 9 * d := by grind
    omega
  · rw [if_neg h, Nat.add_zero]
    have h' : 4 * A ≤ (2 * T + 1) * (2 * T + 1) * d := by
      unfold mostI at h
      rw [Bool.or_eq_true, Bool.and_eq_true, decide_eq_true_eq, decide_eq_true_eq] at h
      omega
    refine ⟨?_, h'⟩
    rcases T with _ | T
    · simp
    · rw [show 2 * (T + 1) - 1 = 2 * T + 1 by omega]
      have e5 : (2 * T + 1) * (2 * T + 1) * d = 4 * (T * T * d) + 4 * (T * d) + d := by grind
      have e6 : (T + 1) * (T + 1) * d = T * T * d + 2 * (T * d) + d := by grind
      omega
theorem natAbs_sq (x : Int) : ((x.natAbs * x.natAbs : Nat) : Int) = x * x := by
  rw [Int.natCast_mul]
  rcases Int.natAbs_eq x with h | h
  · rw [← h]
  · generalize (x.natAbs : Int) = k at *
    subst h; grind
/-- the rounded vector's length -/
theorem near_len (x y z r n : Int) (hx : x.natAbs ≤ 67108864) (hy : y.natAbs ≤ 67108864) (hz : z.natAbs ≤ 67108864) (hr : 1 ≤ r) (hr2 : r ≤ 67108864) (hn : 1 ≤ n) (he : n = x * x + y * y + z * z) :
    (r - 1) * (r - 1) ≤ nrI x r n * nrI x r n + nrI y r n * nrI y r n + nrI z r n * nrI z r n ∧ nrI x r n * nrI x r n + nrI y r n * nrI y r n + nrI z r n * nrI z r n ≤ (r + 1) * (r + 1) := by
  have sx := nrN_spec x r n hx (by omega) hn
  have sy := nrN_spec y r n hy (by omega) hn
  have sz := nrN_spec z r n hz (by omega) hn
  have sq : ∀ v, nrI v r n * nrI v r n = ((nrN v r n * nrN v r n : Nat) : Int) := by
    intro v; unfold nrI; rw [Int.natCast_mul]; split <;> grind
  rw [sq, sq, sq]
  generalize nrN x r n = p at *
  generalize nrN y r n = q at *
  generalize nrN z r n = s at *
  obtain ⟨R, rfl⟩ := Int.eq_ofNat_of_zero_le (show 0 ≤ r by omega)
  obtain ⟨d, rfl⟩ := Int.eq_ofNat_of_zero_le (show 0 ≤ n by omega)
  rw [Int.natAbs_natCast, Int.natAbs_natCast] at sx sy sz
  have hd0 : 0 < d := by omega
  have e : d = x.natAbs * x.natAbs + y.natAbs * y.natAbs + z.natAbs * z.natAbs := by
    have := natAbs_sq x; have := natAbs_sq y; have := natAbs_sq z
    omega
  generalize x.natAbs = X at *
  generalize y.natAbs = Y at *
  generalize z.natAbs = Z at *
  have es : X * R * (X * R) + Y * R * (Y * R) + Z * R * (Z * R) = R * R * d := by rw [e]; grind
  have k := near3 p q s R (by
    refine Nat.le_of_mul_le_mul_right (c := d) ?_ hd0
    rw [Nat.add_mul, Nat.add_mul, Nat.mul_assoc 4]
    omega) (by
    refine Nat.le_of_mul_le_mul_right (c := d) ?_ hd0
    rw [Nat.add_mul, Nat.add_mul, Nat.mul_assoc 4]
    omega) (by omega)
  obtain ⟨K, rfl⟩ : ∃ K, R = K + 1 := ⟨R - 1, by omega⟩
  have c1 : (((K + 1 : Nat) : Int) - 1) * (((K + 1 : Nat) : Int) - 1) = ((K * K : Nat) : Int) := by rw [Int.natCast_add, Int.natCast_one, Int.add_sub_cancel, Int.natCast_mul]
  have c2 : (((K + 1 : Nat) : Int) + 1) * (((K + 1 : Nat) : Int) + 1) = (((K + 1 + 1) * (K + 1 + 1) : Nat) : Int) := by rw [Int.natCast_mul]; rfl
  rw [Nat.add_sub_cancel] at k
  rw [c1, c2]
  omega
end Go.Proofs.Ytdjopepipcnmdaa
