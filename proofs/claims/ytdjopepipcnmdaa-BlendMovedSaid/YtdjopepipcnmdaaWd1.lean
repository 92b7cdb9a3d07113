/- Proved here: the plain law of a division of 96 by 64 bits by an estimate that is lowered: no program in sight; the divisor is normalized. -/
namespace Go.Proofs.Ytdjopepipcnmdaa
set_option linter.unusedVariables false
/-- the estimate q of the digit of (u * 2^32 + v) / y, with its rest r; a and b are the halves of y -/
structure DI (u v y a b q r : Nat) : Prop where
  a0 : 2147483648 ≤ a
  a1 : a < 4294967296
  b1 : b < 4294967296
  v1 : v < 4294967296
  ey : y = a * 4294967296 + b
  u1 : u < y
  eq : q * a + r = u
  up : (u * 4294967296 + v) / y ≤ q
theorem distr (q a b : Nat) : q * (a * 4294967296 + b) = q * a * 4294967296 + q * b := by grind
theorem DI.start {u v y a b : Nat} (a0 : 2147483648 ≤ a) (a1 : a < 4294967296) (b1 : b < 4294967296) (v1 : v < 4294967296) (ey : y = a * 4294967296 + b) (u1 : u < y) : DI u v y a b (u / a) (u % a) := by
  have e : u / a * a + u % a = u := Nat.div_add_mod' u a
  refine ⟨a0, a1, b1, v1, ey, u1, e, ?_⟩
  have hm : u % a < a := Nat.mod_lt _ (by omega)
  have hlt : (u * 4294967296 + v) / y < u / a + 1 := by
    rw [Nat.div_lt_iff_lt_mul (by omega), ey, distr, Nat.add_mul, Nat.add_mul]
    omega
  omega
/-- the product of the estimate and the divisor -/
theorem DI.prod {u v y a b q r : Nat} (h : DI u v y a b q r) : q * y + r * 4294967296 = u * 4294967296 + q * b := by
  have e := h.eq
  rw [h.ey, distr]
  omega
theorem less_of {p t R U v : Nat} (hp : p + R = U + t) (hg : R + v < t) : U + v < p := by omega
/-- too great -/
theorem DI.less {u v y a b q r : Nat} (h : DI u v y a b q r) (hlt : u * 4294967296 + v < q * y) : 1 ≤ q ∧ DI u v y a b (q - 1) (r + a) := by
  have hq : (u * 4294967296 + v) / y < q := by
    have a0 := h.a0
    have ey := h.ey
    rw [Nat.div_lt_iff_lt_mul (by omega)]
    exact hlt
  have q1 : 1 ≤ q := Nat.lt_of_le_of_lt (Nat.zero_le _) hq
  refine ⟨q1, h.a0, h.a1, h.b1, h.v1, h.ey, h.u1, ?_, Nat.le_pred_of_lt hq⟩
  have e := h.eq
  obtain ⟨k, rfl⟩ : ∃ k, q = k + 1 := ⟨q - 1, (Nat.sub_add_cancel q1).symm⟩
  rw [Nat.add_mul, Nat.one_mul] at e
  rw [Nat.add_sub_cancel]
  omega
theorem DI.great {u v y a b q r : Nat} (h : DI u v y a b q r) (hg : 4294967296 ≤ q) : 1 ≤ q ∧ DI u v y a b (q - 1) (r + a) := by
  refine h.less ?_
  have h1 := Nat.mul_le_mul_right y hg
  have u1 := h.u1
  have v1 := h.v1
  omega
theorem DI.great2 {u v y a b q r : Nat} (h : DI u v y a b q r) (hg : r * 4294967296 + v < q * b) : 1 ≤ q ∧ DI u v y a b (q - 1) (r + a) := by
  refine h.less ?_
  have hp := h.prod
  exact less_of hp hg
/-- the rest has left its range: the estimate is the digit -/
theorem DI.leave {u v y a b q r : Nat} (h : DI u v y a b q r) (hr : 4294967296 ≤ r) : q < 4294967296 ∧ (u * 4294967296 + v) / y = q := by
  have a0 := h.a0
  have ey := h.ey
  have u1 := h.u1
  have b1 := h.b1
  have e := h.eq
  have hp := h.prod
  have up := h.up
  have hq : q < 4294967296 := by
    refine Nat.lt_of_not_le fun hq => ?_
    have h1 := Nat.mul_le_mul_right a hq
    omega
  refine ⟨hq, Nat.le_antisymm up ?_⟩
  rw [Nat.le_div_iff_mul_le (by omega)]
  have h2 : q * b ≤ 4294967295 * 4294967295 := Nat.mul_le_mul (by omega) (by omega)
  omega
/-- small enough: the estimate is the digit -/
theorem DI.done {u v y a b q r : Nat} (h : DI u v y a b q r) (hg : q * b ≤ r * 4294967296 + v) : (u * 4294967296 + v) / y = q := by
  have a0 := h.a0
  have ey := h.ey
  have hp := h.prod
  refine Nat.le_antisymm h.up ?_
  rw [Nat.le_div_iff_mul_le (by omega)]
  omega
theorem DI.small {u v y a b q r : Nat} (h : DI u v y a b q r) : q ≤ 8589934592 ∧ r ≤ u := by
  have a0 := h.a0
  have e := h.eq
  have h1 := Nat.mul_le_mul_left q a0
  have := h.u1
  have := h.ey
  have := h.a1
  have := h.b1
  omega
/-- the digit and the rest -/
theorem digit {u v y q : Nat} (hy : 0 < y) (hu : u < y) (hv : v < 4294967296) (h : (u * 4294967296 + v) / y = q) : q < 4294967296 ∧ q * y + (u * 4294967296 + v) % y = u * 4294967296 + v ∧ (u * 4294967296 + v) % y < y := by
  have e := Nat.div_add_mod' (u * 4294967296 + v) y
  have m := Nat.mod_lt (u * 4294967296 + v) hy
  refine ⟨?_, by rw [← h]; exact e, m⟩
  rw [← h, Nat.div_lt_iff_lt_mul hy]
  omega
/-- both digits, and the shift undone -/
theorem digits {n y z s u v w q1 r1 q0 r0 : Nat} (hy : 0 < y) (hz : z = y * 2 ^ s) (hn : n * 2 ^ s = (u * 4294967296 + v) * 4294967296 + w) (h1 : u * 4294967296 + v = q1 * z + r1) (h2 : r1 * 4294967296 + w = q0 * z + r0) (h3 : r0 < z) :
    n / y = q1 * 4294967296 + q0 ∧ n % y = r0 / 2 ^ s := by
  have hp : 0 < 2 ^ s := Nat.pow_pos (by decide)
  have hz0 : 0 < z := by omega
  have e : n * 2 ^ s = (q1 * 4294967296 + q0) * z + r0 := by
    rw [hn, h1, Nat.add_mul (q1 * 4294967296), Nat.mul_right_comm q1 4294967296 z, Nat.add_mul, Nat.add_assoc, h2, Nat.add_assoc]
  generalize q1 * 4294967296 + q0 = q at e ⊢
  have d : n * 2 ^ s / z = n / y := by rw [hz]; exact Nat.mul_div_mul_right n y hp
  have m : n * 2 ^ s % z = n % y * 2 ^ s := by rw [hz]; exact Nat.mul_mod_mul_right (2 ^ s) n y
  have hq : n * 2 ^ s / z = q := by
    rw [e, Nat.mul_comm q, Nat.mul_add_div hz0, Nat.div_eq_of_lt h3]; rfl
  have hr : n * 2 ^ s % z = r0 := by
    rw [e, Nat.mul_comm q, Nat.mul_add_mod, Nat.mod_eq_of_lt h3]
  refine ⟨by rw [← d, hq], ?_⟩
  rw [← hr, m, Nat.mul_div_cancel _ hp]
/-- the dividend, shifted with its divisor -/
theorem normed {hi lo y s : Nat} (hhi : hi < y) (hlo : lo < 18446744073709551616) (hs : s ≤ 63) (hz : y * 2 ^ s < 18446744073709551616) :
    hi * 2 ^ s < 18446744073709551616 ∧ lo / 2 ^ (64 - s) < 2 ^ s ∧ (hi * 18446744073709551616 + lo) * 2 ^ s = (hi * 2 ^ s + lo / 2 ^ (64 - s)) * 18446744073709551616 + lo * 2 ^ s % 18446744073709551616 ∧ hi * 2 ^ s + lo / 2 ^ (64 - s) < y * 2 ^ s := by
  have hp : 0 < 2 ^ s := Nat.pow_pos (by decide)
  have e64 : 2 ^ (64 - s) * 2 ^ s = 18446744073709551616 := by rw [← Nat.pow_add, Nat.sub_add_cancel (by omega)]
  have hq : 0 < 2 ^ (64 - s) := Nat.pow_pos (by decide)
  have h1 : hi * 2 ^ s + 2 ^ s ≤ y * 2 ^ s := by have := Nat.mul_le_mul_right (2 ^ s) hhi; rwa [Nat.succ_mul] at this
  have h2 : lo / 2 ^ (64 - s) < 2 ^ s := by rw [Nat.div_lt_iff_lt_mul hq, Nat.mul_comm, e64]; exact hlo
  have h3 : lo * 2 ^ s / 18446744073709551616 = lo / 2 ^ (64 - s) := by rw [← e64]; exact Nat.mul_div_mul_right _ _ hp
  have h4 := Nat.div_add_mod' (lo * 2 ^ s) 18446744073709551616
  rw [h3] at h4
  refine ⟨Nat.lt_of_le_of_lt (Nat.le_trans (Nat.le_add_right _ _) h1) hz, h2, ?_, Nat.lt_of_lt_of_le (Nat.add_lt_add_left h2 _) h1⟩
  rw [Nat.add_mul, Nat.add_mul, Nat.add_assoc, h4, Nat.mul_right_comm]
end Go.Proofs.Ytdjopepipcnmdaa
