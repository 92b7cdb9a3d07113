/- Proved here: plain facts of the points of a blend: their rounding, their ends, their hull, their second difference, and that each lies near a segment; no program in sight. -/
import Derived.Test.YtdjopepipcnmdaaBd7
namespace Go.Proofs.Ytdjopepipcnmdaa
open Go.RowKit
set_option linter.unusedVariables false
/-- the i-th component of the vector from the corner -/
def coI (n x y i : Int) : Int := (2 * ((n - i) * (n - i) * x + i * i * y) + n * n) / (2 * (n * n))
theorem sqnn (x : Int) : 0 ≤ x * x := by
  rcases Int.le_total 0 x with h | h
  · exact Int.mul_nonneg h h
  · have := Int.mul_nonneg (a := -x) (b := -x) (by omega) (by omega)
    rwa [Int.neg_mul_neg] at this
theorem coI_sym (n x y i : Int) : coI n y x (n - i) = coI n x y i := by
  unfold coI
  rw [show n - (n - i) = i by omega, Int.add_comm (i * i * y)]
theorem nn_pos {n : Int} (h : 1 ≤ n) : 1 ≤ n * n := by
  have := Int.mul_le_mul h h (by decide) (by omega)
  omega
/-- the error of the rounding -/
theorem coI_err {n x y i : Int} (hn : 1 ≤ n) : ∃ e : Int, n * n * coI n x y i = (n - i) * (n - i) * x + i * i * y + e ∧ -(n * n) ≤ 2 * e ∧ 2 * e ≤ n * n := by
  have h := nn_pos hn
  unfold coI
  generalize (n - i) * (n - i) * x + i * i * y = s
  generalize n * n = b at *
  have h1 := Int.emod_add_mul_ediv (2 * s + b) (2 * b)
  have h2 := Int.emod_nonneg (2 * s + b) (show 2 * b ≠ 0 by omega)
  have h3 := Int.emod_lt_of_pos (2 * s + b) (show 0 < 2 * b by omega)
  rw [Int.mul_assoc] at h1
  refine ⟨b * ((2 * s + b) / (2 * b)) - s, by omega, by omega, by omega⟩
theorem coI_first {n x y : Int} (hn : 1 ≤ n) : coI n x y 0 = x := by
  have h := nn_pos hn
  unfold coI
  refine floor_eq (r := n * n) (by omega) ?_ (by omega) (by omega)
  grind
theorem coI_last {n x y : Int} (hn : 1 ≤ n) : coI n x y n = y := by
  rw [← coI_sym, Int.sub_self]; exact coI_first hn
theorem coI_le {n x y i hi : Int} (hn : 1 ≤ n) (h0 : 0 ≤ i) (h1 : i ≤ n) (hi0 : 0 ≤ hi) (hx : x ≤ hi) (hy : y ≤ hi) : coI n x y i ≤ hi := by
  have hb := nn_pos hn
  have a1 := Int.mul_le_mul_of_nonneg_left hx (sqnn (n - i))
  have a2 := Int.mul_le_mul_of_nonneg_left hy (sqnn i)
  have a3 := Int.mul_nonneg (Int.mul_nonneg h0 (show 0 ≤ n - i by omega)) hi0
  unfold coI
  refine Int.lt_add_one_iff.1 ((Int.ediv_lt_iff_lt_mul (by omega)).2 ?_)
  have e : (hi + 1) * (2 * (n * n)) = 2 * ((n - i) * (n - i) * hi + i * i * hi) + 4 * (i * (n - i) * hi) + 2 * (n * n) := by grind
  omega
theorem coI_neg_bound {n x y i lo : Int} (hn : 1 ≤ n) (h0 : 0 ≤ i) (h1 : i ≤ n) (lo0 : lo ≤ 0) (hx : lo ≤ x) (hy : lo ≤ y) : lo ≤ coI n x y i := by
  have hb := nn_pos hn
  have a1 := Int.mul_le_mul_of_nonneg_left hx (sqnn (n - i))
  have a2 := Int.mul_le_mul_of_nonneg_left hy (sqnn i)
  have a3 := Int.mul_nonneg (Int.mul_nonneg h0 (show 0 ≤ n - i by omega)) (show 0 ≤ -lo by omega)
  unfold coI
  refine (Int.le_ediv_iff_mul_le (by omega)).2 ?_
  have e : lo * (2 * (n * n)) = 2 * ((n - i) * (n - i) * lo + i * i * lo) - 4 * (i * (n - i) * -lo) := by grind
  omega
/-- the second difference -/
theorem coI_diff {n x y i : Int} (hn : 1 ≤ n) : ∃ e : Int, n * n * (coI n x y i + coI n x y (i + 2) - 2 * coI n x y (i + 1)) = 2 * (x + y) + e ∧ -(2 * (n * n)) ≤ e ∧ e ≤ 2 * (n * n) := by
  obtain ⟨e0, h0, l0, u0⟩ := coI_err (x := x) (y := y) (i := i) hn
  obtain ⟨e1, h1, l1, u1⟩ := coI_err (x := x) (y := y) (i := i + 1) hn
  obtain ⟨e2, h2, l2, u2⟩ := coI_err (x := x) (y := y) (i := i + 2) hn
  refine ⟨e0 + e2 - 2 * e1, ?_, by omega, by omega⟩
  have e : (n - i) * (n - i) * x + i * i * y + ((n - (i + 2)) * (n - (i + 2)) * x + (i + 2) * (i + 2) * y) - 2 * ((n - (i + 1)) * (n - (i + 1)) * x + (i + 1) * (i + 1) * y) = 2 * (x + y) := by grind
  have e' : n * n * (coI n x y i + coI n x y (i + 2) - 2 * coI n x y (i + 1)) = n * n * coI n x y i + n * n * coI n x y (i + 2) - 2 * (n * n * coI n x y (i + 1)) := by grind
  omega
theorem sm_one {m s S e : Int} (h : m * s = 2 * S + e) (l : -(2 * m) ≤ e) (u : e ≤ 2 * m) (hm : 0 ≤ m) : 9 * (m * m * (s * s)) ≤ 40 * (S * S) + 360 * (m * m) := by
  have h1 : m * m * (s * s) = (2 * S + e) * (2 * S + e) := by rw [← h]; grind
  have h2 := sqnn (2 * S - 9 * e)
  have h3 : e * e ≤ 2 * m * (2 * m) := by
    have := Int.mul_nonneg (show 0 ≤ 2 * m - e by omega) (show 0 ≤ 2 * m + e by omega)
    have e1 : (2 * m - e) * (2 * m + e) = 2 * m * (2 * m) - e * e := by grind
    omega
  have e2 : (2 * S - 9 * e) * (2 * S - 9 * e) = 4 * (S * S) - 36 * (S * e) + 81 * (e * e) := by grind
  have e3 : (2 * S + e) * (2 * S + e) = 4 * (S * S) + 4 * (S * e) + e * e := by grind
  have e4 : 2 * m * (2 * m) = 4 * (m * m) := by grind
  omega
theorem smooth3 {n x0 y0 x1 y1 x2 y2 i : Int} (hn : 1 ≤ n) (hS : (x0 + y0) * (x0 + y0) + (x1 + y1) * (x1 + y1) + (x2 + y2) * (x2 + y2) ≤ 256 * (n * n * (n * n))) :
    (coI n x0 y0 i + coI n x0 y0 (i + 2) - 2 * coI n x0 y0 (i + 1)) * (coI n x0 y0 i + coI n x0 y0 (i + 2) - 2 * coI n x0 y0 (i + 1)) + (coI n x1 y1 i + coI n x1 y1 (i + 2) - 2 * coI n x1 y1 (i + 1)) * (coI n x1 y1 i + coI n x1 y1 (i + 2) - 2 * coI n x1 y1 (i + 1)) + (coI n x2 y2 i + coI n x2 y2 (i + 2) - 2 * coI n x2 y2 (i + 1)) * (coI n x2 y2 i + coI n x2 y2 (i + 2) - 2 * coI n x2 y2 (i + 1)) ≤ 1296 := by
  have hb := nn_pos hn
  obtain ⟨e0, h0, l0, u0⟩ := coI_diff (x := x0) (y := y0) (i := i) hn
  obtain ⟨e1, h1, l1, u1⟩ := coI_diff (x := x1) (y := y1) (i := i) hn
  obtain ⟨e2, h2, l2, u2⟩ := coI_diff (x := x2) (y := y2) (i := i) hn
  have k0 := sm_one h0 l0 u0 (by omega)
  have k1 := sm_one h1 l1 u1 (by omega)
  have k2 := sm_one h2 l2 u2 (by omega)
  generalize coI n x0 y0 i + coI n x0 y0 (i + 2) - 2 * coI n x0 y0 (i + 1) = s0 at *
  generalize coI n x1 y1 i + coI n x1 y1 (i + 2) - 2 * coI n x1 y1 (i + 1) = s1 at *
  generalize coI n x2 y2 i + coI n x2 y2 (i + 2) - 2 * coI n x2 y2 (i + 1) = s2 at *
  generalize (x0 + y0) * (x0 + y0) = S0 at *
  generalize (x1 + y1) * (x1 + y1) = S1 at *
  generalize (x2 + y2) * (x2 + y2) = S2 at *
  have hm : 1 ≤ n * n * (n * n) := nn_pos hb
  clear h0 h1 h2 l0 l1 l2 u0 u1 u2 hb
  generalize n * n * (n * n) = m at *
  refine Int.le_of_not_gt fun hc => ?_
  have hg : 1297 ≤ s0 * s0 + s1 * s1 + s2 * s2 := by omega
  have := Int.mul_le_mul_of_nonneg_left hg (show 0 ≤ m by omega)
  rw [Int.mul_add, Int.mul_add] at this
  omega
theorem cs3 (a b c x y z : Int) : (a * x + b * y + c * z) * (a * x + b * y + c * z) ≤ (a * a + b * b + c * c) * (x * x + y * y + z * z) := by
  have h1 := sqnn (a * y - b * x)
  have h2 := sqnn (a * z - c * x)
  have h3 := sqnn (b * z - c * y)
  have e : (a * a + b * b + c * c) * (x * x + y * y + z * z) = (a * x + b * y + c * z) * (a * x + b * y + c * z) + (a * y - b * x) * (a * y - b * x) + (a * z - c * x) * (a * z - c * x) + (b * z - c * y) * (b * z - c * y) := by grind
  omega
theorem le_of_sqI {a b : Int} (hb : 0 ≤ b) (h : a * a ≤ b * b) : a ≤ b := by
  refine Int.le_of_not_gt fun hc => ?_
  have := Int.mul_le_mul (show b + 1 ≤ a by omega) (show b + 1 ≤ a by omega) (by omega) (by omega)
  have e : (b + 1) * (b + 1) = b * b + 2 * b + 1 := by grind
  omega
theorem tri3 {a b c x y z A B : Int} (hA : 0 ≤ A) (hB : 0 ≤ B) (h1 : a * a + b * b + c * c ≤ A * A) (h2 : x * x + y * y + z * z ≤ B * B) :
    (a + x) * (a + x) + (b + y) * (b + y) + (c + z) * (c + z) ≤ (A + B) * (A + B) := by
  have hc := cs3 a b c x y z
  have q1 := sqnn a
  have q2 := sqnn b
  have q3 := sqnn c
  have p1 := sqnn x
  have p2 := sqnn y
  have p3 := sqnn z
  have hm := Int.mul_le_mul h1 h2 (by omega) (sqnn A)
  have h := le_of_sqI (a := a * x + b * y + c * z) (b := A * B) (Int.mul_nonneg hA hB) (by
    have e : A * A * (B * B) = A * B * (A * B) := by grind
    omega)
  have e1 : (a + x) * (a + x) + (b + y) * (b + y) + (c + z) * (c + z) = (a * a + b * b + c * c) + (x * x + y * y + z * z) + 2 * (a * x + b * y + c * z) := by grind
  have e2 : (A + B) * (A + B) = A * A + B * B + 2 * (A * B) := by grind
  omega
/-- a point that has a near point on the segment from 0 to u lies near the segment, as the reference reckons it -/
theorem seg3 {u0 u1 u2 q0 q1 q2 M h e : Int} (hM : 1 ≤ M) (h0 : 0 ≤ h) (h1 : h ≤ M)
    (hq : (M * q0 - h * u0) * (M * q0 - h * u0) + (M * q1 - h * u1) * (M * q1 - h * u1) + (M * q2 - h * u2) * (M * q2 - h * u2) ≤ M * M * (e * e)) :
    (u0 * q0 + u1 * q1 + u2 * q2 ≤ 0 → q0 * q0 + q1 * q1 + q2 * q2 ≤ e * e) ∧ (u0 * u0 + u1 * u1 + u2 * u2 ≤ u0 * q0 + u1 * q1 + u2 * q2 → (u0 - q0) * (u0 - q0) + (u1 - q1) * (u1 - q1) + (u2 - q2) * (u2 - q2) ≤ e * e) ∧
    (q0 * q0 + q1 * q1 + q2 * q2 - e * e) * (u0 * u0 + u1 * u1 + u2 * u2) ≤ (u0 * q0 + u1 * q1 + u2 * q2) * (u0 * q0 + u1 * q1 + u2 * q2) := by
  have hMM := nn_pos hM
  have n0 := sqnn u0
  have n1 := sqnn u1
  have n2 := sqnn u2
  have e1 : (M * q0 - h * u0) * (M * q0 - h * u0) + (M * q1 - h * u1) * (M * q1 - h * u1) + (M * q2 - h * u2) * (M * q2 - h * u2) = M * M * (q0 * q0 + q1 * q1 + q2 * q2) - 2 * (M * h * (u0 * q0 + u1 * q1 + u2 * q2)) + h * h * (u0 * u0 + u1 * u1 + u2 * u2) := by grind
  have e2 : (u0 - q0) * (u0 - q0) + (u1 - q1) * (u1 - q1) + (u2 - q2) * (u2 - q2) = (q0 * q0 + q1 * q1 + q2 * q2) - 2 * (u0 * q0 + u1 * q1 + u2 * q2) + (u0 * u0 + u1 * u1 + u2 * u2) := by grind
  rw [e2]
  rw [e1] at hq
  have hn : 0 ≤ u0 * u0 + u1 * u1 + u2 * u2 := by omega
  clear e1 e2 n0 n1 n2
  generalize u0 * u0 + u1 * u1 + u2 * u2 = n at *
  generalize u0 * q0 + u1 * q1 + u2 * q2 = t at *
  generalize q0 * q0 + q1 * q1 + q2 * q2 = q at *
  refine ⟨fun ht => ?_, fun ht => ?_, ?_⟩
  · have a1 := Int.mul_nonneg (Int.mul_nonneg (show 0 ≤ M by omega) h0) (show 0 ≤ -t by omega)
    have a2 := Int.mul_nonneg (sqnn h) hn
    rw [Int.mul_neg] at a1
    exact Int.le_of_mul_le_mul_left (show M * M * q ≤ M * M * (e * e) by omega) (by omega)
  · have a1 := Int.mul_nonneg (Int.mul_nonneg (show 0 ≤ M by omega) (show 0 ≤ M - h by omega)) (show 0 ≤ t - n by omega)
    have a2 := Int.mul_nonneg (sqnn (M - h)) hn
    have e3 : M * M * (q - 2 * t + n) = (M * M * q - 2 * (M * h * t) + h * h * n) - 2 * (M * (M - h) * (t - n)) - (M - h) * (M - h) * n := by grind
    exact Int.le_of_mul_le_mul_left (show M * M * (q - 2 * t + n) ≤ M * M * (e * e) by omega) (by omega)
  · have a1 := sqnn (M * t - h * n)
    have a2 := Int.mul_le_mul_of_nonneg_right hq hn
    have e3 : M * M * ((q - e * e) * n) = (M * M * q - 2 * (M * h * t) + h * h * n) * n - M * M * (e * e) * n + (M * t * (M * t) - (M * t - h * n) * (M * t - h * n)) := by grind
    have e4 : M * M * (t * t) = M * t * (M * t) := by grind
    exact Int.le_of_mul_le_mul_left (show M * M * ((q - e * e) * n) ≤ M * M * (t * t) by omega) (by omega)
/-- a rational near d by the root of N -/
theorem rat_near (d N : Nat) (hd : d ≤ 33554432) (hN : 1 ≤ N) (hdN : d * d ≤ N) : ∃ r : Nat, r ≤ 1073741824 ∧ r * r * N ≤ d * d * 1152921504606846976 ∧ d * d * 1152921504606846976 ≤ (r + 1) * (r + 1) * N := by
  have hA := Nat.mul_le_mul hd hd
  have s := rtN_spec (d * d * 1152921504606846976 / N) (Nat.lt_of_le_of_lt (Nat.div_le_self _ _) (by omega))
  generalize rtN (d * d * 1152921504606846976 / N) = T at *
  have s1 : T * T * N ≤ d * d * 1152921504606846976 := (Nat.le_div_iff_mul_le hN).1 s.1
  have s2 : d * d * 1152921504606846976 < (T + 1) * (T + 1) * N := (Nat.div_lt_iff_lt_mul hN).1 s.2
  refine ⟨T, ?_, s1, Nat.le_of_lt s2⟩
  refine le_of_sq (Nat.le_of_mul_le_mul_right (c := N) ?_ hN)
  have := Nat.mul_le_mul_right 1152921504606846976 hdN
  omega
/-- the rounded component against the rational -/
theorem nr_rat (x : Int) (d N r : Nat) (hx : x.natAbs ≤ 67108864) (hd : d ≤ 33554432) (hN : 1 ≤ N) (h1 : r * r * N ≤ d * d * 1152921504606846976) (h2 : d * d * 1152921504606846976 ≤ (r + 1) * (r + 1) * N) :
    -(1073741824 + 2 * (x.natAbs : Int)) ≤ 2 * (1073741824 * nrI x d N - r * x) ∧ 2 * (1073741824 * nrI x d N - r * x) ≤ 1073741824 + 2 * (x.natAbs : Int) := by
  have s := nrN_spec x d N hx (by omega) (by omega)
  rw [Int.natAbs_natCast, Int.natAbs_natCast] at s
  have hs : nrI x d N = if x < 0 then -(nrN x d N : Int) else nrN x d N := rfl
  rw [hs]
  generalize nrN x d N = T at *
  obtain ⟨X, hX⟩ : ∃ X, x.natAbs = X := ⟨_, rfl⟩
  rw [hX] at s ⊢
  have k1 : 1073741824 * (2 * T - 1) ≤ 2 * X * (r + 1) := by
    refine le_of_sq (Nat.le_of_mul_le_mul_right (c := N) ?_ hN)
    have e1 : 1073741824 * (2 * T - 1) * (1073741824 * (2 * T - 1)) * N = 1152921504606846976 * ((2 * T - 1) * (2 * T - 1) * N) := by generalize 2 * T - 1 = o; grind
    have e2 : 2 * X * (r + 1) * (2 * X * (r + 1)) * N = 4 * (X * X) * ((r + 1) * (r + 1) * N) := by grind
    have e3 : 1152921504606846976 * (4 * (X * d * (X * d))) = 4 * (X * X) * (d * d * 1152921504606846976) := by grind
    have m1 := Nat.mul_le_mul_left 1152921504606846976 s.1
    have m2 := Nat.mul_le_mul_left (4 * (X * X)) h2
    omega
  have k2 : 2 * X * r ≤ 1073741824 * (2 * T + 1) := by
    refine le_of_sq (Nat.le_of_mul_le_mul_right (c := N) ?_ hN)
    have e1 : 1073741824 * (2 * T + 1) * (1073741824 * (2 * T + 1)) * N = 1152921504606846976 * ((2 * T + 1) * (2 * T + 1) * N) := by grind
    have e2 : 2 * X * r * (2 * X * r) * N = 4 * (X * X) * (r * r * N) := by grind
    have e3 : 1152921504606846976 * (4 * (X * d * (X * d))) = 4 * (X * X) * (d * d * 1152921504606846976) := by grind
    have m1 := Nat.mul_le_mul_left 1152921504606846976 s.2
    have m2 := Nat.mul_le_mul_left (4 * (X * X)) h1
    omega
  have e5 : 2 * X * (r + 1) = 2 * (X * r) + 2 * X := by grind
  have e6 : 2 * X * r = 2 * (X * r) := by grind
  have e7 : ((X * r : Nat) : Int) = (r : Int) * X := by rw [Int.natCast_mul, Int.mul_comm]
  by_cases hn : x < 0
  · rw [if_pos hn]
    obtain rfl : x = -(X : Int) := by omega
    rw [Int.mul_neg, Int.mul_neg]
    omega
  · rw [if_neg hn]
    obtain rfl : x = (X : Int) := by omega
    omega
theorem nr_hull (x : Int) (d N : Nat) (hx : x.natAbs ≤ 67108864) (hd : d ≤ 33554432) (hN : 1 ≤ N) (hdN : d * d ≤ N) : (0 ≤ nrI x d N ∧ nrI x d N ≤ x) ∨ (x ≤ nrI x d N ∧ nrI x d N ≤ 0) := by
  have s := (nrN_spec x d N hx (by omega) (by omega)).1
  rw [Int.natAbs_natCast, Int.natAbs_natCast] at s
  have hs : nrI x d N = if x < 0 then -(nrN x d N : Int) else nrN x d N := rfl
  rw [hs]
  generalize nrN x d N = T at *
  obtain ⟨X, hX⟩ : ∃ X, x.natAbs = X := ⟨_, rfl⟩
  rw [hX] at s
  have k1 : 2 * T - 1 ≤ 2 * X := by
    refine le_of_sq (Nat.le_of_mul_le_mul_right (c := N) ?_ hN)
    have e2 : 2 * X * (2 * X) * N = 4 * (X * X) * N := by grind
    have e3 : 4 * (X * d * (X * d)) = 4 * (X * X) * (d * d) := by grind
    have m2 := Nat.mul_le_mul_left (4 * (X * X)) hdN
    omega
  split <;> omega
theorem y_bd {g n2 f e x : Int} (hg : 0 ≤ g) (hg2 : g ≤ n2) (hx : x ≤ 67108864) (hx0 : 0 ≤ x) (f1 : -(1073741824 + 2 * x) ≤ 2 * f) (f2 : 2 * f ≤ 1073741824 + 2 * x) (e1 : -n2 ≤ 2 * e) (e2 : 2 * e ≤ n2) :
    16 * 16 * ((g * f + 1073741824 * e) * (g * f + 1073741824 * e)) ≤ 17 * 17 * (n2 * 1073741824 * (n2 * 1073741824)) := by
  have a1 := Int.mul_nonneg hg (show 0 ≤ 603979776 - f by omega)
  have a2 := Int.mul_nonneg hg (show 0 ≤ 603979776 + f by omega)
  have c1 : g * (603979776 - f) = 603979776 * g - g * f := by grind
  have c2 : g * (603979776 + f) = 603979776 * g + g * f := by grind
  generalize hy : g * f + 1073741824 * e = y
  have y1 : 16 * y ≤ 17 * (n2 * 1073741824) := by omega
  have y2 : -(17 * (n2 * 1073741824)) ≤ 16 * y := by omega
  have := Int.mul_nonneg (show 0 ≤ 17 * (n2 * 1073741824) - 16 * y by omega) (show 0 ≤ 17 * (n2 * 1073741824) + 16 * y by omega)
  grind
/-- the first half of a blend lies near the first segment -/
theorem dev3 {x0 x1 x2 y0 y1 y2 n i tol : Int} {d N : Nat} (hd : d ≤ 33554432) (hN : 1 ≤ N) (hdN : d * d ≤ N) (hn : 1 ≤ n) (hi : 0 ≤ i) (hi2 : 2 * i ≤ n) (ht : 0 ≤ tol)
    (b0 : x0.natAbs ≤ 67108864) (b1 : x1.natAbs ≤ 67108864) (b2 : x2.natAbs ≤ 67108864)
    (hS : (nrI x0 d N + y0) * (nrI x0 d N + y0) + (nrI x1 d N + y1) * (nrI x1 d N + y1) + (nrI x2 d N + y2) * (nrI x2 d N + y2) ≤ 16 * tol * tol) :
    ∃ M h : Int, 1 ≤ M ∧ 0 ≤ h ∧ h ≤ M ∧ (M * coI n (nrI x0 d N) y0 i - h * x0) * (M * coI n (nrI x0 d N) y0 i - h * x0) + (M * coI n (nrI x1 d N) y1 i - h * x1) * (M * coI n (nrI x1 d N) y1 i - h * x1) + (M * coI n (nrI x2 d N) y2 i - h * x2) * (M * coI n (nrI x2 d N) y2 i - h * x2) ≤ M * M * ((tol + 2) * (tol + 2)) := by
  obtain ⟨r, hr, r1, r2⟩ := rat_near d N hd hN hdN
  have f0 := nr_rat x0 d N r b0 hd hN r1 r2
  have f1 := nr_rat x1 d N r b1 hd hN r1 r2
  have f2 := nr_rat x2 d N r b2 hd hN r1 r2
  generalize nrI x0 d N = p0 at *
  generalize nrI x1 d N = p1 at *
  generalize nrI x2 d N = p2 at *
  obtain ⟨e0, E0, l0, u0⟩ := coI_err (x := p0) (y := y0) (i := i) hn
  obtain ⟨e1, E1, l1, u1⟩ := coI_err (x := p1) (y := y1) (i := i) hn
  obtain ⟨e2, E2, l2, u2⟩ := coI_err (x := p2) (y := y2) (i := i) hn
  generalize coI n p0 y0 i = v0 at *
  generalize coI n p1 y1 i = v1 at *
  generalize coI n p2 y2 i = v2 at *
  clear r1 r2 hd hdN hN
  have hb := nn_pos hn
  have hg : 0 ≤ n * (n - 2 * i) := Int.mul_nonneg (by omega) (by omega)
  have hg2 : n * (n - 2 * i) ≤ n * n := Int.mul_le_mul_of_nonneg_left (by omega) (by omega)
  have hi4 : 4 * (i * i) ≤ n * n := by
    have := Int.mul_le_mul hi2 hi2 (by omega) (by omega)
    have e : 2 * i * (2 * i) = 4 * (i * i) := by grind
    omega
  have k0 := y_bd hg hg2 (by omega) (by omega) f0.1 f0.2 l0 u0
  have k1 := y_bd hg hg2 (by omega) (by omega) f1.1 f1.2 l1 u1
  have k2 := y_bd hg hg2 (by omega) (by omega) f2.1 f2.2 l2 u2
  have w0 : n * n * 1073741824 * v0 - n * (n - 2 * i) * r * x0 = 1073741824 * (i * i * (p0 + y0)) + (n * (n - 2 * i) * (1073741824 * p0 - r * x0) + 1073741824 * e0) := by
    have : n * n * 1073741824 * v0 = 1073741824 * (n * n * v0) := by grind
    rw [this, E0]; grind
  have w1 : n * n * 1073741824 * v1 - n * (n - 2 * i) * r * x1 = 1073741824 * (i * i * (p1 + y1)) + (n * (n - 2 * i) * (1073741824 * p1 - r * x1) + 1073741824 * e1) := by
    have : n * n * 1073741824 * v1 = 1073741824 * (n * n * v1) := by grind
    rw [this, E1]; grind
  have w2 : n * n * 1073741824 * v2 - n * (n - 2 * i) * r * x2 = 1073741824 * (i * i * (p2 + y2)) + (n * (n - 2 * i) * (1073741824 * p2 - r * x2) + 1073741824 * e2) := by
    have : n * n * 1073741824 * v2 = 1073741824 * (n * n * v2) := by grind
    rw [this, E2]; grind
  refine ⟨n * n * 1073741824, n * (n - 2 * i) * r, by omega, Int.mul_nonneg hg (by omega), ?_, ?_⟩
  · exact Int.mul_le_mul hg2 (by omega) (by omega) (by omega)
  rw [w0, w1, w2]
  generalize n * (n - 2 * i) * (1073741824 * p0 - r * x0) + 1073741824 * e0 = a0 at *
  generalize n * (n - 2 * i) * (1073741824 * p1 - r * x1) + 1073741824 * e1 = a1 at *
  generalize n * (n - 2 * i) * (1073741824 * p2 - r * x2) + 1073741824 * e2 = a2 at *
  clear w0 w1 w2 E0 E1 E2 f0 f1 f2 l0 l1 l2 u0 u1 u2 hg hg2
  have hM : 0 ≤ n * n * 1073741824 := by omega
  have T := tri3 (a := 1073741824 * (i * i * (p0 + y0))) (b := 1073741824 * (i * i * (p1 + y1))) (c := 1073741824 * (i * i * (p2 + y2))) (x := a0) (y := a1) (z := a2) (A := n * n * 1073741824 * tol) (B := n * n * 1073741824 * 2) (Int.mul_nonneg hM ht) (by omega) ?_ ?_
  · refine Int.le_trans T (Int.le_of_eq ?_)
    grind
  · have h4 := Int.mul_le_mul hi4 hi4 (Int.mul_nonneg (by decide) (sqnn i)) (by omega)
    have e5 : 4 * (i * i) * (4 * (i * i)) = 16 * (i * i * (i * i)) := by grind
    have a := Int.mul_le_mul_of_nonneg_left hS (sqnn (i * i))
    have b := Int.mul_le_mul_of_nonneg_right h4 (sqnn tol)
    have e6 : i * i * (i * i) * (16 * tol * tol) = 4 * (i * i) * (4 * (i * i)) * (tol * tol) := by grind
    have c := Int.mul_le_mul_of_nonneg_left (Int.le_trans a (Int.le_trans (Int.le_of_eq e6) b)) (show (0 : Int) ≤ 1073741824 * 1073741824 by decide)
    refine Int.le_trans (Int.le_of_eq ?_) (Int.le_trans c (Int.le_of_eq ?_)) <;> grind
  · have e7 : n * n * 1073741824 * 2 * (n * n * 1073741824 * 2) = 4 * (n * n * 1073741824 * (n * n * 1073741824)) := by grind
    have e8 := sqnn (n * n * 1073741824)
    omega
end Go.Proofs.Ytdjopepipcnmdaa
