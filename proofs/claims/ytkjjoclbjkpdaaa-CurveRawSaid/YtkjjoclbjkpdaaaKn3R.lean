/- Proved here: the middle of a piece of an arc that is not flat lies strictly between its ends: the inequality; no program in sight. · the middle of a piece of an arc that is not flat lies strictly between its ends; no program in sight. · CurveMiddleBetween returns true for every argument; no conditions but that integers are ints. -/
import Derived.Test.YtkjjoclbjkpdaaaKm4R
namespace Go.Proofs.Ytkjjoclbjkpdaaa
open Go.RowKit
set_option linter.unusedVariables false
theorem sq_le_of {x m : Int} (h1 : x ≤ m) (h2 : -x ≤ m) : x * x ≤ m * m := by
  have e : (x * x).natAbs ≤ (m * m).natAbs := by rw [Int.natAbs_mul, Int.natAbs_mul]; exact Nat.mul_le_mul (by omega) (by omega)
  have := sq_nn x
  have := sq_nn m
  omega
theorem abs_le_of {x m : Int} (hm : 0 ≤ m) (h : x * x ≤ m * m) : -m ≤ x ∧ x ≤ m := by
  have e := le_of_sq (a := x.natAbs) (b := m.natAbs) (by have := natAbs_sq' x; have := natAbs_sq' m; omega)
  omega
/-- what rounding does: k is the root of N, rounded down -/
theorem round_err (x R N : Int) (k : Nat) (hx : x.natAbs ≤ 94906268) (hR : 0 ≤ R) (hR2 : R ≤ 94906268) (hN : 1 ≤ N) (hk1 : (k : Int) * k ≤ N) (hk2 : N < ((k : Int) + 1) * (k + 1)) (hxn : x * x ≤ N) :
    -((k : Int) + 1 + 2 * R) ≤ 2 * ((k : Int) * nrI x R N) - 2 * (R * x) ∧ 2 * ((k : Int) * nrI x R N) - 2 * (R * x) ≤ (k : Int) + 1 + 2 * R ∧ -R ≤ nrI x R N ∧ nrI x R N ≤ R := by
  obtain ⟨s1, s2⟩ := nrN_spec x R N hx (by omega) hN
  obtain ⟨r, rfl⟩ := Int.eq_ofNat_of_zero_le hR
  obtain ⟨d, rfl⟩ := Int.eq_ofNat_of_zero_le (show 0 ≤ N by omega)
  have hxx := natAbs_sq' x
  have hX : x.natAbs * x.natAbs ≤ d := by omega
  have hxs : x = (x.natAbs : Int) ∨ x = -(x.natAbs : Int) := Int.natAbs_eq x
  have hk1' : k * k ≤ d := by have : (k : Int) * k = ((k * k : Nat) : Int) := by rw [Int.natCast_mul]
                              omega
  have hk2' : d < (k + 1) * (k + 1) := by have : ((k : Int) + 1) * (k + 1) = (((k + 1) * (k + 1) : Nat) : Int) := by rw [Int.natCast_mul]; rfl
                                          omega
  rw [Int.natAbs_natCast, Int.natAbs_natCast] at s1 s2
  have hpv : nrI x r d = if x < 0 then -(nrN x r d : Int) else nrN x r d := rfl
  generalize nrN x r d = P at *
  obtain ⟨X, hXe⟩ : ∃ X, x.natAbs = X := ⟨_, rfl⟩
  rw [hXe] at s1 s2 hX hxs
  have a1 : (2 * P - 1) * k ≤ 2 * (X * r) := by
    refine le_of_sq ?_
    have i1 : (2 * P - 1) * k * ((2 * P - 1) * k) = (2 * P - 1) * (2 * P - 1) * (k * k) := by generalize 2 * P - 1 = Q; grind
    have i2 := Nat.mul_le_mul_left ((2 * P - 1) * (2 * P - 1)) hk1'
    have i3 : 2 * (X * r) * (2 * (X * r)) = 4 * (X * r * (X * r)) := by grind
    omega
  have a2 : 2 * (X * r) ≤ (2 * P + 1) * (k + 1) := by
    refine le_of_sq ?_
    have i1 : (2 * P + 1) * (k + 1) * ((2 * P + 1) * (k + 1)) = (2 * P + 1) * (2 * P + 1) * ((k + 1) * (k + 1)) := by grind
    have i2 := Nat.mul_le_mul_left ((2 * P + 1) * (2 * P + 1)) (Nat.le_of_lt hk2')
    have i3 : 2 * (X * r) * (2 * (X * r)) = 4 * (X * r * (X * r)) := by grind
    omega
  have a3 : P ≤ r := by
    have e1 : 4 * (X * r * (X * r)) = 4 * (r * r) * (X * X) := by grind
    have e2 := Nat.mul_le_mul_left (4 * (r * r)) hX
    have e3 : (2 * P - 1) * (2 * P - 1) ≤ 4 * (r * r) := Nat.le_of_mul_le_mul_right (by omega) (show 0 < d by omega)
    have e4 : 2 * r * (2 * r) = 4 * (r * r) := by grind
    have := le_of_sq (a := 2 * P - 1) (b := 2 * r) (by omega)
    omega
  have b1 : 2 * (k * P) ≤ 2 * (X * r) + k := by
    rcases P with _ | P
    · simp
    · have : (2 * (P + 1) - 1) * k = 2 * (k * P) + k := by rw [show 2 * (P + 1) - 1 = 2 * P + 1 by omega]; grind
      have : k * (P + 1) = k * P + k := by grind
      omega
  have b2 : 2 * (X * r) ≤ 2 * (k * P) + 2 * P + k + 1 := by
    have : (2 * P + 1) * (k + 1) = 2 * (k * P) + 2 * P + k + 1 := by grind
    omega
  have c1 : ((k * P : Nat) : Int) = (k : Int) * P := Int.natCast_mul k P
  have c2 : ((X * r : Nat) : Int) = (r : Int) * X := by rw [Int.natCast_mul, Int.mul_comm]
  rw [hpv]
  rcases hxs with h | h
  · rw [if_neg (by omega), h]
    omega
  · by_cases h0 : x < 0
    · rw [if_pos h0, h]
      have n1 : (k : Int) * -(P : Int) = -((k : Int) * P) := by grind
      have n2 : (r : Int) * -(X : Int) = -((r : Int) * X) := by grind
      omega
    · have hX0 : X = 0 := by omega
      subst hX0
      rw [if_neg h0, h]
      simp at b2 c2 ⊢
      omega
/-- the rounded direction keeps its side of a vector -/
theorem side (a0 a1 x y R N G C r : Int) (k : Nat) (hr : 128 ≤ r) (hrR : r ≤ R) (hRr : R ≤ r + 8) (hR2 : R ≤ 94906268) (hN : N = x * x + y * y) (hN1 : 1 ≤ N) (hx : x.natAbs ≤ 94906268) (hy : y.natAbs ≤ 94906268)
    (hk1 : (k : Int) * k ≤ N) (hk2 : N < ((k : Int) + 1) * (k + 1)) (hk : (k : Int) ≤ 2 * r + 34) (h0 : -(r + 17) ≤ a0 ∧ a0 ≤ r + 17) (h1 : -(r + 17) ≤ a1 ∧ a1 ≤ r + 17) (hC : 6 * r ≤ a0 * y - a1 * x) :
    0 < a0 * nrI y R N - a1 * nrI x R N := by
  have qx := sq_nn x
  have qy := sq_nn y
  obtain ⟨u1, u2, _, _⟩ := round_err x R N k hx (by omega) hR2 hN1 hk1 hk2 (by omega)
  obtain ⟨v1, v2, _, _⟩ := round_err y R N k hy (by omega) hR2 hN1 hk1 hk2 (by omega)
  generalize nrI x R N = p at *
  generalize nrI y R N = q at *
  obtain ⟨e, he⟩ : ∃ e, 2 * ((k : Int) * p) - 2 * (R * x) = e := ⟨_, rfl⟩
  obtain ⟨f, hf⟩ : ∃ f, 2 * ((k : Int) * q) - 2 * (R * y) = f := ⟨_, rfl⟩
  rw [he] at u1 u2
  rw [hf] at v1 v2
  have key : 2 * ((k : Int) * (a0 * q - a1 * p)) = 2 * (R * (a0 * y - a1 * x)) + (a0 * f - a1 * e) := by rw [← he, ← hf]; grind
  have bnd : ∀ {m z : Int}, -(r + 17) ≤ m ∧ m ≤ r + 17 → -(4 * r + 51) ≤ z → z ≤ 4 * r + 51 → -((r + 17) * (4 * r + 51)) ≤ m * z ∧ m * z ≤ (r + 17) * (4 * r + 51) := by
    intro m z hm z1 z2
    have : (m * z).natAbs ≤ ((r + 17) * (4 * r + 51)).natAbs := by rw [Int.natAbs_mul, Int.natAbs_mul]; exact Nat.mul_le_mul (by omega) (by omega)
    have : 0 ≤ (r + 17) * (4 * r + 51) := Int.mul_nonneg (by omega) (by omega)
    omega
  have b1 := bnd h0 (z := f) (by omega) (by omega)
  have b2 := bnd h1 (z := e) (by omega) (by omega)
  have e1 : (r + 17) * (4 * r + 51) = 4 * (r * r) + 119 * r + 867 := by grind
  have hr2 : 128 * r ≤ r * r := Int.mul_le_mul_of_nonneg_right hr (by omega)
  have h3 : r * (6 * r) ≤ R * (a0 * y - a1 * x) := Int.mul_le_mul hrR hC (by omega) (by omega)
  have e2 : r * (6 * r) = 6 * (r * r) := by grind
  have hpos : 0 < (k : Int) * (a0 * q - a1 * p) := by omega
  refine Classical.byContradiction fun hc => ?_
  have : (k : Int) * (a0 * q - a1 * p) ≤ 0 := Int.mul_nonpos_of_nonneg_of_nonpos (by omega) (by omega)
  omega
end Go.Proofs.Ytkjjoclbjkpdaaa
namespace Go.Proofs.Ytkjjoclbjkpdaaa
open Go.RowKit
set_option linter.unusedVariables false
end Go.Proofs.Ytkjjoclbjkpdaaa
namespace Go.Proofs.Ytkjjoclbjkpdaaa
open Go.RowKit
set_option linter.unusedVariables false
set_option linter.unusedSimpArgs false
end Go.Proofs.Ytkjjoclbjkpdaaa
