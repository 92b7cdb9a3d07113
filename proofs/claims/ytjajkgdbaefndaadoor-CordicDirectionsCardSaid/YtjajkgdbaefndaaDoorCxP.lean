/- Proved here: a point is its distance, turned by its direction, within 3 units: the plain fact; no program in sight; coordinates up to 2^20, not the origin. -/
import Derived.Test.YtjajkgdbaefndaaDoorCxD
namespace Go.Proofs.YtjajkgdbaefndaaDoor
open Go.RowKit Cx
set_option linter.unusedVariables false
theorem ns_iN (k : Nat) : ns (iN k) = 1 := by
  induction k with
  | zero => exact ns_one
  | succ k ih => rw [iN, ns_mul, ih]; decide +kernel
theorem iN_quarter (k : Nat) : Cl (E wN (90000000000 * (k : Int))) (iN k) ((k : Rat) / 1000000000000) := by
  induction k with
  | zero =>
    have e1 : (90000000000 * ((0 : Nat) : Int)) = 0 := rfl
    rw [e1, E_zero]
    exact (Cl.refl one).mono (by decide +kernel)
  | succ k ih =>
    have e : (90000000000 * ((k + 1 : Nat) : Int)) = 90000000000 + 90000000000 * k := by omega
    rw [e, E_add wN ns_w]
    have m1 := quarter_near.mul_right (E wN (90000000000 * k)) (r := 1) (by decide +kernel) (by rw [ns_E wN ns_w]; decide +kernel)
    have m2 := ih.mul_left ⟨0, 1⟩ (r := 1) (by decide +kernel) (by decide +kernel)
    refine (m1.trans m2).mono ?_
    have : ((k + 1 : Nat) : Rat) = k + 1 := by simp
    rw [this]; grind
theorem full_j {j : Int} (hj : j = -1 ∨ j = 0 ∨ j = 1) : Cl (E wN (-(360000000000 * j))) one (1 / 100000000000) := by
  rcases hj with rfl | rfl | rfl
  · have e : -(360000000000 * (-1 : Int)) = 360000000000 := by decide
    rw [e]; exact full_near
  · have e : -(360000000000 * (0 : Int)) = 0 := by decide
    rw [e, E_zero]; exact (Cl.refl one).mono (by decide +kernel)
  · have e : -(360000000000 * (1 : Int)) = -360000000000 := by decide
    rw [e, E_neg, ← conj_one]; exact full_near.conj
theorem turn_near (z d j : Int) (k : Nat) (hd : -500 ≤ d) (hd2 : d ≤ 500) (hk : k ≤ 3) (hj : j = -1 ∨ j = 0 ∨ j = 1) :
    Cl (E wN (z + 90000000000 * k + d + -(360000000000 * j))) (mul (E wN z) (iN k)) (9 / 1000000000) := by
  have f := full_j hj
  have g := (E_near wN ns_w w_near d).mono (f := 500 * (175 / 10000000000000)) (by
    have : d.natAbs ≤ 500 := by omega
    have : (d.natAbs : Rat) ≤ 500 := by exact_mod_cast this
    exact Rat.mul_le_mul_of_nonneg_right this (by decide +kernel))
  have q := iN_quarter k
  have hk2 : (k : Rat) ≤ 3 := by exact_mod_cast hk
  rw [E_add wN ns_w, E_add wN ns_w, E_add wN ns_w]
  have n1 : ns (E wN z) = 1 := ns_E wN ns_w _
  have n2 : ns (E wN (90000000000 * (k : Int))) = 1 := ns_E wN ns_w _
  have n3 : ns (E wN d) = 1 := ns_E wN ns_w _
  generalize E wN z = Z at *
  generalize E wN (90000000000 * (k : Int)) = K at *
  generalize E wN d = D at *
  have s1 := q.mul_left Z (r := 1) (by decide +kernel) (by rw [n1]; decide +kernel)
  have s2 := g.mul_left (mul Z K) (r := 1) (by decide +kernel) (by rw [ns_mul, n1, n2]; decide +kernel)
  have s3 := f.mul_left (mul (mul Z K) D) (r := 1) (by decide +kernel) (by rw [ns_mul, ns_mul, n1, n2, n3]; decide +kernel)
  rw [mul_one] at s2 s3
  exact ((s3.trans s2).trans s1).mono (by grind)
theorem q_iN (x y : Int) : ∃ k : Nat, qK x y = k ∧ k ≤ 3 ∧ mul ⟨qU x y, qV x y⟩ (iN k) = ⟨x, y⟩ := by
  unfold qK qU qV
  split
  · exact ⟨0, rfl, by omega, by simp only [iN, mul, one]; ext <;> simp <;> grind⟩
  split
  · exact ⟨1, rfl, by omega, by simp only [iN, mul, one]; ext <;> simp [Rat.intCast_neg] <;> grind⟩
  split
  · exact ⟨2, rfl, by omega, by simp only [iN, mul, one]; ext <;> simp [Rat.intCast_neg] <;> grind⟩
  · exact ⟨3, rfl, by omega, by simp only [iN, mul, one]; ext <;> simp [Rat.intCast_neg] <;> grind⟩
theorem q_sq (x y : Int) : qU x y * qU x y + qV x y * qV x y = x * x + y * y := by
  unfold qU qV
  (repeat' split) <;> grind
theorem q_bd (x y : Int) (hx : -1048576 ≤ x) (hx2 : x ≤ 1048576) (hy : -1048576 ≤ y) (hy2 : y ≤ 1048576) : qU x y ≤ 1048576 := by
  unfold qU; (repeat' split) <;> omega
theorem angR_eq (z : Int) (h1 : -99900000000 ≤ z) (h2 : z ≤ 99900000000) : angR z = (z + 500) / 1000 := by
  unfold angR
  rw [w_in (n := z + 500) (by omega) (by omega)]
  have e : z + 500 - (z + 500) % 1000 = 1000 * ((z + 500) / 1000) := by omega
  rw [e, w_in (n := 1000 * ((z + 500) / 1000)) (by omega) (by omega), Int.mul_tdiv_cancel_left _ (by decide), w_in (by omega) (by omega)]
theorem ang_form (x y : Int) (hx : -1048576 ≤ x) (hx2 : x ≤ 1048576) (hy : -1048576 ≤ y) (hy2 : y ≤ 1048576) (hn : x ≠ 0 ∨ y ≠ 0) (k : Nat) (hk : qK x y = k) (hk3 : k ≤ 3) :
    (0 ≤ angI x y ∧ angI x y < 360000000) ∧ ∃ z d j : Int, (-500 ≤ d ∧ d ≤ 500) ∧ (j = -1 ∨ j = 0 ∨ j = 1) ∧ 1000 * angI x y = z + 90000000000 * k + d + -(360000000000 * j)
      ∧ (mul ⟨qU x y, qV x y⟩ (E wN (-z))).im ≤ 1 / 10 ∧ -(1 / 10) ≤ (mul ⟨qU x y, qV x y⟩ (E wN (-z))).im ∧ -(1 / 10) ≤ (mul ⟨qU x y, qV x y⟩ (E wN (-z))).re := by
  have ub := q_bd x y hx hx2 hy hy2
  have uv := qUV x y hn
  unfold angI
  rw [hk]
  generalize qU x y = u at *
  generalize qV x y = v at *
  by_cases hv : v = 0
  · rw [if_pos hv]
    subst hv
    refine ⟨by omega, 0, 0, (k : Int) * 90000000 / 360000000, by omega, by omega, by omega, ?_⟩
    rw [show -(0 : Int) = 0 from rfl, E_zero, mul_one]
    have l3 : ((0 : Int) : Rat) = 0 := by decide +kernel
    have c := Rat.intCast_le_intCast.mpr (show (0 : Int) ≤ u by omega)
    rw [l3] at c ⊢
    refine ⟨?_, ?_, ?_⟩
    · show (0 : Rat) ≤ 1 / 10
      decide +kernel
    · show -(1 / 10) ≤ (0 : Rat)
      decide +kernel
    · show -(1 / 10) ≤ (u : Rat)
      grind
  · rw [if_neg hv, itrA_same u v (by omega) ub (by omega) (by omega) 26 (Nat.le_refl _)]
    obtain ⟨z, hz⟩ : ∃ z, (itrV 26 (u * 1048576, v * 1048576, 0)).2.2 = z := ⟨_, rfl⟩
    have zb := ang_bd 26 (u * 1048576, v * 1048576, 0) rfl (Nat.le_refl _)
    have zs := Zs_bd 26 (by omega)
    have dn := dir_near u v (by omega) ub (by omega) (by omega) z hz
    rw [hz] at zb ⊢
    rw [angR_eq z (by omega) (by omega), w_in (by omega) (by omega)]
    refine ⟨by omega, z, 1000 * ((z + 500) / 1000) - z, ((k : Int) * 90000000 + (z + 500) / 1000) / 360000000, by omega, by omega, by omega, dn⟩
theorem sq_pos {x : Int} (h : x ≠ 0) : 0 < x * x := by
  rcases Int.lt_or_gt_of_ne h with g | g
  · exact Int.mul_pos_of_neg_of_neg g g
  · exact Int.mul_pos g g
/-- A POINT IS ITS DISTANCE, TURNED BY ITS DIRECTION -/
theorem directions_fact (x y : Int) (hx : -1048576 ≤ x) (hx2 : x ≤ 1048576) (hy : -1048576 ≤ y) (hy2 : y ≤ 1048576) (hn : x ≠ 0 ∨ y ≠ 0) (r : Nat) (hr : SQ 2 (x * x + y * y).toNat r) :
    (0 ≤ angI x y ∧ angI x y < 360000000) ∧ r ≤ 1482912 ∧ (rotX r 0 (angI x y) - x ≤ 3 ∧ x - rotX r 0 (angI x y) ≤ 3) ∧ rotY r 0 (angI x y) - y ≤ 3 ∧ y - rotY r 0 (angI x y) ≤ 3 := by
  obtain ⟨k, hk, hk3, hq⟩ := q_iN x y
  obtain ⟨hrange, z, d, j, hd, hj, ha, i1, i2, i3⟩ := ang_form x y hx hx2 hy hy2 hn k hk hk3
  have hN : 1 ≤ x * x + y * y := by
    have := sq_int x
    have := sq_int y
    rcases hn with h | h
    · have := sq_pos h; omega
    · have := sq_pos h; omega
  have mx := mul_bd hx hx2 hx hx2
  have my := mul_bd hy hy2 hy hy2
  have fit := hr.fits (Or.inr (Or.inr rfl)) 1482911 (Nat.le_trans (show (x * x + y * y).toNat ≤ 2199023255552 by omega) (by decide))
  have fr : r ≤ 1482912 := by omega
  refine ⟨hrange, fr, ?_⟩
  have hW : ns (mul ⟨qU x y, qV x y⟩ (E wN (-z))) = ((x * x + y * y : Int) : Rat) := by
    rw [ns_mul, ns_E wN ns_w, ← q_sq x y]
    simp only [ns, Rat.intCast_add, Rat.intCast_mul]
    grind
  have dn := dist_near hN hW hr i1 i2 i3
  have m1 := dn.mul_right (E wN z) (r := 1) (by decide +kernel) (by rw [ns_E wN ns_w]; decide +kernel)
  rw [mul_assoc, ← E_add wN ns_w, show -z + z = 0 by omega, E_zero, mul_one] at m1
  have m2 := m1.mul_right (iN k) (r := 1) (by decide +kernel) (by rw [ns_iN]; decide +kernel)
  rw [hq] at m2
  have n0 : ns ⟨((r : Int) : Rat), ((0 : Int) : Rat)⟩ ≤ 1482912 * 1482912 := by
    have e0 : ((r : Int) : Rat) = (r : Rat) := Rat.intCast_natCast r
    have l3 : ((0 : Int) : Rat) = 0 := by decide +kernel
    have r0 : (0 : Rat) ≤ r := Rat.natCast_nonneg
    have r1 : (r : Rat) ≤ 1482912 := by exact_mod_cast fr
    simp only [ns, e0, l3]
    have := mul_le_mul2 r0 r1 r0 r1
    grind
  have t := (turn_near z d j k hd.1 hd.2 hk3 hj).mul_left _ (r := 1482912) (by decide +kernel) n0
  rw [← ha, ← mul_assoc] at t
  have rn := rot_near r 0 (angI x y) (by omega) (by omega) (by omega) (by omega) (r := 1482912) (by decide +kernel) n0
  rw [Int.emod_eq_of_lt hrange.1 hrange.2] at rn
  have f := ((rn.trans t).trans m2).mono (f := 3) (by decide +kernel)
  have f1 := f.re
  have f2 := f.im
  simp only at f1 f2
  refine ⟨⟨?_, ?_⟩, ?_, ?_⟩
  · exact le_lit (r := 3) (by rw [Rat.intCast_sub]; exact f1.1) (by decide +kernel)
  · exact le_lit (r := 3) (by rw [Rat.intCast_sub]; exact f1.2) (by decide +kernel)
  · exact le_lit (r := 3) (by rw [Rat.intCast_sub]; exact f2.1) (by decide +kernel)
  · exact le_lit (r := 3) (by rw [Rat.intCast_sub]; exact f2.2) (by decide +kernel)
end Go.Proofs.YtjajkgdbaefndaaDoor
