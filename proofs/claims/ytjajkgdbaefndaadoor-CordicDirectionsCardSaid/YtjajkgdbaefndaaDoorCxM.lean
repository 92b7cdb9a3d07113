/- Proved here: the plain facts of the laws on the circle, mirrored angles and rotations there and back; no program in sight; ranges of the arguments as stated. -/
import Derived.Test.YtjajkgdbaefndaaDoorCxL
namespace Go.Proofs.YtjajkgdbaefndaaDoor
open Go.RowKit Cx
set_option linter.unusedVariables false

theorem sc_bd (a : Int) : (-1073742900 ≤ cosI a ∧ cosI a ≤ 1073742900) ∧ -1073742900 ≤ sinI a ∧ sinI a ≤ 1073742900 :=
  parts_bd (sc_near a) (ns_E wN ns_w _) (by decide +kernel)
theorem lit_le {x n : Int} {r : Rat} (h : r ≤ (x : Rat)) (hr : (n : Rat) = r) : n ≤ x := Rat.intCast_le_intCast.mp (by rw [hr]; exact h)
theorem mul_bd {x y B D : Int} (h1 : -B ≤ x) (h2 : x ≤ B) (h3 : -D ≤ y) (h4 : y ≤ D) : -(B * D) ≤ x * y ∧ x * y ≤ B * D := by
  have a1 := Int.mul_nonneg (a := B - x) (b := D - y) (by omega) (by omega)
  have a2 := Int.mul_nonneg (a := B + x) (b := D + y) (by omega) (by omega)
  have a3 := Int.mul_nonneg (a := B - x) (b := D + y) (by omega) (by omega)
  have a4 := Int.mul_nonneg (a := B + x) (b := D - y) (by omega) (by omega)
  constructor <;> grind
theorem circle_fact (a : Int) : sinI a * sinI a + cosI a * cosI a - 1152921504606846976 ≤ 1099511627776 ∧ -1099511627776 ≤ sinI a * sinI a + cosI a * cosI a - 1152921504606846976 := by
  have h := sc_near a
  have hz : ns (E wN (1000 * (a % 360000000))) = 1 := ns_E wN ns_w _
  generalize E wN (1000 * (a % 360000000)) = z at h hz
  generalize sinI a = s at *
  generalize cosI a = c at *
  have n : ns (sc 1073741824 z) = 1073741824 * 1073741824 := by rw [ns_sc, hz]; decide +kernel
  have up : ns ⟨c, s⟩ ≤ (101 + 1073741824) * (101 + 1073741824) := by
    have t := tri h.1 (y := 1073741824) (by decide +kernel) h.2 (by rw [n]; exact Rat.le_refl)
    have e1 : add (sub ⟨c, s⟩ (sc 1073741824 z)) (sc 1073741824 z) = ⟨c, s⟩ := by simp only [add, sub]; ext <;> simp <;> grind
    rwa [e1] at t
  have lo : ¬ ns ⟨c, s⟩ ≤ 1073741424 * 1073741424 := by
    intro hl
    have t := tri h.symm.1 (y := 1073741424) (by decide +kernel) h.symm.2 hl
    have e1 : add (sub (sc 1073741824 z) ⟨c, s⟩) ⟨c, s⟩ = sc 1073741824 z := by simp only [add, sub]; ext <;> simp <;> grind
    rw [e1, n] at t
    revert t
    decide +kernel
  simp only [ns] at up lo
  have k1 : s * s + c * c ≤ (101 + 1073741824) * (101 + 1073741824) :=
    le_lit (r := (101 + 1073741824) * (101 + 1073741824)) (by rw [Rat.intCast_add, Rat.intCast_mul, Rat.intCast_mul]; grind) (by decide +kernel)
  have k2 : 1073741424 * 1073741424 ≤ s * s + c * c :=
    lit_le (r := 1073741424 * 1073741424) (by rw [Rat.intCast_add, Rat.intCast_mul, Rat.intCast_mul]; grind) (by decide +kernel)
  omega
/-- a full turn is none -/
theorem full_near : Cl (E wN 360000000000) one (1 / 100000000000) := by
  have q := quarter_near
  have n90 : ns (E wN 90000000000) ≤ 1 * 1 := by rw [ns_E wN ns_w]; decide +kernel
  have a1 := q.mul_right (E wN 90000000000) (r := 1) (by decide +kernel) n90
  have a2 := q.mul_left ⟨0, 1⟩ (r := 1) (by decide +kernel) (by decide +kernel)
  have a3 := a1.trans a2
  rw [← E_add wN ns_w] at a3
  have e1 : (90000000000 : Int) + 90000000000 = 180000000000 := rfl
  rw [e1] at a3
  have e2 : mul ⟨0, 1⟩ ⟨0, 1⟩ = (⟨-1, 0⟩ : C) := by simp only [mul]; ext <;> decide +kernel
  rw [e2] at a3
  have b1 := a3.mul_right (E wN 180000000000) (r := 1) (by decide +kernel) (by rw [ns_E wN ns_w]; decide +kernel)
  have b2 := a3.mul_left ⟨-1, 0⟩ (r := 1) (by decide +kernel) (by decide +kernel)
  have b3 := b1.trans b2
  rw [← E_add wN ns_w] at b3
  have e3 : (180000000000 : Int) + 180000000000 = 360000000000 := rfl
  have e4 : mul ⟨-1, 0⟩ ⟨-1, 0⟩ = one := by simp only [mul, one]; ext <;> decide +kernel
  rw [e3, e4] at b3
  exact b3.mono (by decide +kernel)
/-- an angle and its opposite cancel -/
theorem opp_near (a : Int) : Cl (mul (E wN (1000 * (a % 360000000))) (E wN (1000 * (-a % 360000000)))) one (1 / 100000000000) := by
  rw [← E_add wN ns_w]
  have h : 1000 * (a % 360000000) + 1000 * (-a % 360000000) = 0 ∨ 1000 * (a % 360000000) + 1000 * (-a % 360000000) = 360000000000 := by omega
  rcases h with h | h
  · rw [h, E_zero]; exact (Cl.refl _).mono (by decide +kernel)
  · rw [h]; exact full_near
theorem opp_conj (a : Int) : Cl (E wN (1000 * (-a % 360000000))) (conj (E wN (1000 * (a % 360000000)))) (1 / 100000000000) := by
  have h := (opp_near a).mul_left (conj (E wN (1000 * (a % 360000000)))) (r := 1) (by decide +kernel) (by rw [ns_conj, ns_E wN ns_w]; decide +kernel)
  rw [← mul_assoc, mul_comm (conj _), mul_conj, ns_E wN ns_w, mul_one] at h
  have e : (⟨1, 0⟩ : C) = one := rfl
  rw [e, one_mul] at h
  exact h.mono (by decide +kernel)
theorem mirrors_fact (a : Int) : (sinI a + sinI (-a) ≤ 300 ∧ -300 ≤ sinI a + sinI (-a)) ∧ cosI a - cosI (-a) ≤ 300 ∧ -300 ≤ cosI a - cosI (-a) := by
  have h1 := (sc_near a).conj
  have h2 := sc_near (-a)
  have h3 := (opp_conj a).sc (k := 1073741824) (by decide +kernel)
  have e : conj (sc 1073741824 (E wN (1000 * (a % 360000000)))) = sc 1073741824 (conj (E wN (1000 * (a % 360000000)))) := by simp only [conj, sc]; ext <;> simp <;> grind
  rw [e] at h1
  have h := (h2.trans h3).trans h1.symm
  have r := h.re
  have i := h.im
  have m : (101 : Rat) + 1073741824 * (1 / 100000000000) + 101 ≤ 300 := by decide +kernel
  simp only [conj] at r i
  have k1 : cosI (-a) - cosI a ≤ 300 := le_lit (r := 300) (by rw [Rat.intCast_sub]; grind) (by decide +kernel)
  have k2 : cosI a - cosI (-a) ≤ 300 := le_lit (r := 300) (by rw [Rat.intCast_sub]; grind) (by decide +kernel)
  have k3 : sinI a + sinI (-a) ≤ 300 := le_lit (r := 300) (by rw [Rat.intCast_add]; grind) (by decide +kernel)
  have k4 : -(sinI a + sinI (-a)) ≤ 300 := le_lit (r := 300) (by rw [Rat.intCast_neg, Rat.intCast_add]; grind) (by decide +kernel)
  omega
/-- rounding to the nearest -/
theorem nearI_near (n : Int) (h1 : -9000000000000000000 ≤ n) (h2 : n ≤ 9000000000000000000) : (nearI n : Rat) - n * (1 / 1073741824) ≤ 1 / 2 ∧ n * (1 / 1073741824) - (nearI n : Rat) ≤ 1 / 2 := by
  unfold nearI
  rw [w_in (by omega) (by omega)]
  have e : (2 : Int) ^ 30 = 1073741824 := by decide
  rw [e]
  have h3 : (n + 536870912) / 1073741824 * 1073741824 ≤ n + 536870912 := by omega
  have h4 : n + 536870912 ≤ (n + 536870912) / 1073741824 * 1073741824 + 1073741824 := by omega
  generalize (n + 536870912) / 1073741824 = q at *
  have c3 := Rat.intCast_le_intCast.mpr h3
  have c4 := Rat.intCast_le_intCast.mpr h4
  have l1 : ((1073741824 : Int) : Rat) = 1073741824 := by decide +kernel
  have l2 : ((536870912 : Int) : Rat) = 536870912 := by decide +kernel
  rw [Rat.intCast_mul, Rat.intCast_add, l1, l2] at c3
  rw [Rat.intCast_add, Rat.intCast_add, Rat.intCast_mul, l1, l2] at c4
  constructor <;> grind
/-- Rotate IS NEAR A ROTATION -/
theorem rot_near (x y a : Int) (hx : -4194304 ≤ x) (hx2 : x ≤ 4194304) (hy : -4194304 ≤ y) (hy2 : y ≤ 4194304) {r : Rat} (hr : 0 ≤ r) (hn : ns ⟨x, y⟩ ≤ r * r) :
    Cl ⟨rotX x y a, rotY x y a⟩ (mul ⟨x, y⟩ (E wN (1000 * (a % 360000000)))) (3 / 4 + r * (101 / 1073741824)) := by
  have b := sc_bd a
  have m1 := mul_bd hx hx2 b.1.1 b.1.2
  have m2 := mul_bd hy hy2 b.2.1 b.2.2
  have m3 := mul_bd hx hx2 b.2.1 b.2.2
  have m4 := mul_bd hy hy2 b.1.1 b.1.2
  have h := ((sc_near a).mul_left ⟨x, y⟩ hr hn).sc (k := 1 / 1073741824) (by decide +kernel)
  have e1 : sc (1 / 1073741824) (mul ⟨x, y⟩ (sc 1073741824 (E wN (1000 * (a % 360000000))))) = mul ⟨x, y⟩ (E wN (1000 * (a % 360000000))) := by
    simp only [mul, sc]; ext <;> simp <;> grind
  rw [e1] at h
  generalize E wN (1000 * (a % 360000000)) = z at *
  unfold rotX rotY
  generalize sinI a = s at *
  generalize cosI a = c at *
  have n1 := nearI_near (x * c - y * s) (by omega) (by omega)
  have n2 := nearI_near (x * s + y * c) (by omega) (by omega)
  rw [w_in (n := x * c) (by omega) (by omega), w_in (n := y * s) (by omega) (by omega), w_in (n := x * s) (by omega) (by omega), w_in (n := y * c) (by omega) (by omega), w_in (n := x * c - y * s) (by omega) (by omega), w_in (n := x * s + y * c) (by omega) (by omega)]
  rw [Rat.intCast_sub, Rat.intCast_mul, Rat.intCast_mul] at n1
  rw [Rat.intCast_add, Rat.intCast_mul, Rat.intCast_mul] at n2
  have p : Cl ⟨nearI (x * c - y * s), nearI (x * s + y * c)⟩ (sc (1 / 1073741824) (mul ⟨x, y⟩ ⟨c, s⟩)) (3 / 4) := by
    refine Cl.of_parts (p := 1 / 2) (q := 1 / 2) ?_ ?_ ?_ ?_ (by decide +kernel) (by decide +kernel) <;> simp only [mul, sc] <;> grind
  exact (p.trans h).mono (by grind)
/-- the length that remains -/
theorem ns_of_cl {p q : C} {e r : Rat} (h : Cl p q e) (hr : 0 ≤ r) (hq : ns q ≤ r * r) : ns p ≤ (e + r) * (e + r) := by
  have t := tri h.1 hr h.2 hq
  have e1 : add (sub p q) q = p := by simp only [add, sub]; ext <;> simp <;> grind
  rwa [e1] at t
theorem small_ns (x y : Int) (hx : -1048576 ≤ x) (hx2 : x ≤ 1048576) (hy : -1048576 ≤ y) (hy2 : y ≤ 1048576) : ns ⟨x, y⟩ ≤ 1482911 * 1482911 := by
  have m1 := mul_bd hx hx2 hx hx2
  have m2 := mul_bd hy hy2 hy hy2
  simp only [ns]
  have h : x * x + y * y ≤ 1482911 * 1482911 := by omega
  have c := Rat.intCast_le_intCast.mpr h
  have l1 : ((1482911 * 1482911 : Int) : Rat) = 1482911 * 1482911 := by decide +kernel
  rw [Rat.intCast_add, Rat.intCast_mul, Rat.intCast_mul, l1] at c
  exact c
theorem ns_bd {x y : Int} {r : Int} (hr : 0 ≤ r) (h : ns ⟨x, y⟩ ≤ (r : Rat) * r) : (-r ≤ x ∧ x ≤ r) ∧ -r ≤ y ∧ y ≤ r := by
  have r0 : (0 : Rat) ≤ r := Rat.intCast_nonneg.mpr hr
  simp only [ns] at h
  have sx := sq_nn (x : Rat)
  have sy := sq_nn (y : Rat)
  have x1 := le_of_sq (a := (x : Rat)) (b := r) r0 (by grind)
  have x2 := le_of_sq (a := -(x : Rat)) (b := r) r0 (by grind)
  have y1 := le_of_sq (a := (y : Rat)) (b := r) r0 (by grind)
  have y2 := le_of_sq (a := -(y : Rat)) (b := r) r0 (by grind)
  have c1 : x ≤ r := Rat.intCast_le_intCast.mp x1
  have c2 : -x ≤ r := Rat.intCast_le_intCast.mp (by rw [Rat.intCast_neg]; exact x2)
  have c3 : y ≤ r := Rat.intCast_le_intCast.mp y1
  have c4 : -y ≤ r := Rat.intCast_le_intCast.mp (by rw [Rat.intCast_neg]; exact y2)
  omega
/-- the first rotation of the law Back -/
theorem rot_small (x y a : Int) (hx : -1048576 ≤ x) (hx2 : x ≤ 1048576) (hy : -1048576 ≤ y) (hy2 : y ≤ 1048576) :
    Cl ⟨rotX x y a, rotY x y a⟩ (mul ⟨x, y⟩ (E wN (1000 * (a % 360000000)))) (9 / 10) ∧ ns ⟨rotX x y a, rotY x y a⟩ ≤ 1482912 * 1482912 := by
  have n := small_ns x y hx hx2 hy hy2
  have h := (rot_near x y a (by omega) (by omega) (by omega) (by omega) (by decide +kernel) n).mono (f := 9 / 10) (by decide +kernel)
  refine ⟨h, Rat.le_trans (ns_of_cl h (r := 1482911) (by decide +kernel) ?_) (by decide +kernel)⟩
  rw [ns_mul, ns_E wN ns_w]; grind
theorem rot_bd (x y a : Int) (hx : -1048576 ≤ x) (hx2 : x ≤ 1048576) (hy : -1048576 ≤ y) (hy2 : y ≤ 1048576) :
    (-1482912 ≤ rotX x y a ∧ rotX x y a ≤ 1482912) ∧ -1482912 ≤ rotY x y a ∧ rotY x y a ≤ 1482912 := by
  have h := (rot_small x y a hx hx2 hy hy2).2
  refine ns_bd (r := 1482912) (by omega) ?_
  have e : ((1482912 : Int) : Rat) = 1482912 := by decide +kernel
  rw [e]; exact h
theorem back_fact (x y a : Int) (hx : -1048576 ≤ x) (hx2 : x ≤ 1048576) (hy : -1048576 ≤ y) (hy2 : y ≤ 1048576) :
    (rotX (rotX x y a) (rotY x y a) (-a) - x ≤ 2 ∧ x - rotX (rotX x y a) (rotY x y a) (-a) ≤ 2) ∧ rotY (rotX x y a) (rotY x y a) (-a) - y ≤ 2 ∧ y - rotY (rotX x y a) (rotY x y a) (-a) ≤ 2 := by
  have b := rot_bd x y a hx hx2 hy hy2
  obtain ⟨h, n⟩ := rot_small x y a hx hx2 hy hy2
  have n0 := small_ns x y hx hx2 hy hy2
  generalize rotX x y a = u at *
  generalize rotY x y a = v at *
  have g := (rot_near u v (-a) (by omega) (by omega) (by omega) (by omega) (r := 1482912) (by decide +kernel) n).mono (f := 9 / 10) (by decide +kernel)
  have g2 := h.mul_right (E wN (1000 * (-a % 360000000))) (r := 1) (by decide +kernel) (by rw [ns_E wN ns_w]; decide +kernel)
  rw [mul_assoc] at g2
  have g3 := (opp_near a).mul_left ⟨x, y⟩ (r := 1482911) (by decide +kernel) n0
  rw [mul_one] at g3
  have f := (g.trans g2).trans g3
  generalize rotX u v (-a) = s at *
  generalize rotY u v (-a) = t at *
  have r := f.re
  have i := f.im
  have m : (9 / 10 : Rat) + 9 / 10 * 1 + 1 / 100000000000 * 1482911 ≤ 2 := by decide +kernel
  have k1 : s - x ≤ 2 := le_lit (r := 2) (by rw [Rat.intCast_sub]; grind) (by decide +kernel)
  have k2 : x - s ≤ 2 := le_lit (r := 2) (by rw [Rat.intCast_sub]; grind) (by decide +kernel)
  have k3 : t - y ≤ 2 := le_lit (r := 2) (by rw [Rat.intCast_sub]; grind) (by decide +kernel)
  have k4 : y - t ≤ 2 := le_lit (r := 2) (by rw [Rat.intCast_sub]; grind) (by decide +kernel)
  omega
end Go.Proofs.YtjajkgdbaefndaaDoor
