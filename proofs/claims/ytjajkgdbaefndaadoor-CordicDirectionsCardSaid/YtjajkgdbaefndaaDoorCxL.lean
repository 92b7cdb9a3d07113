/- Proved here: what the plain functions sinI, cosI, rotX, rotY give, measured against a rotation: no overflow, and nearness; no conditions but ranges of the arguments. -/
import Derived.Test.YtjajkgdbaefndaaDoorCxA
import Derived.Test.YtjajkgdbaefndaaDoorCw4
namespace Go.Proofs.YtjajkgdbaefndaaDoor
open Go.RowKit Cx
set_option linter.unusedVariables false

theorem tab_T (i : Nat) : tabAt i = T i := rfl
theorem w_in {n : Int} (h1 : -9223372036854775808 ≤ n) (h2 : n ≤ 9223372036854775807) : wrap64 n = n := by unfold wrap64; omega
theorem div_bd (y B : Int) (i : Nat) (h1 : -B ≤ y) (h2 : y ≤ B) : -B ≤ y / 2 ^ i ∧ y / 2 ^ i ≤ B := by
  have hp : (1 : Int) ≤ 2 ^ i := by have : (0 : Int) < 2 ^ i := Int.pow_pos (by decide); omega
  have hB := Int.mul_le_mul_of_nonneg_left hp (c := B) (by omega)
  rw [Int.mul_one] at hB
  constructor
  · refine (Int.le_ediv_iff_mul_le (c := 2 ^ i) (by omega)).2 ?_
    rw [Int.neg_mul]; omega
  · refine Int.not_lt.1 fun hq => ?_
    have h3 := Int.ediv_mul_le y (b := 2 ^ i) (by omega)
    have h4 := Int.mul_le_mul_of_nonneg_right (a := B + 1) (b := y / 2 ^ i) (c := 2 ^ i) (by omega) (by omega)
    rw [Int.add_mul] at h4
    omega
theorem T_bd : ∀ j, j < 26 → 0 ≤ T j ∧ T j ≤ 45000000000 := by decide +kernel
/-- no overflow in the algorithm -/
theorem itr_same (z : Int) (h1 : z ≤ 45000000000) (h2 : -45000000000 ≤ z) (m : Nat) (hm : m ≤ 26) :
    itrW m (652032874, 0, z) = itr m (652032874, 0, z) ∧ (-(1073741824 * 2 ^ m) ≤ (itr m (652032874, 0, z)).1 ∧ (itr m (652032874, 0, z)).1 ≤ 1073741824 * 2 ^ m)
      ∧ (-(1073741824 * 2 ^ m) ≤ (itr m (652032874, 0, z)).2.1 ∧ (itr m (652032874, 0, z)).2.1 ≤ 1073741824 * 2 ^ m)
      ∧ (-(45000000000 * (m + 1)) ≤ (itr m (652032874, 0, z)).2.2 ∧ (itr m (652032874, 0, z)).2.2 ≤ 45000000000 * (m + 1)) := by
  induction m with
  | zero => refine ⟨rfl, ?_, ?_, ?_⟩ <;> simp [itr] <;> omega
  | succ m ih =>
    obtain ⟨e, hx, hy, hz⟩ := ih (by omega)
    have hT := T_bd m (by omega)
    have hP : (2 : Int) ^ m ≤ 2 ^ 25 := by
      have : (2 : Nat) ^ m ≤ 2 ^ 25 := Nat.pow_le_pow_right (by decide) (by omega)
      exact_mod_cast this
    have hP2 : (2 : Int) ^ 25 = 33554432 := by decide
    have hS : (2 : Int) ^ (m + 1) = 2 ^ m * 2 := Int.pow_succ 2 m
    simp only [itrW, e, itr, hS]
    generalize itr m (652032874, 0, z) = s at *
    obtain ⟨x, y, r⟩ := s
    simp only at hx hy hz
    have dx := div_bd x _ m hx.1 hx.2
    have dy := div_bd y _ m hy.1 hy.2
    unfold stpW stp
    rw [tab_T]
    generalize x / 2 ^ m = qx at *
    generalize y / 2 ^ m = qy at *
    generalize (2 : Int) ^ m = p at *
    split
    · simp only
      rw [w_in (by omega) (by omega), w_in (by omega) (by omega), w_in (by omega) (by omega)]
      refine ⟨rfl, ?_, ?_, ?_⟩ <;> omega
    · simp only
      rw [w_in (by omega) (by omega), w_in (by omega) (by omega), w_in (by omega) (by omega)]
      refine ⟨rfl, ?_, ?_, ?_⟩ <;> omega
theorem itr26 (z : Int) (h1 : z ≤ 45000000000) (h2 : -45000000000 ≤ z) : itrW 26 (652032874, 0, z) = itr 26 (652032874, 0, z) := (itr_same z h1 h2 26 (by omega)).1
theorem E_zero : E wN 0 = one := by
  have : (0 : Int) = ((0 : Nat) : Int) := rfl
  rw [this, E_nat]; rfl
theorem scR_bd (a : Int) : -45000000 ≤ scR a ∧ scR a ≤ 45000000 := by unfold scR; omega
/-- the point ahead of the quarter turns -/
theorem scXY_near (a : Int) : Cl ⟨(scXY a).1, (scXY a).2⟩ (sc 1073741824 (E wN (1000 * scR a))) 100 := by
  have hb := scR_bd a
  unfold scXY
  split
  · rename_i h0
    rw [h0, Int.mul_zero, E_zero]
    have e : (⟨((1073741824 : Int) : Rat), ((0 : Int) : Rat)⟩ : C) = sc 1073741824 one := by
      simp only [sc, one]
      congr 1
      · decide +kernel
      · decide +kernel
    show Cl ⟨((1073741824 : Int) : Rat), ((0 : Int) : Rat)⟩ _ _
    rw [e]
    exact (Cl.refl _).mono (by decide +kernel)
  · have e : scR a * 1000 = 1000 * scR a := Int.mul_comm _ _
    rw [e, itr26 _ (by omega) (by omega)]
    have h := accuracy (1000 * scR a) (by omega) (by omega)
    generalize itr 26 (652032874, 0, 1000 * scR a) = t at h ⊢
    exact h
theorem le_lit {x n : Int} {r : Rat} (h : (x : Rat) ≤ r) (hr : (n : Rat) = r) : x ≤ n := Rat.intCast_le_intCast.mp (by rw [hr]; exact h)
/-- a number near one of length at most 2^30 has parts that are not much greater -/
theorem parts_bd {x y : Int} {z : C} {e : Rat} (h : Cl ⟨x, y⟩ (sc 1073741824 z) e) (hz : ns z = 1) (he : e ≤ 1000) : (-1073742900 ≤ x ∧ x ≤ 1073742900) ∧ -1073742900 ≤ y ∧ y ≤ 1073742900 := by
  have n : ns (sc 1073741824 z) ≤ 1073741824 * 1073741824 := by rw [ns_sc, hz]; grind
  have t := tri h.1 (y := 1073741824) (by decide +kernel) h.2 n
  have e1 : add (sub ⟨x, y⟩ (sc 1073741824 z)) (sc 1073741824 z) = ⟨x, y⟩ := by simp only [add, sub]; ext <;> simp <;> grind
  rw [e1] at t
  have h0 := h.1
  have t2 : (x : Rat) * x + y * y ≤ (1073742900 : Rat) * 1073742900 := Rat.le_trans t (mul_le_mul2 (by grind) (by grind) (by grind) (by grind))
  have sx := sq_nn (x : Rat)
  have sy := sq_nn (y : Rat)
  have x1 := le_of_sq (a := (x : Rat)) (b := 1073742900) (by decide +kernel) (by grind)
  have x2 := le_of_sq (a := -(x : Rat)) (b := 1073742900) (by decide +kernel) (by grind)
  have y1 := le_of_sq (a := (y : Rat)) (b := 1073742900) (by decide +kernel) (by grind)
  have y2 := le_of_sq (a := -(y : Rat)) (b := 1073742900) (by decide +kernel) (by grind)
  have c1 : x ≤ 1073742900 := le_lit x1 (by decide +kernel)
  have c2 : -x ≤ 1073742900 := le_lit (by rw [Rat.intCast_neg]; exact x2) (by decide +kernel)
  have c3 : y ≤ 1073742900 := le_lit y1 (by decide +kernel)
  have c4 : -y ≤ 1073742900 := le_lit (by rw [Rat.intCast_neg]; exact y2) (by decide +kernel)
  omega
/-- i^n -/
def iN : Nat → C
  | 0 => one
  | n + 1 => mul ⟨0, 1⟩ (iN n)
theorem qt_near (n : Nat) (hn : n ≤ 4) (x y : Int) (z : C) (h : Cl ⟨x, y⟩ (sc 1073741824 z) 100) (hz : ns z = 1) :
    Cl ⟨(qt n (x, y)).1, (qt n (x, y)).2⟩ (sc 1073741824 (mul z (E wN (90000000000 * n)))) (100 + n / 10) := by
  suffices H : ∀ (n : Nat) (x y : Int) (z : C) (e : Rat), e + n / 10 ≤ 101 → Cl ⟨x, y⟩ (sc 1073741824 z) e → ns z = 1 → Cl ⟨(qt n (x, y)).1, (qt n (x, y)).2⟩ (sc 1073741824 (mul z (E wN (90000000000 * n)))) (e + n / 10) by
    refine H n x y z 100 ?_ h hz
    have : (n : Rat) ≤ 4 := by exact_mod_cast hn
    grind
  intro n
  induction n with
  | zero =>
    intro x y z e he h hz
    have e1 : (90000000000 * ((0 : Nat) : Int)) = 0 := rfl
    rw [e1, E_zero, mul_one]
    exact h.mono (by have : ((0 : Nat) : Rat) = 0 := rfl
                     grind)
  | succ n ih =>
    intro x y z e he h hz
    have hn1 : ((n + 1 : Nat) : Rat) = n + 1 := by simp
    have hn0 : (0 : Rat) ≤ n := Rat.natCast_nonneg
    rw [hn1] at he
    have b := parts_bd h hz (by grind)
    have m1 := h.mul_right ⟨0, 1⟩ (r := 1) (by decide +kernel) (by decide +kernel)
    have e2 : mul ⟨x, y⟩ ⟨0, 1⟩ = (⟨((-y : Int) : Rat), (x : Rat)⟩ : C) := by simp only [mul]; ext <;> simp <;> grind
    have e3 : mul (sc 1073741824 z) ⟨0, 1⟩ = sc 1073741824 (mul z ⟨0, 1⟩) := by simp only [mul, sc]; ext <;> simp <;> grind
    rw [e2, e3] at m1
    have q := ((quarter_near.symm.mul_left z (r := 1) (by decide +kernel) (by rw [hz]; decide +kernel)).sc (k := 1073741824) (by decide +kernel))
    have m2 := (m1.trans q).mono (f := e + 1 / 10) (by grind)
    have r := ih (-y) x (mul z (E wN 90000000000)) (e + 1 / 10) (by grind) m2 (by rw [ns_mul, hz, ns_E wN ns_w]; decide +kernel)
    rw [mul_assoc, ← E_add wN ns_w] at r
    have e4 : (90000000000 : Int) + 90000000000 * n = 90000000000 * ((n + 1 : Nat) : Int) := by push_cast; omega
    rw [e4] at r
    have e5 : qt (n + 1) (x, y) = qt n (-y, x) := by
      show qt n (wrap64 (-y), x) = _
      rw [w_in (by omega) (by omega)]
    rw [e5]
    exact r.mono (by rw [hn1]; grind)
/-- SinCos IS NEAR A ROTATION -/
theorem sc_near (a : Int) : Cl ⟨cosI a, sinI a⟩ (sc 1073741824 (E wN (1000 * (a % 360000000)))) 101 := by
  have hK : scK a ≤ 4 := by unfold scK; omega
  have h := qt_near (scK a) hK _ _ _ (scXY_near a) (ns_E wN ns_w _)
  rw [← E_add wN ns_w] at h
  have e : 1000 * scR a + 90000000000 * (scK a : Int) = 1000 * (a % 360000000) := by unfold scR scK; omega
  rw [e] at h
  refine Cl.mono h ?_
  have : ((scK a : Nat) : Rat) ≤ 4 := by exact_mod_cast hK
  grind
end Go.Proofs.YtjajkgdbaefndaaDoor
