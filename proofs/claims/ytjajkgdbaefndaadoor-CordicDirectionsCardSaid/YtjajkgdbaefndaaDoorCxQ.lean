/- Proved here: the plain facts of the laws on quarter turns and right angles; no program in sight; ranges of the arguments as stated. -/
import Derived.Test.YtjajkgdbaefndaaDoorCxL
namespace Go.Proofs.YtjajkgdbaefndaaDoor
open Go.RowKit
set_option linter.unusedVariables false

theorem w_neg2 {x : Int} (h1 : -9223372036854775808 ≤ x) (h2 : x ≤ 9223372036854775807) : wrap64 (-wrap64 (-x)) = x := by unfold wrap64; omega
theorem w_bd (n : Int) : -9223372036854775808 ≤ wrap64 n ∧ wrap64 n ≤ 9223372036854775807 := by unfold wrap64; omega
theorem qt_succ (n : Nat) (p : Int × Int) : qt (n + 1) p = (wrap64 (-(qt n p).2), (qt n p).1) := by
  induction n generalizing p with
  | zero => rfl
  | succ n ih =>
    show qt (n + 1) (wrap64 (-p.2), p.1) = _
    rw [ih]; rfl
theorem qt_four (n : Nat) (p : Int × Int) (h1 : -9223372036854775808 ≤ p.1 ∧ p.1 ≤ 9223372036854775807) (h2 : -9223372036854775808 ≤ p.2 ∧ p.2 ≤ 9223372036854775807) : qt (n + 4) p = qt n p := by
  show qt n _ = _
  have e : (wrap64 (-(wrap64 (-p.1))), wrap64 (-(wrap64 (-p.2)))) = p := by
    rw [w_neg2 h1.1 h1.2, w_neg2 h2.1 h2.2]
  exact congrArg (qt n) e
theorem itrW_bd (m : Nat) (s : Int × Int × Int) : (-9223372036854775808 ≤ (itrW (m + 1) s).1 ∧ (itrW (m + 1) s).1 ≤ 9223372036854775807) ∧ -9223372036854775808 ≤ (itrW (m + 1) s).2.1 ∧ (itrW (m + 1) s).2.1 ≤ 9223372036854775807 := by
  simp only [itrW, stpW]
  split
  · exact ⟨w_bd _, w_bd _⟩
  · exact ⟨w_bd _, w_bd _⟩
theorem scXY_bd (a : Int) : (-9223372036854775808 ≤ (scXY a).1 ∧ (scXY a).1 ≤ 9223372036854775807) ∧ -9223372036854775808 ≤ (scXY a).2 ∧ (scXY a).2 ≤ 9223372036854775807 := by
  unfold scXY
  split
  · exact ⟨by show _ ≤ (1073741824 : Int) ∧ (1073741824 : Int) ≤ _; omega, by show _ ≤ (0 : Int) ∧ (0 : Int) ≤ _; omega⟩
  · have h := itrW_bd 25 (652032874, 0, scR a * 1000)
    rw [show (25 : Nat) + 1 = 26 from rfl] at h
    generalize itrW 26 (652032874, 0, scR a * 1000) = t at h ⊢
    exact h
/-- a quarter turn further -/
theorem quarter_fact (a : Int) : sinI (a + 90000000) = cosI a ∧ cosI (a + 90000000) = wrap64 (-sinI a) := by
  have eR : scR (a + 90000000) = scR a := by unfold scR; omega
  have eP : scXY (a + 90000000) = scXY a := by unfold scXY; rw [eR]
  have b := scXY_bd a
  unfold sinI cosI
  rw [eP]
  have hK : scK (a + 90000000) = scK a + 1 ∨ scK (a + 90000000) + 3 = scK a := by unfold scK; omega
  rcases hK with h | h
  · rw [h, qt_succ]; exact ⟨rfl, rfl⟩
  · have e : qt (scK (a + 90000000)) (scXY a) = qt (scK a + 1) (scXY a) := by
      rw [← h, Nat.add_assoc, qt_four _ _ b.1 b.2]
    rw [e, qt_succ]; exact ⟨rfl, rfl⟩
theorem full_fact (a : Int) : sinI (a - 360000000) = sinI a ∧ cosI (a - 360000000) = cosI a := by
  have e : (a - 360000000) % 360000000 = a % 360000000 := by omega
  have eR : scR (a - 360000000) = scR a := by unfold scR; rw [e]
  have eK : scK (a - 360000000) = scK a := by unfold scK; rw [e]
  have eP : scXY (a - 360000000) = scXY a := by unfold scXY; rw [eR]
  unfold sinI cosI
  rw [eK, eP]; exact ⟨rfl, rfl⟩
theorem half_fact (a : Int) : sinI (a + 180000000) = wrap64 (-sinI a) ∧ cosI (a + 180000000) = wrap64 (-cosI a) := by
  have h1 := quarter_fact a
  have h2 := quarter_fact (a + 90000000)
  have e : a + 90000000 + 90000000 = a + 180000000 := by omega
  rw [e, h1.1, h1.2] at h2
  exact ⟨h2.1, h2.2⟩
theorem right_fact (x y k : Int) (hx : -4194304 ≤ x) (hx2 : x ≤ 4194304) (hy : -4194304 ≤ y) (hy2 : y ≤ 4194304) :
    rotX x y (k * 90000000) = (qt (k % 4).toNat (x, y)).1 ∧ rotY x y (k * 90000000) = (qt (k % 4).toNat (x, y)).2 := by
  have eR : scR (k * 90000000) = 0 := by unfold scR; omega
  have eP : scXY (k * 90000000) = (1073741824, 0) := by unfold scXY; rw [if_pos eR]
  have eK : scK (k * 90000000) = (k % 4).toNat := by unfold scK; omega
  unfold rotX rotY sinI cosI
  rw [eP, eK]
  have h4 : (k % 4).toNat = 0 ∨ (k % 4).toNat = 1 ∨ (k % 4).toNat = 2 ∨ (k % 4).toNat = 3 := by omega
  have e30 : (2 : Int) ^ 30 = 1073741824 := by decide
  have q0 : qt 0 (1073741824, 0) = (1073741824, 0) := rfl
  have q1 : qt 1 (1073741824, 0) = (0, 1073741824) := by decide +kernel
  have q2 : qt 2 (1073741824, 0) = (-1073741824, 0) := by decide +kernel
  have q3 : qt 3 (1073741824, 0) = (0, -1073741824) := by decide +kernel
  rcases h4 with h | h | h | h <;> rw [h]
  · rw [q0]; simp only [qt, nearI, wrap64, e30, Int.mul_zero]; constructor <;> omega
  · rw [q1]; simp only [qt, nearI, wrap64, e30, Int.mul_zero]; constructor <;> omega
  · rw [q2]; simp only [qt, nearI, wrap64, e30, Int.mul_zero]; constructor <;> omega
  · rw [q3]; simp only [qt, nearI, wrap64, e30, Int.mul_zero]; constructor <;> omega
end Go.Proofs.YtjajkgdbaefndaaDoor
