/- Proved here: the plain function for MulDiv is the exact quotient of the product, rounded; no program in sight; every argument. -/
import Derived.Test.YtdjopepipcnmdaaWm1
namespace Go.Proofs.Ytdjopepipcnmdaa
open Go.RowKit
set_option linter.unusedVariables false
/-- v is y / d, rounded by the mode m; d is positive -/
def RD (m y d v : Int) : Prop := (m = 0 → v * d ≤ y ∧ y < v * d + d) ∧ (m = 1 → y ≤ v * d ∧ v * d < y + d) ∧ (m = 2 → 2 * (v * d) ≤ 2 * y + d ∧ 2 * y + d < 2 * (v * d) + 2 * d)
theorem RD.uniq {m y d v v' : Int} (hd : 0 < d) (hm : m = 0 ∨ m = 1 ∨ m = 2) (h : RD m y d v) (h' : RD m y d v') : v = v' := by
  have key : ¬ (v < v') ∧ ¬ (v' < v) := by
    constructor
    · intro hl
      have g := Int.mul_le_mul_of_nonneg_right (show v + 1 ≤ v' by omega) (Int.le_of_lt hd)
      rw [Int.add_mul, Int.one_mul] at g
      rcases hm with rfl | rfl | rfl
      · have := h.1 rfl; have := h'.1 rfl; omega
      · have := h.2.1 rfl; have := h'.2.1 rfl; omega
      · have := h.2.2 rfl; have := h'.2.2 rfl; omega
    · intro hl
      have g := Int.mul_le_mul_of_nonneg_right (show v' + 1 ≤ v by omega) (Int.le_of_lt hd)
      rw [Int.add_mul, Int.one_mul] at g
      rcases hm with rfl | rfl | rfl
      · have := h.1 rfl; have := h'.1 rfl; omega
      · have := h.2.1 rfl; have := h'.2.1 rfl; omega
      · have := h.2.2 rfl; have := h'.2.2 rfl; omega
  omega
/-- a number with its sign -/
def withS (n : Nat) (neg : Bool) : Int := if neg then -(n : Int) else n
theorem sg_with (n : Nat) (neg : Bool) : sgO n neg = decide (-9223372036854775808 ≤ withS n neg ∧ withS n neg ≤ 9223372036854775807) ∧ (sgO n neg = true → sgV n neg = withS n neg) ∧ (sgO n neg = false → sgV n neg = 0) := by
  unfold sgO sgV withS
  cases neg
  · rw [if_neg (by decide), if_neg (by decide), if_neg (by decide)]
    refine ⟨?_, fun h => ?_, fun h => ?_⟩
    · rw [decide_eq_decide]; omega
    · rw [if_pos (by simpa using h)]
    · rw [if_neg (by simpa using h)]
  · rw [if_pos rfl, if_pos rfl, if_pos rfl]
    refine ⟨?_, fun h => ?_, fun h => ?_⟩
    · rw [decide_eq_decide]; omega
    · rw [if_pos (by simpa using h)]
    · rw [if_neg (by simpa using h)]
theorem cmp_pos (P Q : Nat) : (0 < cmpN P Q ↔ Q < P) ∧ (cmpN P Q = 0 ↔ P = Q) ∧ (cmpN P Q < 0 ↔ P < Q) := by
  unfold cmpN
  split
  · refine ⟨?_, ?_, ?_⟩ <;> constructor <;> intro h <;> omega
  · split
    · refine ⟨?_, ?_, ?_⟩ <;> constructor <;> intro h <;> omega
    · refine ⟨?_, ?_, ?_⟩ <;> constructor <;> intro h <;> omega
/-- the rounding of the absolute value -/
theorem rd_with {m y : Int} {d : Nat} (hd : 0 < d) (hm : m = 0 ∨ m = 1 ∨ m = 2) : RD m y d (withS (rdN m y.natAbs d (decide (y < 0))) (decide (y < 0))) := by
  have e := Nat.div_add_mod' y.natAbs d
  have hr := Nat.mod_lt y.natAbs hd
  have c := cmp_pos (2 * (y.natAbs % d)) d
  have hint : ((y.natAbs / d : Nat) : Int) * d + ((y.natAbs % d : Nat) : Int) = (y.natAbs : Int) := by exact_mod_cast e
  unfold rdN
  generalize y.natAbs / d = q at *
  generalize y.natAbs % d = r at *
  generalize hcm : cmpN (2 * r) d = k at *
  unfold withS
  by_cases hy : y < 0
  · rw [decide_eq_true hy, if_pos rfl]
    rcases hm with rfl | rfl | rfl
    · rw [grI_0, Bool.and_true]
      refine ⟨fun _ => ?_, fun h => absurd h (by decide), fun h => absurd h (by decide)⟩
      by_cases h0 : 0 < r
      · rw [decide_eq_true h0, if_pos rfl]
        have : (-((q + 1 : Nat) : Int)) * d = -((q : Int) * d) - d := by push_cast; grind
        rw [this]; omega
      · rw [decide_eq_false h0, if_neg (by decide)]
        have : (-((q + 0 : Nat) : Int)) * d = -((q : Int) * d) := by push_cast; grind
        rw [this]; omega
    · rw [grI_1, Bool.not_true, Bool.and_false, if_neg (by decide)]
      refine ⟨fun h => absurd h (by decide), fun _ => ?_, fun h => absurd h (by decide)⟩
      have : (-((q + 0 : Nat) : Int)) * d = -((q : Int) * d) := by push_cast; grind
      rw [this]; omega
    · rw [grI_2 _ _ (by decide) (by decide), Bool.not_true, Bool.and_false, Bool.or_false]
      refine ⟨fun h => absurd h (by decide), fun h => absurd h (by decide), fun _ => ?_⟩
      by_cases h0 : 0 < k
      · rw [decide_eq_true h0, if_pos rfl]
        have : (-((q + 1 : Nat) : Int)) * d = -((q : Int) * d) - d := by push_cast; grind
        rw [this]; have := c.1.1 h0; omega
      · rw [decide_eq_false h0, if_neg (by decide)]
        have : (-((q + 0 : Nat) : Int)) * d = -((q : Int) * d) := by push_cast; grind
        rw [this]; have := mt c.1.2 h0; omega
  · rw [decide_eq_false hy, if_neg (by decide)]
    rcases hm with rfl | rfl | rfl
    · rw [grI_0, Bool.and_false, if_neg (by decide)]
      refine ⟨fun _ => ?_, fun h => absurd h (by decide), fun h => absurd h (by decide)⟩
      have : (((q + 0 : Nat) : Int)) * d = ((q : Int) * d) := by push_cast; grind
      rw [this]; omega
    · rw [grI_1, Bool.not_false, Bool.and_true]
      refine ⟨fun h => absurd h (by decide), fun _ => ?_, fun h => absurd h (by decide)⟩
      by_cases h0 : 0 < r
      · rw [decide_eq_true h0, if_pos rfl]
        have : (((q + 1 : Nat) : Int)) * d = (q : Int) * d + d := by push_cast; grind
        rw [this]; omega
      · rw [decide_eq_false h0, if_neg (by decide)]
        have : (((q + 0 : Nat) : Int)) * d = (q : Int) * d := by push_cast; grind
        rw [this]; omega
    · rw [grI_2 _ _ (by decide) (by decide), Bool.not_false, Bool.and_true]
      refine ⟨fun h => absurd h (by decide), fun h => absurd h (by decide), fun _ => ?_⟩
      by_cases h0 : 0 < k ∨ k = 0
      · have hb : (decide (0 < k) || decide (k = 0)) = true := by simpa using h0
        rw [hb, if_pos rfl]
        have : (((q + 1 : Nat) : Int)) * d = (q : Int) * d + d := by push_cast; grind
        rw [this]
        have : d ≤ 2 * r := by rcases h0 with h | h; exact Nat.le_of_lt (c.1.1 h); exact Nat.le_of_eq (c.2.1.1 h).symm
        omega
      · have hb : (decide (0 < k) || decide (k = 0)) = false := by simpa using h0
        rw [hb, if_neg (by decide)]
        have : (((q + 0 : Nat) : Int)) * d = (q : Int) * d := by push_cast; grind
        rw [this]
        have h1 := mt c.1.2 (fun h => h0 (Or.inl h))
        have h2 := mt c.2.1.2 (fun h => h0 (Or.inr h))
        omega
/-- the product with the divisor's sign -/
def yI (a b c : Int) : Int := if c < 0 then -(a * b) else a * b
theorem sgI_mul (a b : Int) : (sgI a b < 0 ↔ a * b < 0) ∧ (sgI a b = 0 ↔ a * b = 0) := by
  by_cases h0 : a = 0 ∨ b = 0
  · rw [sgI_zero h0]
    have : a * b = 0 := by rcases h0 with h | h <;> subst h <;> simp
    rw [this]; omega
  · by_cases h1 : (a < 0 ∧ b < 0) ∨ (0 < a ∧ 0 < b)
    · rw [sgI_pos h1]
      have : 0 < a * b := by
        rcases h1 with h | h
        · exact Int.mul_pos_of_neg_of_neg h.1 h.2
        · exact Int.mul_pos h.1 h.2
      omega
    · have h2 : (a < 0 ∧ 0 < b) ∨ (0 < a ∧ b < 0) := by omega
      rw [sgI_neg h2]
      have : a * b < 0 := by
        rcases h2 with h | h
        · exact Int.mul_neg_of_neg_of_pos h.1 h.2
        · exact Int.mul_neg_of_pos_of_neg h.1 h.2
      omega
theorem ngI_eq (a b c : Int) (hc : c ≠ 0) : ngI a b c = decide (yI a b c < 0) := by
  have h := sgI_mul a b
  unfold ngI yI
  by_cases hcn : c < 0
  · rw [if_pos hcn, decide_eq_true hcn]
    by_cases h1 : sgI a b < 0
    · have e1 : decide (-(a * b) < 0) = false := decide_eq_false (by have := h.1.1 h1; omega)
      have e2 : decide (sgI a b ≠ 0) = true := decide_eq_true (by omega)
      rw [decide_eq_true h1, e1, e2]; rfl
    · by_cases h2 : sgI a b = 0
      · have e1 : decide (-(a * b) < 0) = false := decide_eq_false (by have := h.2.1 h2; omega)
        have e2 : decide (sgI a b ≠ 0) = false := decide_eq_false (fun g => g h2)
        rw [decide_eq_false h1, e1, e2]; rfl
      · have e1 : decide (-(a * b) < 0) = true := decide_eq_true (by have h3 := mt h.1.2 h1; have h4 := mt h.2.2 h2; omega)
        have e2 : decide (sgI a b ≠ 0) = true := decide_eq_true h2
        rw [decide_eq_false h1, e1, e2]; rfl
  · rw [if_neg hcn, decide_eq_false hcn]
    by_cases h1 : sgI a b < 0
    · have e1 : decide (a * b < 0) = true := decide_eq_true (h.1.1 h1)
      have e2 : decide (sgI a b ≠ 0) = true := decide_eq_true (by omega)
      rw [decide_eq_true h1, e1, e2]; rfl
    · have e1 : decide (a * b < 0) = false := decide_eq_false (mt h.1.2 h1)
      rw [decide_eq_false h1, e1]; rfl
theorem y_abs (a b c : Int) : (yI a b c).natAbs = a.natAbs * b.natAbs := by
  unfold yI; split
  · rw [Int.natAbs_neg, Int.natAbs_mul]
  · rw [Int.natAbs_mul]
/-- WHAT MulDiv GIVES, IN NUMBERS -/
theorem md_rel (a b c m : Int) (hc : c ≠ 0) (hm : m = 0 ∨ m = 1 ∨ m = 2) :
    ∃ v, RD m (yI a b c) c.natAbs v ∧ mdO a b c m = decide (-9223372036854775808 ≤ v ∧ v ≤ 9223372036854775807) ∧ (mdO a b c m = true → mdV a b c m = v) ∧ (mdO a b c m = false → mdV a b c m = 0) := by
  have hg : mdG c m = true := decide_eq_true (by omega)
  have hr := rd_with (m := m) (y := yI a b c) (d := c.natAbs) (by omega) hm
  have hs := sg_with (mdN a b c m) (ngI a b c)
  have e : withS (mdN a b c m) (ngI a b c) = withS (rdN m (yI a b c).natAbs c.natAbs (decide (yI a b c < 0))) (decide (yI a b c < 0)) := by
    unfold mdN; rw [ngI_eq a b c hc, y_abs]
  rw [← e] at hr
  refine ⟨_, hr, ?_, ?_, ?_⟩
  · unfold mdO; rw [hg, if_pos rfl]; exact hs.1
  · unfold mdO mdV; rw [hg, if_pos rfl, if_pos rfl]; exact hs.2.1
  · unfold mdO mdV; rw [hg, if_pos rfl, if_pos rfl]; exact hs.2.2
theorem md_not (a b c m : Int) (h : c = 0 ∨ m < 0 ∨ 2 < m) : mdO a b c m = false ∧ mdV a b c m = 0 := by
  have hg : mdG c m = false := decide_eq_false (by omega)
  unfold mdO mdV; rw [hg]; exact ⟨rfl, rfl⟩
end Go.Proofs.Ytdjopepipcnmdaa
