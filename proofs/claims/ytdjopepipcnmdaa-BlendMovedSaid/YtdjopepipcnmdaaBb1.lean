/- Proved here: what the program's Over gives in the mode Near is what the reference's Near gives; it is close to the quotient; no program in sight; ranges as stated. -/
import Derived.Test.YtdjopepipcnmdaaBa5
namespace Go.Proofs.Ytdjopepipcnmdaa
open Go.RowKit
set_option linter.unusedVariables false
def nrI (x r n : Int) : Int := if x < 0 then -(nrN x r n : Int) else nrN x r n
theorem nr_test (P Q : Nat) (s ng neg : Bool) (h : P = Q → ng = neg) : grI 2 (cmpN Q P) s ng = mostI P Q neg := by
  unfold grI mostI cmpN
  rw [if_neg (by decide), if_neg (by decide)]
  rcases Nat.lt_trichotomy P Q with g | g | g
  · rw [if_neg (by omega), if_neg (by omega), decide_eq_true g]; rfl
  · subst g; rw [if_neg (by omega), if_pos rfl, h rfl]; simp
  · rw [if_pos g, decide_eq_false (show ¬ P < Q by omega), decide_eq_false (show ¬ P = Q by omega)]; rfl
theorem nrN_le {x r n : Int} (hr2 : r.natAbs ≤ 67108864) (hx : x.natAbs ≤ 67108864) (hn : 1 ≤ n) (hxn : x.natAbs * x.natAbs ≤ n.natAbs) : nrT x r n ≤ r.natAbs := by
  have hA := Nat.mul_le_mul hx hr2
  exact nrT_le (by omega) hxn (Nat.lt_of_le_of_lt (Nat.div_le_self _ _) (Nat.lt_of_le_of_lt (Nat.mul_le_mul hA hA) (by decide)))
theorem near_ov (x r n : Int) (hx : -67108864 ≤ x) (hx2 : x ≤ 67108864) (hr : 0 ≤ r) (hr2 : r ≤ 67108864) (hn : 1 ≤ n) (hn2 : n ≤ 18014398509481984) (hxn : x.natAbs * x.natAbs ≤ n.natAbs) :
    ovV x r n 2 = nrI x r n ∧ ovO x r n 2 = true := by
  have hTr := nrN_le (x := x) (r := r) (n := n) (by omega) (by omega) hn hxn
  obtain ⟨d, rfl⟩ := Int.eq_ofNat_of_zero_le (show 0 ≤ n by omega)
  have hG : ovG x r d 2 = true := decide_eq_true ⟨by omega, by omega, by omega, by omega, by decide, by decide⟩
  have hd : 0 < d := by omega
  have hA := Nat.mul_le_mul (show x.natAbs ≤ 67108864 by omega) (show r.natAbs ≤ 67108864 by omega)
  have hXX := Nat.mul_le_mul hA hA
  have hN : ovN x r d 2 = nrN x r d := by
    obtain ⟨X, hX⟩ : ∃ X, x.natAbs * r.natAbs * (x.natAbs * r.natAbs) = X := ⟨_, rfl⟩
    have hP : ovP x r = 4 * X := by rw [← hX]; unfold ovP; generalize x.natAbs * r.natAbs = a; grind
    have hXb : X < 340282366920938463463374607431768211456 / 4 := by omega
    have TS := rtN_spec (X / d) (Nat.lt_of_le_of_lt (Nat.div_le_self _ _) (by omega))
    have QS := rtN_spec (4 * X / d) (Nat.lt_of_le_of_lt (Nat.div_le_self _ _) (by omega))
    have h := ov_ref X d 0 2 (rtN (4 * X / d)) (rtN (X / d)) _ (decide (sgI x r < 0)) hd QS.1 QS.2 TS.1 TS.2 rfl
    have h1 : ovN x r d 2 = ovS 2 (rtN (4 * X / d)) (decide (0 < 4 * X % d) || decide (rtN (4 * X / d) * rtN (4 * X / d) ≠ 4 * X / d)) (decide (sgI x r < 0)) := by
      unfold ovN ovR ovT; rw [hP, Int.toNat_natCast]
    rw [h1, ← h]
    have hT : nrT x r d = rtN (X / d) := by unfold nrT; rw [hX]; rfl
    unfold nrN rnN
    rw [hT, show 2 * (x.natAbs * r.natAbs) * (2 * (x.natAbs * r.natAbs)) = 4 * X by rw [← hX]; generalize x.natAbs * r.natAbs = a; grind]
    rw [nr_test _ _ _ _ (decide (x < 0)) ?_]
    · rfl
    · intro e
      refine decide_eq_decide.mpr ?_
      have hp : 0 < (2 * rtN (X / d) + 1) * (2 * rtN (X / d) + 1) * d := Nat.mul_pos (Nat.mul_pos (by omega) (by omega)) hd
      have hr0 : r ≠ 0 := by
        rintro rfl
        have : X = 0 := by rw [← hX]; simp
        omega
      unfold sgI
      (repeat' split) <;> omega
  have hNb : nrN x r d ≤ nrT x r d + 1 := by unfold nrN; split <;> omega
  unfold ovV ovO nrI
  rw [hG, if_pos rfl, if_pos rfl, hN]
  by_cases h0 : x < 0
  · by_cases hr0 : r = 0
    · subst hr0
      have e : sgI x 0 = 0 := sgI_zero (Or.inr rfl)
      have hz : nrN x 0 d = 0 := by
        unfold nrN nrT mostI
        have hq : (1 : Nat) * 1 * d = d := by omega
        have : rtN 0 = 0 := by have := rtN_spec 0 (by decide); generalize rtN 0 = t at *; rcases t with _ | t; rfl; grind
        simp [this]; omega
      rw [e, hz]; simp [sgV, sgO]
    · have e : sgI x r = -1 := sgI_neg (Or.inl ⟨h0, by omega⟩)
      rw [e, if_pos h0]
      unfold sgV sgO
      rw [if_pos (by decide), if_pos (by omega), if_pos (by decide)]
      exact ⟨rfl, decide_eq_true (by omega)⟩
  · have e : ¬ sgI x r < 0 := by unfold sgI; (repeat' split) <;> omega
    rw [decide_eq_false e, if_neg h0]
    unfold sgV sgO
    rw [if_neg (by decide), if_pos (by omega), if_neg (by decide)]
    exact ⟨rfl, decide_eq_true (by omega)⟩
end Go.Proofs.Ytdjopepipcnmdaa
