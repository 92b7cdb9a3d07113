/- Proved here: the middle of a piece of an arc that is not flat lies strictly between its ends; no program in sight. -/
import Derived.Test.YtiolnpkieooceaaKn1
namespace Go.Proofs.Ytiolnpkieooceaa
open Go.RowKit
set_option linter.unusedVariables false
structure Rd (u v r : Int) : Prop where
  big : 128 ≤ r
  lo : (r - 1) * (r - 1) ≤ u * u + v * v
  hi : u * u + v * v ≤ (r + 1) * (r + 1)
/-- from a direction to the rounded middle -/
theorem between_dir (aU aW bU bW aR bR x y r : Int) (hr : 128 ≤ r) (e1 : r ≤ aR) (e2 : aR ≤ r + 16) (e3 : r ≤ bR) (e4 : bR ≤ r + 16) (hs : aR + bR ≤ 2 * r + 16) (hR2 : aR ≤ 67108864) (hR3 : bR ≤ 67108864)
    (hA : aU * aU + aW * aW ≤ (aR + 1) * (aR + 1)) (hB : bU * bU + bW * bW ≤ (bR + 1) * (bR + 1)) (hx : x.natAbs ≤ 67108864) (hy : y.natAbs ≤ 67108864) (hN : x * x + y * y ≤ 2 * (aU * aU + aW * aW + (bU * bU + bW * bW))) (hN1 : 1 ≤ x * x + y * y)
    (cA : 6 * r ≤ aU * y - aW * x) (cB : 6 * r ≤ -bU * y - -bW * x) :
    0 < aU * nrI y ((aR + bR + 1) / 2) (x * x + y * y) - aW * nrI x ((aR + bR + 1) / 2) (x * x + y * y) ∧ 0 < -bU * nrI y ((aR + bR + 1) / 2) (x * x + y * y) - -bW * nrI x ((aR + bR + 1) / 2) (x * x + y * y) := by
  have q1 := sq_nn aU
  have q2 := sq_nn aW
  have q3 := sq_nn bU
  have q4 := sq_nn bW
  have m1 := sq_le_of (x := aR + 1) (m := r + 17) (by omega) (by omega)
  have m2 := sq_le_of (x := bR + 1) (m := r + 17) (by omega) (by omega)
  have w1 := abs_le_of (x := aU) (m := r + 17) (by omega) (by omega)
  have w2 := abs_le_of (x := aW) (m := r + 17) (by omega) (by omega)
  have w3 := abs_le_of (x := bU) (m := r + 17) (by omega) (by omega)
  have w4 := abs_le_of (x := bW) (m := r + 17) (by omega) (by omega)
  obtain ⟨d, hd⟩ := Int.eq_ofNat_of_zero_le (show 0 ≤ x * x + y * y by omega)
  have hg : d < 340282366920938463463374607431768211456 := by
    have b1 := sq_bdK (x := x) (by omega) (by omega)
    have b2 := sq_bdK (x := y) (by omega) (by omega)
    omega
  obtain ⟨k1, k2⟩ := rtN_spec d hg
  have c1 : ((rtN d : Nat) : Int) * (rtN d : Nat) = ((rtN d * rtN d : Nat) : Int) := by rw [Int.natCast_mul]
  have c2 : (((rtN d : Nat) : Int) + 1) * (((rtN d : Nat) : Int) + 1) = (((rtN d + 1) * (rtN d + 1) : Nat) : Int) := by rw [Int.natCast_mul]; rfl
  have hk : ((rtN d : Nat) : Int) ≤ 2 * r + 34 := by
    refine (abs_le_of (m := 2 * r + 34) (by omega) ?_).2
    have e5 : (2 * r + 34) * (2 * r + 34) = 4 * ((r + 17) * (r + 17)) := by grind
    omega
  exact ⟨side aU aW x y _ (x * x + y * y) 0 0 r (rtN d) hr (by omega) (by omega) (by omega) rfl hN1 hx hy (by omega) (by omega) hk w1 w2 cA,
    side (-bU) (-bW) x y _ (x * x + y * y) 0 0 r (rtN d) hr (by omega) (by omega) (by omega) rfl hN1 hx hy (by omega) (by omega) hk (by omega) (by omega) cB⟩
/-- the plain law, for the direction 1 -/
theorem between_one (aU aW bU bW aR bR r : Int) (ha : Rd aU aW aR) (hb : Rd bU bW bR) (hr : 128 ≤ r) (e1 : r ≤ aR) (e2 : aR ≤ r + 16) (e3 : r ≤ bR) (e4 : bR ≤ r + 16) (hs : aR + bR ≤ 2 * r + 16) (hR2 : aR ≤ 67108864) (hR3 : bR ≤ 67108864)
    (bu : -33554432 ≤ aU ∧ aU ≤ 33554432) (bv : -33554432 ≤ aW ∧ aW ≤ 33554432) (bx : -33554432 ≤ bU ∧ bU ≤ 33554432) (by' : -33554432 ≤ bW ∧ bW ≤ 33554432)
    (hX : 0 < aU * bW - aW * bU) (hS : 32 * r - 64 < (aU - bU) * (aU - bU) + (aW - bW) * (aW - bW)) :
    (aU * bU + aW * bW ≤ 0 → 1 ≤ (bW - aW) * (bW - aW) + (aU - bU) * (aU - bU) ∧ 0 < aU * nrI (aU - bU) ((aR + bR + 1) / 2) ((bW - aW) * (bW - aW) + (aU - bU) * (aU - bU)) - aW * nrI (bW - aW) ((aR + bR + 1) / 2) ((bW - aW) * (bW - aW) + (aU - bU) * (aU - bU)) ∧ 0 < -bU * nrI (aU - bU) ((aR + bR + 1) / 2) ((bW - aW) * (bW - aW) + (aU - bU) * (aU - bU)) - -bW * nrI (bW - aW) ((aR + bR + 1) / 2) ((bW - aW) * (bW - aW) + (aU - bU) * (aU - bU))) ∧
    (0 < aU * bU + aW * bW → 1 ≤ (aU + bU) * (aU + bU) + (aW + bW) * (aW + bW) ∧ 0 < aU * nrI (aW + bW) ((aR + bR + 1) / 2) ((aU + bU) * (aU + bU) + (aW + bW) * (aW + bW)) - aW * nrI (aU + bU) ((aR + bR + 1) / 2) ((aU + bU) * (aU + bU) + (aW + bW) * (aW + bW)) ∧ 0 < -bU * nrI (aW + bW) ((aR + bR + 1) / 2) ((aU + bU) * (aU + bU) + (aW + bW) * (aW + bW)) - -bW * nrI (aU + bU) ((aR + bR + 1) / 2) ((aU + bU) * (aU + bU) + (aW + bW) * (aW + bW))) := by
  obtain ⟨a1, a2, a3⟩ := ha
  obtain ⟨b1, b2, b3⟩ := hb
  have eS : (aU - bU) * (aU - bU) + (aW - bW) * (aW - bW) = (aU * aU + aW * aW) + (bU * bU + bW * bW) - 2 * (aU * bU + aW * bW) := by grind
  have eS2 : (bW - aW) * (bW - aW) + (aU - bU) * (aU - bU) = (aU * aU + aW * aW) + (bU * bU + bW * bW) - 2 * (aU * bU + aW * bW) := by grind
  have eP : (aU + bU) * (aU + bU) + (aW + bW) * (aW + bW) = (aU * aU + aW * aW) + (bU * bU + bW * bW) + 2 * (aU * bU + aW * bW) := by grind
  have p1 := sq_nn (aU + bU)
  have p2 := sq_nn (aW + bW)
  have l1 := sq_le_of (x := r - 1) (m := aR - 1) (by omega) (by omega)
  have l2 := sq_le_of (x := r - 1) (m := bR - 1) (by omega) (by omega)
  have hr2 : 128 * r ≤ r * r := Int.mul_le_mul_of_nonneg_right hr (by omega)
  have e5 : (r - 1) * (r - 1) = r * r - 2 * r + 1 := by grind
  constructor
  · intro hD
    have cA : aU * (aU - bU) - aW * (bW - aW) = aU * aU + aW * aW - (aU * bU + aW * bW) := by grind
    have cB : -bU * (aU - bU) - -bW * (bW - aW) = bU * bU + bW * bW - (aU * bU + aW * bW) := by grind
    refine ⟨by omega, ?_⟩
    exact between_dir aU aW bU bW aR bR (bW - aW) (aU - bU) r hr e1 e2 e3 e4 hs hR2 hR3 a3 b3 (by omega) (by omega) (by omega) (by omega) (by omega) (by omega)
  · intro hD
    have cA : aU * (aW + bW) - aW * (aU + bU) = aU * bW - aW * bU := by grind
    have cB : -bU * (aW + bW) - -bW * (aU + bU) = aU * bW - aW * bU := by grind
    have hXX : (aU * bW - aW * bU) * (aU * bW - aW * bU) = (aU * aU + aW * aW) * (bU * bU + bW * bW) - (aU * bU + aW * bW) * (aU * bU + aW * bW) := by grind
    have d1 : aU * aU + aW * aW - (bU * bU + bW * bW) ≤ 39 * r := by
      have f1 : (aR + 1) * (aR + 1) - (bR - 1) * (bR - 1) = (aR - bR + 2) * (aR + bR) := by grind
      have f2 : (aR - bR + 2) * (aR + bR) ≤ 18 * (aR + bR) := Int.mul_le_mul_of_nonneg_right (by omega) (by omega)
      omega
    have d2 : bU * bU + bW * bW - (aU * aU + aW * aW) ≤ 39 * r := by
      have f1 : (bR + 1) * (bR + 1) - (aR - 1) * (aR - 1) = (bR - aR + 2) * (aR + bR) := by grind
      have f2 : (bR - aR + 2) * (aR + bR) ≤ 18 * (aR + bR) := Int.mul_le_mul_of_nonneg_right (by omega) (by omega)
      omega
    have hc := cross_big (aU * aU + aW * aW) (bU * bU + bW * bW) (aU * bU + aW * bW) (aU * bW - aW * bU) _ r hXX rfl hD hr (by omega) (by omega) d1 d2 (by omega) hX
    refine ⟨by omega, ?_⟩
    exact between_dir aU aW bU bW aR bR (aU + bU) (aW + bW) r hr e1 e2 e3 e4 hs hR2 hR3 a3 b3 (by omega) (by omega) (by omega) (by omega) (by omega) (by omega)
end Go.Proofs.Ytiolnpkieooceaa
