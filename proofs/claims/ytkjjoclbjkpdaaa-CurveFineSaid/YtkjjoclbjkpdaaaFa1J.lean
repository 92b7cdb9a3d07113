/- Proved here: the halves of an acute piece of an arc are much shorter than the piece; no program in sight. -/
import Derived.Test.YtkjjoclbjkpdaaaNf2J
import Derived.Test.YtkjjoclbjkpdaaaKn3J
namespace Go.Proofs.Ytkjjoclbjkpdaaa
open Go.RowKit
set_option linter.unusedVariables false
set_option linter.unusedSimpArgs false
theorem half_key (R k na nb N Sa : Int) (hR : 128 ≤ R) (hk1 : k * k ≤ N) (hk2 : k ≤ 2 * R + 2) (hk3 : 7 * R ≤ 5 * k + 10) (hs : 2 * (R * R) - 6 * R ≤ na + nb) (ha : na - nb ≤ 39 * R) (hb : nb - na ≤ 39 * R) (hS0 : 0 ≤ Sa) (hS : 2 * Sa ≤ 3 * R + 27) :
    k * na + 3 * (k * ((R + 1) * (R + 1))) - 2 * (k * nb) + (k - 3 * R) * N - 3 * (R * (na - nb)) + 3 * (Sa * (k + 1 + 2 * R)) ≤ 3 * (k * (8 * R + 50)) := by
  have s1 : 0 ≤ (3 * R - k) * (N - k * k) := Int.mul_nonneg (by omega) (by omega)
  have e1 : (3 * R - k) * (N - k * k) = -((k - 3 * R) * N) + (k - 3 * R) * (k * k) := by grind
  obtain ⟨y, hy⟩ : ∃ y, 2 * R - k = y := ⟨_, rfl⟩
  have e2 : 2 * (k * na + 3 * (k * ((R + 1) * (R + 1))) - 2 * (k * nb) + (k - 3 * R) * (k * k) - 3 * (R * (na - nb))) = k * (12 * R + 6) - 2 * (k * ((k - R) * y)) - k * (na + nb - 2 * (R * R)) - 3 * (y * (na - nb)) := by rw [← hy]; grind
  have s2 : 0 ≤ k * (na + nb - 2 * (R * R) + 6 * R) := Int.mul_nonneg (by omega) (by omega)
  have e3 : k * (na + nb - 2 * (R * R) + 6 * R) = k * (na + nb - 2 * (R * R)) + 6 * (k * R) := by grind
  have s4 : 2 * Sa * (2 * (k + 1 + 2 * R)) ≤ (3 * R + 27) * (5 * k) := Int.mul_le_mul hS (by omega) (by omega) (by omega)
  have e4 : 2 * Sa * (2 * (k + 1 + 2 * R)) = 4 * (Sa * (k + 1 + 2 * R)) := by grind
  have e5 : (3 * R + 27) * (5 * k) = 15 * (k * R) + 135 * k := by grind
  have e6 : k * (12 * R + 6) = 12 * (k * R) + 6 * k := by grind
  have e7 : k * (8 * R + 50) = 8 * (k * R) + 50 * k := by grind
  have hkR : k * 128 ≤ k * R := Int.mul_le_mul_of_nonneg_left hR (by omega)
  have s3 : -(2 * (k * ((k - R) * y))) - 3 * (y * (na - nb)) ≤ 4 * (k * R) + 8 * k + 234 * R := by
    by_cases h0 : 0 ≤ y
    · have p1 : k * 50 ≤ k * (k - R) := Int.mul_le_mul_of_nonneg_left (by omega) (by omega)
      have p2 : 0 ≤ y * (2 * (k * (k - R)) + 3 * (na - nb)) := Int.mul_nonneg h0 (by omega)
      have e8 : y * (2 * (k * (k - R)) + 3 * (na - nb)) = 2 * (k * ((k - R) * y)) + 3 * (y * (na - nb)) := by grind
      omega
    · have : y = -1 ∨ y = -2 := by omega
      rcases this with h | h
      · have hk : k = 2 * R + 1 := by omega
        subst h hk
        have e8 : (2 * R + 1) * ((2 * R + 1 - R) * -1) = -((2 * R + 1) * R) - (2 * R + 1) := by grind
        omega
      · have hk : k = 2 * R + 2 := by omega
        subst h hk
        have e8 : (2 * R + 2) * ((2 * R + 2 - R) * -2) = -(2 * ((2 * R + 2) * R)) - 4 * (2 * R + 2) := by grind
        omega
  omega
/-- lower bound of a sum of products by absolute values -/
theorem lin_lo (a b e f M : Int) (h1 : -M ≤ e) (h2 : e ≤ M) (h3 : -M ≤ f) (h4 : f ≤ M) : -(((a.natAbs : Int) + b.natAbs) * M) ≤ a * e + b * f := by
  have hM : 0 ≤ M := by omega
  have k : ∀ (c g : Int), -M ≤ g → g ≤ M → -((c.natAbs : Int) * M) ≤ c * g := by
    intro c g g1 g2
    have h : (c * g).natAbs ≤ c.natAbs * M.natAbs := by rw [Int.natAbs_mul]; exact Nat.mul_le_mul_left _ (by omega)
    have e : ((c.natAbs * M.natAbs : Nat) : Int) = (c.natAbs : Int) * M := by rw [Int.natCast_mul, Int.natAbs_of_nonneg hM]
    omega
  have := k a e h1 h2
  have := k b f h3 h4
  rw [Int.add_mul]
  omega
theorem half_acute (aU aW bU bW aR bR : Int) (ha : Rd aU aW aR) (hb : Rd bU bW bR) (hd1 : aR - bR ≤ 16) (hd2 : bR - aR ≤ 16) (hR2 : aR ≤ 33554431) (hR3 : bR ≤ 33554431)
    (bu : -33554432 ≤ aU ∧ aU ≤ 33554432) (bv : -33554432 ≤ aW ∧ aW ≤ 33554432) (bx : -33554432 ≤ bU ∧ bU ≤ 33554432) (by' : -33554432 ≤ bW ∧ bW ≤ 33554432) (hD : 0 < aU * bU + aW * bW) (R p q : Int) (hRe : R = (aR + bR + 1) / 2)
    (hp : p = nrI (aU + bU) R ((aU + bU) * (aU + bU) + (aW + bW) * (aW + bW))) (hq : q = nrI (aW + bW) R ((aU + bU) * (aU + bU) + (aW + bW) * (aW + bW))) (hm : p * p + q * q ≤ (R + 1) * (R + 1)) :
    3 * ((aU - p) * (aU - p) + (aW - q) * (aW - q)) ≤ (aU - bU) * (aU - bU) + (aW - bW) * (aW - bW) + 3 * (8 * R + 50) := by
  obtain ⟨a1, a2, a3⟩ := ha
  obtain ⟨b1, b2, b3⟩ := hb
  have qx := sq_nn (aU + bU)
  have qy := sq_nn (aW + bW)
  have eN : (aU + bU) * (aU + bU) + (aW + bW) * (aW + bW) = (aU * aU + aW * aW) + (bU * bU + bW * bW) + 2 * (aU * bU + aW * bW) := by grind
  have eC : (aU - bU) * (aU - bU) + (aW - bW) * (aW - bW) = (aU * aU + aW * aW) + (bU * bU + bW * bW) - 2 * (aU * bU + aW * bW) := by grind
  have qc1 := sq_nn (aU - bU)
  have qc2 := sq_nn (aW - bW)
  have ead : aU * (aU + bU) + aW * (aW + bW) = (aU * aU + aW * aW) + (aU * bU + aW * bW) := by grind
  have eS : ((aU.natAbs : Int) + aW.natAbs) * ((aU.natAbs : Int) + aW.natAbs) ≤ 2 * (aU * aU + aW * aW) := by
    have h1 := natAbs_sq' aU
    have h2 := natAbs_sq' aW
    have c1 : (aU.natAbs : Int) * aU.natAbs = aU * aU := by omega
    have c2 : (aW.natAbs : Int) * aW.natAbs = aW * aW := by omega
    have h3 := sq_nn ((aU.natAbs : Int) - aW.natAbs)
    generalize (aU.natAbs : Int) = s at *
    generalize (aW.natAbs : Int) = t at *
    have e : (s + t) * (s + t) = 2 * (s * s) + 2 * (t * t) - (s - t) * (s - t) := by grind
    omega
  obtain ⟨N, hN⟩ : ∃ N, (aU + bU) * (aU + bU) + (aW + bW) * (aW + bW) = N := ⟨_, rfl⟩
  rw [hN] at hp hq eN
  obtain ⟨d, hd⟩ := Int.eq_ofNat_of_zero_le (show 0 ≤ N by omega)
  have hg : d < 340282366920938463463374607431768211456 := by
    have b1 := sq_bdK (x := aU + bU) (by omega) (by omega)
    have b2 := sq_bdK (x := aW + bW) (by omega) (by omega)
    omega
  obtain ⟨k1, k2⟩ := rtN_spec d hg
  have c1 : ((rtN d : Nat) : Int) * (rtN d : Nat) = ((rtN d * rtN d : Nat) : Int) := by rw [Int.natCast_mul]
  have c2 : (((rtN d : Nat) : Int) + 1) * (((rtN d : Nat) : Int) + 1) = (((rtN d + 1) * (rtN d + 1) : Nat) : Int) := by rw [Int.natCast_mul]; rfl
  have hk1 : ((rtN d : Nat) : Int) * (rtN d : Nat) ≤ N := by omega
  have hk2 : N < (((rtN d : Nat) : Int) + 1) * (((rtN d : Nat) : Int) + 1) := by omega
  have hN1 : 1 ≤ N := by
    have := sq_nn aU
    have := sq_nn aW
    have := sq_nn bU
    have := sq_nn bW
    omega
  obtain ⟨u1, u2, _, _⟩ := round_err (aU + bU) R N (rtN d) (by omega) (by omega) (by omega) hN1 hk1 hk2 (by omega)
  obtain ⟨v1, v2, _, _⟩ := round_err (aW + bW) R N (rtN d) (by omega) (by omega) (by omega) hN1 hk1 hk2 (by omega)
  rw [← hp] at u1 u2
  rw [← hq] at v1 v2
  have hk0 : 0 ≤ ((rtN d : Nat) : Int) := Int.natCast_nonneg _
  generalize ((rtN d : Nat) : Int) = k at *
  obtain ⟨e, he⟩ : ∃ e, 2 * (k * p) - 2 * (R * (aU + bU)) = e := ⟨_, rfl⟩
  obtain ⟨f, hf⟩ : ∃ f, 2 * (k * q) - 2 * (R * (aW + bW)) = f := ⟨_, rfl⟩
  rw [he] at u1 u2
  rw [hf] at v1 v2
  have key : 2 * (k * (aU * p + aW * q)) = 2 * (R * (aU * (aU + bU) + aW * (aW + bW))) + (aU * e + aW * f) := by rw [← he, ← hf]; grind
  have ll := lin_lo aU aW e f (k + 1 + 2 * R) (by omega) (by omega) (by omega) (by omega)
  have hS0 : 0 ≤ (aU.natAbs : Int) + aW.natAbs := by omega
  generalize (aU.natAbs : Int) + aW.natAbs = Sa at *
  have en : (aU - p) * (aU - p) + (aW - q) * (aW - q) = (aU * aU + aW * aW) + (p * p + q * q) - 2 * (aU * p + aW * q) := by grind
  rw [ead] at key
  -- sizes
  have m1 : (aR + 1) * (aR + 1) ≤ (R + 9) * (R + 9) := sq_le_of (by omega) (by omega)
  have m2 : (bR + 1) * (bR + 1) ≤ (R + 9) * (R + 9) := sq_le_of (by omega) (by omega)
  have e9 : (R + 9) * (R + 9) = R * R + 18 * R + 81 := by grind
  have hRR : 128 * R ≤ R * R := Int.mul_le_mul_of_nonneg_right (by omega) (by omega)
  have hS : 2 * Sa ≤ 3 * R + 27 := by
    refine Classical.byContradiction fun hc => ?_
    have h := Int.mul_le_mul (a := 3 * R + 28) (b := 3 * R + 28) (c := 2 * Sa) (d := 2 * Sa) (by omega) (by omega) (by omega) (by omega)
    have g1 : (3 * R + 28) * (3 * R + 28) = 9 * (R * R) + 168 * R + 784 := by grind
    have g2 : 2 * Sa * (2 * Sa) = 4 * (Sa * Sa) := by grind
    omega
  -- the sum of the squares
  have hs : 2 * (R * R) - 6 * R ≤ aU * aU + aW * aW + (bU * bU + bW * bW) := by
    have g0 := sq_nn (aR - bR)
    have g1 : 2 * ((aR - 1) * (aR - 1) + (bR - 1) * (bR - 1)) = (aR + bR - 2) * (aR + bR - 2) + (aR - bR) * (aR - bR) := by grind
    have g2 := Int.mul_le_mul (a := 2 * R - 3) (b := 2 * R - 3) (c := aR + bR - 2) (d := aR + bR - 2) (by omega) (by omega) (by omega) (by omega)
    have g3 : (2 * R - 3) * (2 * R - 3) = 4 * (R * R) - 12 * R + 9 := by grind
    omega
  have hx : aU * aU + aW * aW + (bU * bU + bW * bW) ≤ 2 * (R * R) + 4 * R + 130 := by
    have g0 : (aR - bR) * (aR - bR) ≤ 256 := sq_le_of (m := 16) (by omega) (by omega)
    have g1 : 2 * ((aR + 1) * (aR + 1) + (bR + 1) * (bR + 1)) = (aR + bR + 2) * (aR + bR + 2) + (aR - bR) * (aR - bR) := by grind
    have g2 := Int.mul_le_mul (a := aR + bR + 2) (b := aR + bR + 2) (c := 2 * R + 2) (d := 2 * R + 2) (by omega) (by omega) (by omega) (by omega)
    have g3 : (2 * R + 2) * (2 * R + 2) = 4 * (R * R) + 8 * R + 4 := by grind
    omega
  have hd1' : aU * aU + aW * aW - (bU * bU + bW * bW) ≤ 39 * R := by
    have f1 : (aR + 1) * (aR + 1) - (bR - 1) * (bR - 1) = (aR - bR + 2) * (aR + bR) := by grind
    have f2 : (aR - bR + 2) * (aR + bR) ≤ 18 * (aR + bR) := Int.mul_le_mul_of_nonneg_right (by omega) (by omega)
    omega
  have hd2' : bU * bU + bW * bW - (aU * aU + aW * aW) ≤ 39 * R := by
    have f1 : (bR + 1) * (bR + 1) - (aR - 1) * (aR - 1) = (bR - aR + 2) * (aR + bR) := by grind
    have f2 : (bR - aR + 2) * (aR + bR) ≤ 18 * (aR + bR) := Int.mul_le_mul_of_nonneg_right (by omega) (by omega)
    omega
  have hk3 : 7 * R ≤ 5 * k + 10 := by
    refine Classical.byContradiction fun hc => ?_
    have h := Int.mul_le_mul (a := 5 * (k + 1)) (b := 5 * (k + 1)) (c := 7 * R - 6) (d := 7 * R - 6) (by omega) (by omega) (by omega) (by omega)
    have g1 : (7 * R - 6) * (7 * R - 6) = 49 * (R * R) - 84 * R + 36 := by grind
    have g2 : 5 * (k + 1) * (5 * (k + 1)) = 25 * ((k + 1) * (k + 1)) := by grind
    omega
  have hk4 : k ≤ 2 * R + 2 := by
    refine Classical.byContradiction fun hc => ?_
    have h := Int.mul_le_mul (a := 2 * R + 3) (b := 2 * R + 3) (c := k) (d := k) (by omega) (by omega) (by omega) (by omega)
    have g1 : (2 * R + 3) * (2 * R + 3) = 4 * (R * R) + 12 * R + 9 := by grind
    omega
  have hkey := half_key R k (aU * aU + aW * aW) (bU * bU + bW * bW) N Sa (by omega) hk1 hk4 hk3 hs hd1' hd2' hS0 hS
  generalize aU * aU + aW * aW = na at *
  generalize bU * bU + bW * bW = nb at *
  generalize aU * bU + aW * bW = D at *
  generalize aU * p + aW * q = am at *
  generalize p * p + q * q = nm at *
  generalize aU * e + aW * f = lf at *
  rw [en, eC]
  have hfin : k * (3 * (na + nm - 2 * am)) ≤ k * (na + nb - 2 * D + 3 * (8 * R + 50)) := by
    have hnm : k * nm ≤ k * ((R + 1) * (R + 1)) := Int.mul_le_mul_of_nonneg_left hm hk0
    have g1 : k * (3 * (na + nm - 2 * am)) = 3 * (k * na) + 3 * (k * nm) - 3 * (2 * (k * am)) := by grind
    have g2 : k * (na + nb - 2 * D + 3 * (8 * R + 50)) = k * (2 * na + 2 * nb - N) + 3 * (k * (8 * R + 50)) := by rw [eN]; grind
    have g3 : 2 * (R * (na + D)) = R * N + R * (na - nb) := by rw [eN]; grind
    have g4 : k * (2 * na + 2 * nb - N) = 2 * (k * na) + 2 * (k * nb) - k * N := by grind
    have g5 : (k - 3 * R) * N = k * N - 3 * (R * N) := by grind
    omega
  exact Int.le_of_mul_le_mul_left hfin (by omega)
end Go.Proofs.Ytkjjoclbjkpdaaa
