/- Proved here: the middle of a piece of an arc that is not flat lies strictly between its ends: the inequality; no program in sight. · the middle of a piece of an arc that is not flat lies strictly between its ends; no program in sight. · CurveMiddleBetween returns true for every argument; no conditions but that integers are ints. -/
import Derived.Test.YtkjjoclbjkpdaaaKm4J
namespace Go.Proofs.Ytkjjoclbjkpdaaa
open Go.RowKit
set_option linter.unusedVariables false
theorem sq_le_of {x m : Int} (h1 : x ≤ m) (h2 : -x ≤ m) : x * x ≤ m * m := by
  have e : (x * x).natAbs ≤ (m * m).natAbs := by rw [Int.natAbs_mul, Int.natAbs_mul]; exact Nat.mul_le_mul (by omega) (by omega)
  have := sq_nn x
  have := sq_nn m
  omega
theorem abs_le_of {x m : Int} (hm : 0 ≤ m) (h : x * x ≤ m * m) : -m ≤ x ∧ x ≤ m := by
  have e := le_of_sq (a := x.natAbs) (b := m.natAbs) (by have := natAbs_sq' x; have := natAbs_sq' m; omega)
  omega
theorem cross_big (A B D X S r : Int) (hX : X * X = A * B - D * D) (hS : S = A + B - 2 * D) (hD : 0 < D) (hr : 128 ≤ r) (hA : (r - 1) * (r - 1) ≤ A) (hB : (r - 1) * (r - 1) ≤ B) (hd1 : A - B ≤ 39 * r) (hd2 : B - A ≤ 39 * r) (hs : 31 * r ≤ S) (hx : 0 < X) : 6 * r ≤ X := by
  refine Classical.byContradiction fun hc => ?_
  have x1 := sq_le_of (x := X) (m := 6 * r) (by omega) (by omega)
  have x2 := sq_le_of (x := A - B) (m := 39 * r) (by omega) (by omega)
  have e1 : 6 * r * (6 * r) = 36 * (r * r) := by grind
  have e2 : 39 * r * (39 * r) = 1521 * (r * r) := by grind
  have e3 : (r - 1) * (r - 1) = r * r - 2 * r + 1 := by grind
  have e4 : 4 * (X * X) = 2 * ((A + B) * S) - S * S - (A - B) * (A - B) := by grind
  have hr2 : 128 * r ≤ r * r := Int.mul_le_mul_of_nonneg_right hr (by omega)
  have hSP : S * S ≤ (A + B) * S := Int.mul_le_mul_of_nonneg_right (by omega) (by omega)
  have hP : r * r ≤ A + B := by omega
  have h3 : r * r * (31 * r) ≤ (A + B) * S := Int.mul_le_mul hP hs (by omega) (by omega)
  have h4 : 128 * (r * r) ≤ r * (r * r) := Int.mul_le_mul_of_nonneg_right hr (by omega)
  have e5 : r * r * (31 * r) = 31 * (r * (r * r)) := by grind
  omega
/-- what rounding does: k is the root of N, rounded down -/
theorem round_err (x R N : Int) (k : Nat) (hx : x.natAbs ≤ 67108864) (hR : 0 ≤ R) (hR2 : R ≤ 67108864) (hN : 1 ≤ N) (hk1 : (k : Int) * k ≤ N) (hk2 : N < ((k : Int) + 1) * (k + 1)) (hxn : x * x ≤ N) :
    -((k : Int) + 1 + 2 * R) ≤ 2 * ((k : Int) * nrI x R N) - 2 * (R * x) ∧ 2 * ((k : Int) * nrI x R N) - 2 * (R * x) ≤ (k : Int) + 1 + 2 * R ∧ -R ≤ nrI x R N ∧ nrI x R N ≤ R := by
  obtain ⟨s1, s2⟩ := nrN_spec x R N hx (by omega) hN
  obtain ⟨r, rfl⟩ := Int.eq_ofNat_of_zero_le hR
  obtain ⟨d, rfl⟩ := Int.eq_ofNat_of_zero_le (show 0 ≤ N by omega)
  have hxx := natAbs_sq' x
  have hX : x.natAbs * x.natAbs ≤ d := by omega
  have hxs : x = (x.natAbs : Int) ∨ x = -(x.natAbs : Int) := Int.natAbs_eq x
  have hk1' : k * k ≤ d := by have : (k : Int) * k = ((k * k : Nat) : Int) := by rw [Int.natCast_mul]
                              omega
  have hk2' : d < (k + 1) * (k + 1) := by have : ((k : Int) + 1) * (k + 1) = (((k + 1) * (k + 1) : Nat) : Int) := by rw [Int.natCast_mul]; rfl
                                          omega
  rw [Int.natAbs_natCast, Int.natAbs_natCast] at s1 s2
  have hpv : nrI x r d = if x < 0 then -(nrN x r d : Int) else nrN x r d := rfl
  generalize nrN x r d = P at *
  obtain ⟨X, hXe⟩ : ∃ X, x.natAbs = X := ⟨_, rfl⟩
  rw [hXe] at s1 s2 hX hxs
  have a1 : (2 * P - 1) * k ≤ 2 * (X * r) := by
    refine le_of_sq ?_
    have i1 : (2 * P - 1) * k * ((2 * P - 1) * k) = (2 * P - 1) * (2 * P - 1) * (k * k) := by generalize 2 * P - 1 = Q; grind
    have i2 := Nat.mul_le_mul_left ((2 * P - 1) * (2 * P - 1)) hk1'
    have i3 : 2 * (X * r) * (2 * (X * r)) = 4 * (X * r * (X * r)) := by grind
    omega
  have a2 : 2 * (X * r) ≤ (2 * P + 1) * (k + 1) := by
    refine le_of_sq ?_
    have i1 : (2 * P + 1) * (k + 1) * ((2 * P + 1) * (k + 1)) = (2 * P + 1) * (2 * P + 1) * ((k + 1) * (k + 1)) := by grind
    have i2 := Nat.mul_le_mul_left ((2 * P + 1) * (2 * P + 1)) (Nat.le_of_lt hk2')
    have i3 : 2 * (X * r) * (2 * (X * r)) = 4 * (X * r * (X * r)) := by grind
    omega
  have a3 : P ≤ r := by
    have e1 : 4 * (X * r * (X * r)) = 4 * (r * r) * (X * X) := by grind
    have e2 := Nat.mul_le_mul_left (4 * (r * r)) hX
    have e3 : (2 * P - 1) * (2 * P - 1) ≤ 4 * (r * r) := Nat.le_of_mul_le_mul_right (by omega) (show 0 < d by omega)
    have e4 : 2 * r * (2 * r) = 4 * (r * r) := by grind
    have := le_of_sq (a := 2 * P - 1) (b := 2 * r) (by omega)
    omega
  have b1 : 2 * (k * P) ≤ 2 * (X * r) + k := by
    rcases P with _ | P
    · simp
    · have : (2 * (P + 1) - 1) * k = 2 * (k * P) + k := by rw [show 2 * (P + 1) - 1 = 2 * P + 1 by omega]; grind
      have : k * (P + 1) = k * P + k := by grind
      omega
  have b2 : 2 * (X * r) ≤ 2 * (k * P) + 2 * P + k + 1 := by
    have : (2 * P + 1) * (k + 1) = 2 * (k * P) + 2 * P + k + 1 := by grind
    omega
  have c1 : ((k * P : Nat) : Int) = (k : Int) * P := Int.natCast_mul k P
  have c2 : ((X * r : Nat) : Int) = (r : Int) * X := by rw [Int.natCast_mul, Int.mul_comm]
  rw [hpv]
  rcases hxs with h | h
  · rw [if_neg (by omega), h]
    omega
  · by_cases h0 : x < 0
    · rw [if_pos h0, h]
      have n1 : (k : Int) * -(P : Int) = -((k : Int) * P) := by grind
      have n2 : (r : Int) * -(X : Int) = -((r : Int) * X) := by grind
      omega
    · have hX0 : X = 0 := by omega
      subst hX0
      rw [if_neg h0, h]
      simp at b2 c2 ⊢
      omega
/-- the rounded direction keeps its side of a vector -/
theorem side (a0 a1 x y R N G C r : Int) (k : Nat) (hr : 128 ≤ r) (hrR : r ≤ R) (hRr : R ≤ r + 8) (hR2 : R ≤ 67108864) (hN : N = x * x + y * y) (hN1 : 1 ≤ N) (hx : x.natAbs ≤ 67108864) (hy : y.natAbs ≤ 67108864)
    (hk1 : (k : Int) * k ≤ N) (hk2 : N < ((k : Int) + 1) * (k + 1)) (hk : (k : Int) ≤ 2 * r + 34) (h0 : -(r + 17) ≤ a0 ∧ a0 ≤ r + 17) (h1 : -(r + 17) ≤ a1 ∧ a1 ≤ r + 17) (hC : 6 * r ≤ a0 * y - a1 * x) :
    0 < a0 * nrI y R N - a1 * nrI x R N := by
  have qx := sq_nn x
  have qy := sq_nn y
  obtain ⟨u1, u2, _, _⟩ := round_err x R N k hx (by omega) hR2 hN1 hk1 hk2 (by omega)
  obtain ⟨v1, v2, _, _⟩ := round_err y R N k hy (by omega) hR2 hN1 hk1 hk2 (by omega)
  generalize nrI x R N = p at *
  generalize nrI y R N = q at *
  obtain ⟨e, he⟩ : ∃ e, 2 * ((k : Int) * p) - 2 * (R * x) = e := ⟨_, rfl⟩
  obtain ⟨f, hf⟩ : ∃ f, 2 * ((k : Int) * q) - 2 * (R * y) = f := ⟨_, rfl⟩
  rw [he] at u1 u2
  rw [hf] at v1 v2
  have key : 2 * ((k : Int) * (a0 * q - a1 * p)) = 2 * (R * (a0 * y - a1 * x)) + (a0 * f - a1 * e) := by rw [← he, ← hf]; grind
  have bnd : ∀ {m z : Int}, -(r + 17) ≤ m ∧ m ≤ r + 17 → -(4 * r + 51) ≤ z → z ≤ 4 * r + 51 → -((r + 17) * (4 * r + 51)) ≤ m * z ∧ m * z ≤ (r + 17) * (4 * r + 51) := by
    intro m z hm z1 z2
    have : (m * z).natAbs ≤ ((r + 17) * (4 * r + 51)).natAbs := by rw [Int.natAbs_mul, Int.natAbs_mul]; exact Nat.mul_le_mul (by omega) (by omega)
    have : 0 ≤ (r + 17) * (4 * r + 51) := Int.mul_nonneg (by omega) (by omega)
    omega
  have b1 := bnd h0 (z := f) (by omega) (by omega)
  have b2 := bnd h1 (z := e) (by omega) (by omega)
  have e1 : (r + 17) * (4 * r + 51) = 4 * (r * r) + 119 * r + 867 := by grind
  have hr2 : 128 * r ≤ r * r := Int.mul_le_mul_of_nonneg_right hr (by omega)
  have h3 : r * (6 * r) ≤ R * (a0 * y - a1 * x) := Int.mul_le_mul hrR hC (by omega) (by omega)
  have e2 : r * (6 * r) = 6 * (r * r) := by grind
  have hpos : 0 < (k : Int) * (a0 * q - a1 * p) := by omega
  refine Classical.byContradiction fun hc => ?_
  have : (k : Int) * (a0 * q - a1 * p) ≤ 0 := Int.mul_nonpos_of_nonneg_of_nonpos (by omega) (by omega)
  omega
end Go.Proofs.Ytkjjoclbjkpdaaa
namespace Go.Proofs.Ytkjjoclbjkpdaaa
open Go.RowKit
set_option linter.unusedVariables false
structure Rd (u v r : Int) : Prop where
  big : 128 ≤ r
  lo : (r - 1) * (r - 1) ≤ u * u + v * v
  hi : u * u + v * v ≤ (r + 1) * (r + 1)
/-- from a direction to the rounded middle -/
theorem between_dir (aU aW bU bW aR bR x y r : Int) (hr : 128 ≤ r) (e1 : r ≤ aR) (e2 : aR ≤ r + 16) (e3 : r ≤ bR) (e4 : bR ≤ r + 16) (hs : aR + bR ≤ 2 * r + 16) (hR2 : aR ≤ 67108864) (hR3 : bR ≤ 67108864)
    (hA : aU * aU + aW * aW ≤ (aR + 1) * (aR + 1)) (hB : bU * bU + bW * bW ≤ (bR + 1) * (bR + 1)) (hx : x.natAbs ≤ 67108864) (hy : y.natAbs ≤ 67108864) (hN : x * x + y * y ≤ 2 * (aU * aU + aW * aW + (bU * bU + bW * bW))) (hN1 : 1 ≤ x * x + y * y)
    (cA : 6 * r ≤ aU * y - aW * x) (cB : 6 * r ≤ -bU * y - -bW * x) :
    0 < aU * nrI y ((aR + bR + 1) / 2) (x * x + y * y) - aW * nrI x ((aR + bR + 1) / 2) (x * x + y * y) ∧ 0 < -bU * nrI y ((aR + bR + 1) / 2) (x * x + y * y) - -bW * nrI x ((aR + bR + 1) / 2) (x * x + y * y) := by
  have q1 := sq_nn aU
  have q2 := sq_nn aW
  have q3 := sq_nn bU
  have q4 := sq_nn bW
  have m1 := sq_le_of (x := aR + 1) (m := r + 17) (by omega) (by omega)
  have m2 := sq_le_of (x := bR + 1) (m := r + 17) (by omega) (by omega)
  have w1 := abs_le_of (x := aU) (m := r + 17) (by omega) (by omega)
  have w2 := abs_le_of (x := aW) (m := r + 17) (by omega) (by omega)
  have w3 := abs_le_of (x := bU) (m := r + 17) (by omega) (by omega)
  have w4 := abs_le_of (x := bW) (m := r + 17) (by omega) (by omega)
  obtain ⟨d, hd⟩ := Int.eq_ofNat_of_zero_le (show 0 ≤ x * x + y * y by omega)
  have hg : d < 340282366920938463463374607431768211456 := by
    have b1 := sq_bdK (x := x) (by omega) (by omega)
    have b2 := sq_bdK (x := y) (by omega) (by omega)
    omega
  obtain ⟨k1, k2⟩ := rtN_spec d hg
  have c1 : ((rtN d : Nat) : Int) * (rtN d : Nat) = ((rtN d * rtN d : Nat) : Int) := by rw [Int.natCast_mul]
  have c2 : (((rtN d : Nat) : Int) + 1) * (((rtN d : Nat) : Int) + 1) = (((rtN d + 1) * (rtN d + 1) : Nat) : Int) := by rw [Int.natCast_mul]; rfl
  have hk : ((rtN d : Nat) : Int) ≤ 2 * r + 34 := by
    refine (abs_le_of (m := 2 * r + 34) (by omega) ?_).2
    have e5 : (2 * r + 34) * (2 * r + 34) = 4 * ((r + 17) * (r + 17)) := by grind
    omega
  exact ⟨side aU aW x y _ (x * x + y * y) 0 0 r (rtN d) hr (by omega) (by omega) (by omega) rfl hN1 hx hy (by omega) (by omega) hk w1 w2 cA,
    side (-bU) (-bW) x y _ (x * x + y * y) 0 0 r (rtN d) hr (by omega) (by omega) (by omega) rfl hN1 hx hy (by omega) (by omega) hk (by omega) (by omega) cB⟩
/-- the plain law, for the direction 1 -/
theorem between_one (aU aW bU bW aR bR r : Int) (ha : Rd aU aW aR) (hb : Rd bU bW bR) (hr : 128 ≤ r) (e1 : r ≤ aR) (e2 : aR ≤ r + 16) (e3 : r ≤ bR) (e4 : bR ≤ r + 16) (hs : aR + bR ≤ 2 * r + 16) (hR2 : aR ≤ 67108864) (hR3 : bR ≤ 67108864)
    (bu : -33554432 ≤ aU ∧ aU ≤ 33554432) (bv : -33554432 ≤ aW ∧ aW ≤ 33554432) (bx : -33554432 ≤ bU ∧ bU ≤ 33554432) (by' : -33554432 ≤ bW ∧ bW ≤ 33554432)
    (hX : 0 < aU * bW - aW * bU) (hS : 32 * r - 64 < (aU - bU) * (aU - bU) + (aW - bW) * (aW - bW)) :
    (aU * bU + aW * bW ≤ 0 → 1 ≤ (bW - aW) * (bW - aW) + (aU - bU) * (aU - bU) ∧ 0 < aU * nrI (aU - bU) ((aR + bR + 1) / 2) ((bW - aW) * (bW - aW) + (aU - bU) * (aU - bU)) - aW * nrI (bW - aW) ((aR + bR + 1) / 2) ((bW - aW) * (bW - aW) + (aU - bU) * (aU - bU)) ∧ 0 < -bU * nrI (aU - bU) ((aR + bR + 1) / 2) ((bW - aW) * (bW - aW) + (aU - bU) * (aU - bU)) - -bW * nrI (bW - aW) ((aR + bR + 1) / 2) ((bW - aW) * (bW - aW) + (aU - bU) * (aU - bU))) ∧
    (0 < aU * bU + aW * bW → 1 ≤ (aU + bU) * (aU + bU) + (aW + bW) * (aW + bW) ∧ 0 < aU * nrI (aW + bW) ((aR + bR + 1) / 2) ((aU + bU) * (aU + bU) + (aW + bW) * (aW + bW)) - aW * nrI (aU + bU) ((aR + bR + 1) / 2) ((aU + bU) * (aU + bU) + (aW + bW) * (aW + bW)) ∧ 0 < -bU * nrI (aW + bW) ((aR + bR + 1) / 2) ((aU + bU) * (aU + bU) + (aW + bW) * (aW + bW)) - -bW * nrI (aU + bU) ((aR + bR + 1) / 2) ((aU + bU) * (aU + bU) + (aW + bW) * (aW + bW))) := by
  obtain ⟨a1, a2, a3⟩ := ha
  obtain ⟨b1, b2, b3⟩ := hb
  have eS : (aU - bU) * (aU - bU) + (aW - bW) * (aW - bW) = (aU * aU + aW * aW) + (bU * bU + bW * bW) - 2 * (aU * bU + aW * bW) := by grind
  have eS2 : (bW - aW) * (bW - aW) + (aU - bU) * (aU - bU) = (aU * aU + aW * aW) + (bU * bU + bW * bW) - 2 * (aU * bU + aW * bW) := by grind
  have eP : (aU + bU) * (aU + bU) + (aW + bW) * (aW + bW) = (aU * aU + aW * aW) + (bU * bU + bW * bW) + 2 * (aU * bU + aW * bW) := by grind
  have p1 := sq_nn (aU + bU)
  have p2 := sq_nn (aW + bW)
  have l1 := sq_le_of (x := r - 1) (m := aR - 1) (by omega) (by omega)
  have l2 := sq_le_of (x := r - 1) (m := bR - 1) (by omega) (by omega)
  have hr2 : 128 * r ≤ r * r := Int.mul_le_mul_of_nonneg_right hr (by omega)
  have e5 : (r - 1) * (r - 1) = r * r - 2 * r + 1 := by grind
  constructor
  · intro hD
    have cA : aU * (aU - bU) - aW * (bW - aW) = aU * aU + aW * aW - (aU * bU + aW * bW) := by grind
    have cB : -bU * (aU - bU) - -bW * (bW - aW) = bU * bU + bW * bW - (aU * bU + aW * bW) := by grind
    refine ⟨by omega, ?_⟩
    exact between_dir aU aW bU bW aR bR (bW - aW) (aU - bU) r hr e1 e2 e3 e4 hs hR2 hR3 a3 b3 (by omega) (by omega) (by omega) (by omega) (by omega) (by omega)
  · intro hD
    have cA : aU * (aW + bW) - aW * (aU + bU) = aU * bW - aW * bU := by grind
    have cB : -bU * (aW + bW) - -bW * (aU + bU) = aU * bW - aW * bU := by grind
    have hXX : (aU * bW - aW * bU) * (aU * bW - aW * bU) = (aU * aU + aW * aW) * (bU * bU + bW * bW) - (aU * bU + aW * bW) * (aU * bU + aW * bW) := by grind
    have d1 : aU * aU + aW * aW - (bU * bU + bW * bW) ≤ 39 * r := by
      have f1 : (aR + 1) * (aR + 1) - (bR - 1) * (bR - 1) = (aR - bR + 2) * (aR + bR) := by grind
      have f2 : (aR - bR + 2) * (aR + bR) ≤ 18 * (aR + bR) := Int.mul_le_mul_of_nonneg_right (by omega) (by omega)
      omega
    have d2 : bU * bU + bW * bW - (aU * aU + aW * aW) ≤ 39 * r := by
      have f1 : (bR + 1) * (bR + 1) - (aR - 1) * (aR - 1) = (bR - aR + 2) * (aR + bR) := by grind
      have f2 : (bR - aR + 2) * (aR + bR) ≤ 18 * (aR + bR) := Int.mul_le_mul_of_nonneg_right (by omega) (by omega)
      omega
    have hc := cross_big (aU * aU + aW * aW) (bU * bU + bW * bW) (aU * bU + aW * bW) (aU * bW - aW * bU) _ r hXX rfl hD hr (by omega) (by omega) d1 d2 (by omega) hX
    refine ⟨by omega, ?_⟩
    exact between_dir aU aW bU bW aR bR (aU + bU) (aW + bW) r hr e1 e2 e3 e4 hs hR2 hR3 a3 b3 (by omega) (by omega) (by omega) (by omega) (by omega) (by omega)
end Go.Proofs.Ytkjjoclbjkpdaaa
namespace Go.Proofs.Ytkjjoclbjkpdaaa
open Go.RowKit
set_option linter.unusedVariables false
set_option linter.unusedSimpArgs false
theorem nrI_bd2 {x r n : Int} (hx : -67108864 ≤ x) (hx2 : x ≤ 67108864) (hr : 0 ≤ r) (hr2 : r ≤ 67108864) (hn : 1 ≤ n) (hxn : x * x ≤ n) : -r ≤ nrI x r n ∧ nrI x r n ≤ r := by
  have h := (nrN_spec x r n (by omega) (by omega) hn).1
  have hX : x.natAbs * x.natAbs ≤ n.natAbs := by have := natAbs_sq' x; omega
  have h2 : nrN x r n ≤ r.natAbs := by
    generalize nrN x r n = N at *
    generalize x.natAbs = X at *
    generalize r.natAbs = R at *
    have hd : 0 < n.natAbs := by omega
    generalize n.natAbs = d at *
    have e1 : 4 * (X * R * (X * R)) = 4 * (R * R) * (X * X) := by grind
    have e2 := Nat.mul_le_mul_left (4 * (R * R)) hX
    have e3 : (2 * N - 1) * (2 * N - 1) ≤ 4 * (R * R) := Nat.le_of_mul_le_mul_right (by omega) hd
    have e4 : 2 * R * (2 * R) = 4 * (R * R) := by grind
    have := le_of_sq (a := 2 * N - 1) (b := 2 * R) (by omega)
    omega
  unfold nrI; split <;> omega
theorem between_p (aU aW aR aH bU bW bR bH m0 m1 m2 m3 : Int) (ok : Bool) (sa : Sp aU aW aR aH) (sb : Sp bU bW bR bH) (ra : Rd aU aW aR) (rb : Rd bU bW bR) (h1 : aR - bR ≤ 16) (h2 : bR - aR ≤ 16) (hX : 0 < aU * bW - aW * bU) (hS : 32 * min aR bR - 64 < (aU - bU) * (aU - bU) + (aW - bW) * (aW - bW)) (hM : Mid aU aW aR aH bU bW bR bH 1 false m0 m1 m2 m3 ok) :
    ok = true ∧ (0 < aU * m1 - aW * m0) ∧ (0 < m0 * bW - m1 * bU) ∧ (-67108864 ≤ m0 ∧ m0 ≤ 67108864) ∧ -67108864 ≤ m1 ∧ m1 ≤ 67108864 := by
  obtain ⟨a1, a2, a3, a4, a5, a6, a7, a8⟩ := sa
  obtain ⟨b1, b2, b3, b4, b5, b6, b7, b8⟩ := sb
  have g1 := ra.big
  have g2 := rb.big
  have hX2 : bU * aW - bW * aU = -(aU * bW - aW * bU) := by grind
  have hS2 : (bU - aU) * (bU - aU) + (bW - aW) * (bW - aW) = (aU - bU) * (aU - bU) + (aW - bW) * (aW - bW) := by grind
  obtain ⟨k1, k2⟩ := between_one aU aW bU bW aR bR (min aR bR) ra rb (by omega) (by omega) (by omega) (by omega) (by omega) (by omega) (by omega) (by omega) ⟨by omega, by omega⟩ ⟨by omega, by omega⟩ ⟨by omega, by omega⟩ ⟨by omega, by omega⟩ (by omega) (by omega)
  rw [show (aR + bR + 1) / 2 = (aR + bR + 1) / 2 by omega] at k1 k2
  have hm : ∀ (x y : Int), mdU aU aW bU bW 1 false = x → mdW aU aW bU bW 1 false = y → -67108864 ≤ x → x ≤ 67108864 → -67108864 ≤ y → y ≤ 67108864 → 1 ≤ x * x + y * y → 0 < aU * nrI y ((aR + bR + 1) / 2) (x * x + y * y) - aW * nrI x ((aR + bR + 1) / 2) (x * x + y * y) → 0 < -bU * nrI y ((aR + bR + 1) / 2) (x * x + y * y) - -bW * nrI x ((aR + bR + 1) / 2) (x * x + y * y) → ok = true ∧ (0 < aU * m1 - aW * m0) ∧ (0 < m0 * bW - m1 * bU) ∧ (-67108864 ≤ m0 ∧ m0 ≤ 67108864) ∧ -67108864 ≤ m1 ∧ m1 ≤ 67108864 := by
    intro x y ex ey x1 x2 y1 y2 hN c1 c2
    have hok : ok = true := hM.is.2 ⟨by omega, by
      rw [ex, ey]
      rintro ⟨rfl, rfl⟩
      simp at hN⟩
    obtain ⟨_, _, e0, e1⟩ := hM.yes hok
    rw [ex, ey] at e0 e1
    rw [← e0, ← e1] at c1 c2
    have t0 := nrI_bd2 (x := x) (r := (aR + bR + 1) / 2) (n := x * x + y * y) x1 x2 (by omega) (by omega) hN (by have := sq_nn y; omega)
    have t1 := nrI_bd2 (x := y) (r := (aR + bR + 1) / 2) (n := x * x + y * y) y1 y2 (by omega) (by omega) hN (by have := sq_nn x; omega)
    rw [← e0] at t0
    rw [← e1] at t1
    have n1 : -bU * m1 - -bW * m0 = m0 * bW - m1 * bU := by grind
    have n3 : -bU * m1 - -bW * m0 = -(bU * m1 - bW * m0) := by grind
    have n2 : aU * m1 - aW * m0 = -(m0 * aW - m1 * aU) := by grind
    exact ⟨hok, by omega, by omega, by omega, by omega⟩
  by_cases hD : aU * bU + aW * bW ≤ 0
  · obtain ⟨c0, c1, c2⟩ := k1 (by exact hD)
    exact hm (bW - aW) (aU - bU) (by unfold mdU; simp only [Bool.false_eq_true, if_false]; rw [if_pos hD]; omega) (by unfold mdW; simp only [Bool.false_eq_true, if_false]; rw [if_pos hD]; omega) (by omega) (by omega) (by omega) (by omega) c0 c1 c2
  · obtain ⟨c0, c1, c2⟩ := k2 (by omega)
    exact hm (aU + bU) (aW + bW) (by unfold mdU; simp only [Bool.false_eq_true, if_false]; rw [if_neg hD, if_neg (by omega)]) (by unfold mdW; simp only [Bool.false_eq_true, if_false]; rw [if_neg hD, if_neg (by omega)]) (by omega) (by omega) (by omega) (by omega) c0 c1 c2
theorem between_m (aU aW aR aH bU bW bR bH m0 m1 m2 m3 : Int) (ok : Bool) (sa : Sp aU aW aR aH) (sb : Sp bU bW bR bH) (ra : Rd aU aW aR) (rb : Rd bU bW bR) (h1 : aR - bR ≤ 16) (h2 : bR - aR ≤ 16) (hX : aU * bW - aW * bU < 0) (hS : 32 * min aR bR - 64 < (aU - bU) * (aU - bU) + (aW - bW) * (aW - bW)) (hM : Mid aU aW aR aH bU bW bR bH (-1) false m0 m1 m2 m3 ok) :
    ok = true ∧ (aU * m1 - aW * m0 < 0) ∧ (m0 * bW - m1 * bU < 0) ∧ (-67108864 ≤ m0 ∧ m0 ≤ 67108864) ∧ -67108864 ≤ m1 ∧ m1 ≤ 67108864 := by
  obtain ⟨a1, a2, a3, a4, a5, a6, a7, a8⟩ := sa
  obtain ⟨b1, b2, b3, b4, b5, b6, b7, b8⟩ := sb
  have g1 := ra.big
  have g2 := rb.big
  have hX2 : bU * aW - bW * aU = -(aU * bW - aW * bU) := by grind
  have hS2 : (bU - aU) * (bU - aU) + (bW - aW) * (bW - aW) = (aU - bU) * (aU - bU) + (aW - bW) * (aW - bW) := by grind
  obtain ⟨k1, k2⟩ := between_one bU bW aU aW bR aR (min aR bR) rb ra (by omega) (by omega) (by omega) (by omega) (by omega) (by omega) (by omega) (by omega) ⟨by omega, by omega⟩ ⟨by omega, by omega⟩ ⟨by omega, by omega⟩ ⟨by omega, by omega⟩ (by omega) (by omega)
  rw [show (bR + aR + 1) / 2 = (aR + bR + 1) / 2 by omega] at k1 k2
  have hm : ∀ (x y : Int), mdU aU aW bU bW (-1) false = x → mdW aU aW bU bW (-1) false = y → -67108864 ≤ x → x ≤ 67108864 → -67108864 ≤ y → y ≤ 67108864 → 1 ≤ x * x + y * y → 0 < bU * nrI y ((aR + bR + 1) / 2) (x * x + y * y) - bW * nrI x ((aR + bR + 1) / 2) (x * x + y * y) → 0 < -aU * nrI y ((aR + bR + 1) / 2) (x * x + y * y) - -aW * nrI x ((aR + bR + 1) / 2) (x * x + y * y) → ok = true ∧ (aU * m1 - aW * m0 < 0) ∧ (m0 * bW - m1 * bU < 0) ∧ (-67108864 ≤ m0 ∧ m0 ≤ 67108864) ∧ -67108864 ≤ m1 ∧ m1 ≤ 67108864 := by
    intro x y ex ey x1 x2 y1 y2 hN c1 c2
    have hok : ok = true := hM.is.2 ⟨by omega, by
      rw [ex, ey]
      rintro ⟨rfl, rfl⟩
      simp at hN⟩
    obtain ⟨_, _, e0, e1⟩ := hM.yes hok
    rw [ex, ey] at e0 e1
    rw [← e0, ← e1] at c1 c2
    have t0 := nrI_bd2 (x := x) (r := (aR + bR + 1) / 2) (n := x * x + y * y) x1 x2 (by omega) (by omega) hN (by have := sq_nn y; omega)
    have t1 := nrI_bd2 (x := y) (r := (aR + bR + 1) / 2) (n := x * x + y * y) y1 y2 (by omega) (by omega) hN (by have := sq_nn x; omega)
    rw [← e0] at t0
    rw [← e1] at t1
    have n1 : -aU * m1 - -aW * m0 = m0 * aW - m1 * aU := by grind
    have n3 : -aU * m1 - -aW * m0 = -(aU * m1 - aW * m0) := by grind
    have n2 : bU * m1 - bW * m0 = -(m0 * bW - m1 * bU) := by grind
    exact ⟨hok, by omega, by omega, by omega, by omega⟩
  by_cases hD : aU * bU + aW * bW ≤ 0
  · obtain ⟨c0, c1, c2⟩ := k1 (by have e9 : bU * aU + bW * aW = aU * bU + aW * bW := (by grind); omega)
    exact hm (aW - bW) (bU - aU) (by unfold mdU; simp only [Bool.false_eq_true, if_false]; rw [if_pos hD]; omega) (by unfold mdW; simp only [Bool.false_eq_true, if_false]; rw [if_pos hD]; omega) (by omega) (by omega) (by omega) (by omega) c0 c1 c2
  · obtain ⟨c0, c1, c2⟩ := k2 (by have e9 : bU * aU + bW * aW = aU * bU + aW * bW := (by grind); omega)
    exact hm (bU + aU) (bW + aW) (by unfold mdU; simp only [Bool.false_eq_true, if_false]; rw [if_neg hD, if_neg (by omega)]; omega) (by unfold mdW; simp only [Bool.false_eq_true, if_false]; rw [if_neg hD, if_neg (by omega)]; omega) (by omega) (by omega) (by omega) (by omega) c0 c1 c2
end Go.Proofs.Ytkjjoclbjkpdaaa
