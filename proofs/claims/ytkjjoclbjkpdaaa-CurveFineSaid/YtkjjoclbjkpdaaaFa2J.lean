/- Proved here: what a halving does to a piece of an arc, whatever its angle; no program in sight. -/
import Derived.Test.YtkjjoclbjkpdaaaFa1J
namespace Go.Proofs.Ytkjjoclbjkpdaaa
open Go.RowKit
set_option linter.unusedVariables false
set_option linter.unusedSimpArgs false
/-- the rounded direction keeps its side of a vector: how far, too -/
theorem side2 (a0 a1 x y R N r : Int) (k : Nat) (hr : 128 ≤ r) (hrR : r ≤ R) (hRr : R ≤ r + 64) (hR2 : R ≤ 67108864) (hN : N = x * x + y * y) (hN1 : 1 ≤ N) (hx : x.natAbs ≤ 67108864) (hy : y.natAbs ≤ 67108864)
    (hk1 : (k : Int) * k ≤ N) (hk2 : N < ((k : Int) + 1) * (k + 1)) (hk : (k : Int) ≤ 2 * r + 130) (h0 : -(r + 65) ≤ a0 ∧ a0 ≤ r + 65) (h1 : -(r + 65) ≤ a1 ∧ a1 ≤ r + 65) :
    (11 * r ≤ a0 * y - a1 * x → 0 < a0 * nrI y R N - a1 * nrI x R N) ∧ ((r - 1) * (r - 1) ≤ a0 * y - a1 * x → 11 * r ≤ a0 * nrI y R N - a1 * nrI x R N) := by
  have qx := sq_nn x
  have qy := sq_nn y
  obtain ⟨u1, u2, _, _⟩ := round_err x R N k hx (by omega) hR2 hN1 hk1 hk2 (by omega)
  obtain ⟨v1, v2, _, _⟩ := round_err y R N k hy (by omega) hR2 hN1 hk1 hk2 (by omega)
  generalize nrI x R N = p at *
  generalize nrI y R N = q at *
  obtain ⟨e, he⟩ : ∃ e, 2 * ((k : Int) * p) - 2 * (R * x) = e := ⟨_, rfl⟩
  obtain ⟨f, hf⟩ : ∃ f, 2 * ((k : Int) * q) - 2 * (R * y) = f := ⟨_, rfl⟩
  rw [he] at u1 u2
  rw [hf] at v1 v2
  have key : 2 * ((k : Int) * (a0 * q - a1 * p)) = 2 * (R * (a0 * y - a1 * x)) + (a0 * f - a1 * e) := by rw [← he, ← hf]; grind
  have bnd : ∀ {m z : Int}, -(r + 65) ≤ m ∧ m ≤ r + 65 → -(4 * r + 259) ≤ z → z ≤ 4 * r + 259 → -((r + 65) * (4 * r + 259)) ≤ m * z ∧ m * z ≤ (r + 65) * (4 * r + 259) := by
    intro m z hm z1 z2
    have : (m * z).natAbs ≤ ((r + 65) * (4 * r + 259)).natAbs := by rw [Int.natAbs_mul, Int.natAbs_mul]; exact Nat.mul_le_mul (by omega) (by omega)
    have : 0 ≤ (r + 65) * (4 * r + 259) := Int.mul_nonneg (by omega) (by omega)
    omega
  have b1 := bnd h0 (z := f) (by omega) (by omega)
  have b2 := bnd h1 (z := e) (by omega) (by omega)
  have e1 : (r + 65) * (4 * r + 259) = 4 * (r * r) + 519 * r + 16835 := by grind
  have hr2 : 128 * r ≤ r * r := Int.mul_le_mul_of_nonneg_right hr (by omega)
  have hk0 : 0 ≤ (k : Int) := Int.natCast_nonneg _
  generalize (k : Int) = k at *
  constructor
  · intro hC
    have h3 : r * (11 * r) ≤ R * (a0 * y - a1 * x) := Int.mul_le_mul hrR hC (by omega) (by omega)
    have e2 : r * (11 * r) = 11 * (r * r) := by grind
    have hpos : 0 < k * (a0 * q - a1 * p) := by omega
    refine Classical.byContradiction fun hc => ?_
    have : k * (a0 * q - a1 * p) ≤ 0 := Int.mul_nonpos_of_nonneg_of_nonpos (by omega) (by omega)
    omega
  · intro hC
    have e3 : (r - 1) * (r - 1) = r * r - 2 * r + 1 := by grind
    have h4 : r * (126 * r) ≤ R * (a0 * y - a1 * x) := Int.mul_le_mul hrR (by omega) (by omega) (by omega)
    have e2 : r * (126 * r) = 126 * (r * r) := by grind
    refine Classical.byContradiction fun hc => ?_
    have h5 : k * (a0 * q - a1 * p) ≤ k * (11 * r) := Int.mul_le_mul_of_nonneg_left (by omega) hk0
    have h6 : k * (11 * r) ≤ (2 * r + 130) * (11 * r) := Int.mul_le_mul_of_nonneg_right hk (by omega)
    have e4 : (2 * r + 130) * (11 * r) = 22 * (r * r) + 1430 * r := by grind
    omega
/-- side2 for a rounded direction of a piece whose radii lie between lo and lo + 64 -/
theorem side_nr (a0 a1 x y R r : Int) (hr : 128 ≤ r) (hrR : r ≤ R) (hRr : R ≤ r + 64) (hR2 : R ≤ 67108864) (hN1 : 1 ≤ x * x + y * y) (hx : x.natAbs ≤ 67108864) (hy : y.natAbs ≤ 67108864)
    (hN : x * x + y * y ≤ 4 * ((r + 65) * (r + 65))) (h0 : -(r + 65) ≤ a0 ∧ a0 ≤ r + 65) (h1 : -(r + 65) ≤ a1 ∧ a1 ≤ r + 65) :
    (11 * r ≤ a0 * y - a1 * x → 0 < a0 * nrI y R (x * x + y * y) - a1 * nrI x R (x * x + y * y)) ∧ ((r - 1) * (r - 1) ≤ a0 * y - a1 * x → 11 * r ≤ a0 * nrI y R (x * x + y * y) - a1 * nrI x R (x * x + y * y)) := by
  obtain ⟨d, hd⟩ := Int.eq_ofNat_of_zero_le (show 0 ≤ x * x + y * y by omega)
  have hg : d < 340282366920938463463374607431768211456 := by
    have b1 := sq_bdK (x := x) (by omega) (by omega)
    have b2 := sq_bdK (x := y) (by omega) (by omega)
    omega
  obtain ⟨k1, k2⟩ := rtN_spec d hg
  have c1 : ((rtN d : Nat) : Int) * (rtN d : Nat) = ((rtN d * rtN d : Nat) : Int) := by rw [Int.natCast_mul]
  have c2 : (((rtN d : Nat) : Int) + 1) * (((rtN d : Nat) : Int) + 1) = (((rtN d + 1) * (rtN d + 1) : Nat) : Int) := by rw [Int.natCast_mul]; rfl
  have hk : ((rtN d : Nat) : Int) ≤ 2 * r + 130 := by
    refine (abs_le_of (m := 2 * r + 130) (by omega) ?_).2
    have e5 : (2 * r + 130) * (2 * r + 130) = 4 * ((r + 65) * (r + 65)) := by grind
    omega
  exact side2 a0 a1 x y R (x * x + y * y) r (rtN d) hr hrR hRr hR2 rfl hN1 hx hy (by omega) (by omega) hk h0 h1
/-- what is known of a piece: both ends on their circles, radii and bounds -/
structure Pc (lo hi hl hh dir : Int) (a b : Spk) : Prop where
  bn : Bnd lo hi hl hh
  hd : dir = 1 ∨ dir = -1
  ga : Gd lo hi hl hh a
  gb : Gd lo hi hl hh b
  hh' : hi ≤ lo + 64
theorem Pc.mid {lo hi hl hh dir : Int} {a b : Spk} (h : Pc lo hi hl hh dir a b) (full : Bool) : Pc lo hi hl hh dir a (mdS dir full a b) ∧ Pc lo hi hl hh dir (mdS dir full a b) b :=
  ⟨⟨h.bn, h.hd, h.ga, mdS_gd full h.ga h.gb h.bn h.hd, h.hh'⟩, ⟨h.bn, h.hd, mdS_gd full h.ga h.gb h.bn h.hd, h.gb, h.hh'⟩⟩
def crs (a b : Spk) : Int := a.u * b.w - a.w * b.u
def dt (a b : Spk) : Int := a.u * b.u + a.w * b.w
def ds (a b : Spk) : Int := (a.u - b.u) * (a.u - b.u) + (a.w - b.w) * (a.w - b.w)
def nn (a : Spk) : Int := a.u * a.u + a.w * a.w
theorem Gd.sz {lo hi hl hh : Int} {a : Spk} (g : Gd lo hi hl hh a) (bn : Bnd lo hi hl hh) (h : hi ≤ lo + 64) : (-(lo + 65) ≤ a.u ∧ a.u ≤ lo + 65) ∧ (-(lo + 65) ≤ a.w ∧ a.w ≤ lo + 65) ∧ (lo - 1) * (lo - 1) ≤ nn a ∧ nn a ≤ (lo + 65) * (lo + 65) := by
  have b0 := bn.lo
  have g0 := g.r0
  have g1 := g.r1
  have n0 := g.n0
  have n1 := g.n1
  have q1 := sq_nn a.u
  have q2 := sq_nn a.w
  have m1 := sq_le_of (x := a.r + 1) (m := lo + 65) (by omega) (by omega)
  have m2 := Int.mul_le_mul (a := lo - 1) (b := lo - 1) (c := a.r - 1) (d := a.r - 1) (by omega) (by omega) (by omega) (by omega)
  have w1 := abs_le_of (x := a.u) (m := lo + 65) (by omega) (by omega)
  have w2 := abs_le_of (x := a.w) (m := lo + 65) (by omega) (by omega)
  unfold nn
  omega
/-- a direction (x, y) that a piece gets, and the middle along it: what holds of a and of b on the two sides -/
theorem Pc.along {lo hi hl hh dir : Int} {a b : Spk} (h : Pc lo hi hl hh dir a b) (m : Spk) (x y : Int) (hN1 : 1 ≤ x * x + y * y) (hx : x.natAbs ≤ 67108864) (hy : y.natAbs ≤ 67108864) (hN : x * x + y * y ≤ 4 * ((lo + 65) * (lo + 65)))
    (hu : m.u = nrI x ((a.r + b.r + 1) / 2) (x * x + y * y)) (hw : m.w = nrI y ((a.r + b.r + 1) / 2) (x * x + y * y)) (c0 c1 : Int) (h0 : -(lo + 65) ≤ c0 ∧ c0 ≤ lo + 65) (h1 : -(lo + 65) ≤ c1 ∧ c1 ≤ lo + 65) :
    (11 * lo ≤ c0 * y - c1 * x → 0 < c0 * m.w - c1 * m.u) ∧ ((lo - 1) * (lo - 1) ≤ c0 * y - c1 * x → 11 * lo ≤ c0 * m.w - c1 * m.u) := by
  have b0 := h.bn.lo
  have b1 := h.bn.hi
  have ga0 := h.ga.r0
  have ga1 := h.ga.r1
  have gb0 := h.gb.r0
  have gb1 := h.gb.r1
  have hh' := h.hh'
  rw [hu, hw]
  exact side_nr c0 c1 x y _ lo b0 (by omega) (by omega) (by omega) hN1 hx hy hN h0 h1
end Go.Proofs.Ytkjjoclbjkpdaaa
