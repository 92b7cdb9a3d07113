/- Proved here: the plain facts of the laws on sums of angles and on lengths; no program in sight; ranges of the arguments as stated. -/
import Derived.Test.YtjajkgdbaefndaaDoorCxM
import Derived.Test.YtjajkgdbaefndaaDoorWq1
import Derived.Test.YtjajkgdbaefndaaDoorWq2
namespace Go.Proofs.YtjajkgdbaefndaaDoor
open Go.RowKit Cx
set_option linter.unusedVariables false
/-- MulDiv of small numbers by 2^30, to the nearest: within 1/2 -/
theorem md_one (a b : Int) (ha : -1073742900 ≤ a) (ha2 : a ≤ 1073742900) (hb : -1073742900 ≤ b) (hb2 : b ≤ 1073742900) :
    mdO a b 1073741824 2 = true ∧ 2 * (mdV a b 1073741824 2 * 1073741824) ≤ 2 * (a * b) + 1073741824 ∧ 2 * (a * b) ≤ 2 * (mdV a b 1073741824 2 * 1073741824) + 1073741824 ∧ -1073744000 ≤ mdV a b 1073741824 2 ∧ mdV a b 1073741824 2 ≤ 1073744000 := by
  obtain ⟨v, hr, ho, hv, _⟩ := md_rel a b 1073741824 2 (by decide) (Or.inr (Or.inr rfl))
  have m := mul_bd ha ha2 hb hb2
  have r := hr.2.2 rfl
  have e : yI a b 1073741824 = a * b := if_neg (by decide)
  have e2 : ((Int.natAbs 1073741824 : Nat) : Int) = 1073741824 := by decide
  rw [e, e2] at r
  have hb : -9223372036854775808 ≤ v ∧ v ≤ 9223372036854775807 := by omega
  have ht : mdO a b 1073741824 2 = true := by rw [ho]; exact decide_eq_true hb
  rw [hv ht]
  exact ⟨ht, by omega, by omega, by omega, by omega⟩
theorem half_q {v p : Int} (h1 : 2 * (v * 1073741824) ≤ 2 * p + 1073741824) (h2 : 2 * p ≤ 2 * (v * 1073741824) + 1073741824) : (v : Rat) - p * (1 / 1073741824) ≤ 1 / 2 ∧ p * (1 / 1073741824) - (v : Rat) ≤ 1 / 2 := by
  have c1 := Rat.intCast_le_intCast.mpr h1
  have c2 := Rat.intCast_le_intCast.mpr h2
  have l1 : ((1073741824 : Int) : Rat) = 1073741824 := by decide +kernel
  have l2 : ((2 : Int) : Rat) = 2 := by decide +kernel
  rw [Rat.intCast_add, Rat.intCast_mul, Rat.intCast_mul, Rat.intCast_mul, l1, l2] at c1
  rw [Rat.intCast_add, Rat.intCast_mul, Rat.intCast_mul, Rat.intCast_mul, l1, l2] at c2
  constructor <;> grind
/-- the angle of a sum -/
theorem sum_near (a b : Int) (ha : 0 ≤ a) (ha2 : a < 360000000) (hb : 0 ≤ b) (hb2 : b < 360000000) : Cl (mul (E wN (1000 * (a % 360000000))) (E wN (1000 * (b % 360000000)))) (E wN (1000 * ((a + b) % 360000000))) (1 / 100000000000) := by
  rw [← E_add wN ns_w]
  have h : 1000 * (a % 360000000) + 1000 * (b % 360000000) = 1000 * ((a + b) % 360000000) ∨ 1000 * (a % 360000000) + 1000 * (b % 360000000) = 1000 * ((a + b) % 360000000) + 360000000000 := by omega
  rcases h with h | h
  · rw [h]; exact (Cl.refl _).mono (by decide +kernel)
  · rw [h, E_add wN ns_w]
    have f := full_near.mul_left (E wN (1000 * ((a + b) % 360000000))) (r := 1) (by decide +kernel) (by rw [ns_E wN ns_w]; decide +kernel)
    rw [mul_one] at f
    exact f.mono (by decide +kernel)
theorem sums_fact (a b : Int) (ha : 0 ≤ a) (ha2 : a < 360000000) (hb : 0 ≤ b) (hb2 : b < 360000000) :
    (sinI (a + b) - (mdV (sinI a) (cosI b) 1073741824 2 + mdV (cosI a) (sinI b) 1073741824 2) ≤ 1000 ∧ (mdV (sinI a) (cosI b) 1073741824 2 + mdV (cosI a) (sinI b) 1073741824 2) - sinI (a + b) ≤ 1000)
    ∧ cosI (a + b) - (mdV (cosI a) (cosI b) 1073741824 2 - mdV (sinI a) (sinI b) 1073741824 2) ≤ 1000 ∧ (mdV (cosI a) (cosI b) 1073741824 2 - mdV (sinI a) (sinI b) 1073741824 2) - cosI (a + b) ≤ 1000 := by
  have sa := sc_bd a
  have sb := sc_bd b
  have m1 := md_one (sinI a) (cosI b) sa.2.1 sa.2.2 sb.1.1 sb.1.2
  have m2 := md_one (cosI a) (sinI b) sa.1.1 sa.1.2 sb.2.1 sb.2.2
  have m3 := md_one (cosI a) (cosI b) sa.1.1 sa.1.2 sb.1.1 sb.1.2
  have m4 := md_one (sinI a) (sinI b) sa.2.1 sa.2.2 sb.2.1 sb.2.2
  have q1 := half_q m1.2.1 m1.2.2.1
  have q2 := half_q m2.2.1 m2.2.2.1
  have q3 := half_q m3.2.1 m3.2.2.1
  have q4 := half_q m4.2.1 m4.2.2.1
  have na := sc_near a
  have nb := sc_near b
  have nc := sc_near (a + b)
  have ns1 := sum_near a b ha ha2 hb hb2
  have hza : ns (E wN (1000 * (a % 360000000))) = 1 := ns_E wN ns_w _
  have hzb : ns (E wN (1000 * (b % 360000000))) = 1 := ns_E wN ns_w _
  generalize E wN (1000 * (a % 360000000)) = za at *
  generalize E wN (1000 * (b % 360000000)) = zb at *
  generalize E wN (1000 * ((a + b) % 360000000)) = zc at *
  generalize mdV (sinI a) (cosI b) 1073741824 2 = v1 at *
  generalize mdV (cosI a) (sinI b) 1073741824 2 = v2 at *
  generalize mdV (cosI a) (cosI b) 1073741824 2 = v3 at *
  generalize mdV (sinI a) (sinI b) 1073741824 2 = v4 at *
  generalize sinI (a + b) = u at *
  generalize cosI (a + b) = e at *
  generalize sinI a = s at *
  generalize cosI a = c at *
  generalize sinI b = t at *
  generalize cosI b = d at *
  have nb' : ns ⟨d, t⟩ ≤ (101 + 1073741824) * (101 + 1073741824) := ns_of_cl nb (by decide +kernel) (by rw [ns_sc, hzb]; decide +kernel)
  have p1 := na.mul_right ⟨d, t⟩ (by decide +kernel) nb'
  have p2 := nb.mul_left (sc 1073741824 za) (r := 1073741824) (by decide +kernel) (by rw [ns_sc, hza]; decide +kernel)
  have p3 := (p1.trans p2).sc (k := 1 / 1073741824) (by decide +kernel)
  rw [sc_mul] at p3
  have e1 : sc (1 / 1073741824) (sc (1073741824 * 1073741824) (mul za zb)) = sc 1073741824 (mul za zb) := by simp only [sc]; ext <;> simp <;> grind
  rw [e1] at p3
  have p4 := ((p3.trans (ns1.sc (k := 1073741824) (by decide +kernel))).trans nc.symm).mono (f := 400) (by decide +kernel)
  have r := p4.re
  have i := p4.im
  simp only [mul, sc] at r i
  rw [Rat.intCast_mul] at q1 q2 q3 q4
  have k1 : u - (v1 + v2) ≤ 1000 := le_lit (r := 1000) (by rw [Rat.intCast_sub, Rat.intCast_add]; grind) (by decide +kernel)
  have k2 : (v1 + v2) - u ≤ 1000 := le_lit (r := 1000) (by rw [Rat.intCast_sub, Rat.intCast_add]; grind) (by decide +kernel)
  have k3 : e - (v3 - v4) ≤ 1000 := le_lit (r := 1000) (by rw [Rat.intCast_sub, Rat.intCast_sub]; grind) (by decide +kernel)
  have k4 : (v3 - v4) - e ≤ 1000 := le_lit (r := 1000) (by rw [Rat.intCast_sub, Rat.intCast_sub]; grind) (by decide +kernel)
  exact ⟨⟨k1, k2⟩, k3, k4⟩
theorem sq_int (x : Int) : 0 ≤ x * x := by
  rcases Int.le_total 0 x with h | h
  · exact Int.mul_nonneg h h
  · have := Int.mul_nonneg (a := -x) (b := -x) (by omega) (by omega)
    rw [Int.neg_mul_neg] at this; exact this
/-- a rounded root, in rational numbers -/
theorem root_rat {N : Int} {r : Nat} (h0 : 0 ≤ N) (h : SQ 2 N.toNat r) : (N : Rat) ≤ (r + 1 / 2) * (r + 1 / 2) ∧ (r = 0 ∨ ((r : Rat) - 1 / 2) * (r - 1 / 2) ≤ N) := by
  obtain ⟨n, rfl⟩ := Int.eq_ofNat_of_zero_le h0
  rw [Int.toNat_natCast] at h
  have h2 := h.2.2 rfl
  have c1 := Rat.natCast_le_natCast.mpr h2.1
  have e0 : (((n : Nat) : Int) : Rat) = (n : Rat) := Rat.intCast_natCast n
  rw [e0]
  constructor
  · simp only [Rat.natCast_add, Rat.natCast_mul] at c1
    grind
  · rcases h2.2 with h3 | h3
    · exact Or.inl h3
    · right
      have c2 := Rat.natCast_le_natCast.mpr (show r * r + 1 ≤ n + r from h3)
      simp only [Rat.natCast_add, Rat.natCast_mul] at c2
      have : ((1 : Nat) : Rat) = 1 := rfl
      grind
theorem sqrt_cmp {m n : Nat} {A B : Int} {e : Rat} (he : 0 ≤ e) (hA : SQ 2 A.toNat m) (hB : SQ 2 B.toNat n) (hA0 : 0 ≤ A) (hB0 : 0 ≤ B) (h : ∀ r : Rat, 0 ≤ r → (A : Rat) ≤ r * r → (B : Rat) ≤ (e + r) * (e + r)) : (n : Rat) ≤ m + 1 + e := by
  have a := root_rat hA0 hA
  have b := root_rat hB0 hB
  have m0 : (0 : Rat) ≤ m := Rat.natCast_nonneg
  have g := h (m + 1 / 2) (by grind) a.1
  rcases b.2 with hb | hb
  · subst hb
    have : ((0 : Nat) : Rat) = 0 := rfl
    grind
  · have := le_of_sq (a := (n : Rat) - 1 / 2) (b := e + (m + 1 / 2)) (by grind) (Rat.le_trans hb g)
    grind
theorem lengths_fact (x y a : Int) (hx : -1048576 ≤ x) (hx2 : x ≤ 1048576) (hy : -1048576 ≤ y) (hy2 : y ≤ 1048576) (m n : Nat) (hm : SQ 2 (x * x + y * y).toNat m) (hn : SQ 2 (rotX x y a * rotX x y a + rotY x y a * rotY x y a).toNat n) :
    (m : Int) - n ≤ 2 ∧ (n : Int) - m ≤ 2 := by
  have c := (rot_small x y a hx hx2 hy hy2).1
  generalize rotX x y a = u at *
  generalize rotY x y a = v at *
  have p1 := mul_bd hx hx2 hx hx2
  have hz : ns (E wN (1000 * (a % 360000000))) = 1 := ns_E wN ns_w _
  generalize E wN (1000 * (a % 360000000)) = z at *
  have q1 : (0 : Int) ≤ x * x + y * y := by have := sq_int x; have := sq_int y; omega
  have q2 : (0 : Int) ≤ u * u + v * v := by have := sq_int u; have := sq_int v; omega
  have eA : ((x * x + y * y : Int) : Rat) = ns ⟨x, y⟩ := by simp only [ns]; rw [Rat.intCast_add, Rat.intCast_mul, Rat.intCast_mul]
  have eB : ((u * u + v * v : Int) : Rat) = ns ⟨u, v⟩ := by simp only [ns]; rw [Rat.intCast_add, Rat.intCast_mul, Rat.intCast_mul]
  have nz : ns (mul ⟨x, y⟩ z) = ns ⟨x, y⟩ := by rw [ns_mul, hz]; grind
  have k1 := sqrt_cmp (e := 9 / 10) (by decide +kernel) hm hn q1 q2 (fun r hr h => by
    rw [eA] at h; rw [eB]
    exact ns_of_cl c hr (by rw [nz]; exact h))
  have k2 := sqrt_cmp (e := 9 / 10) (by decide +kernel) hn hm q2 q1 (fun r hr h => by
    rw [eB] at h; rw [eA, ← nz]
    exact ns_of_cl c.symm hr h)
  have j1 : (n : Int) - m ≤ 2 := le_lit (r := 2) (by rw [Rat.intCast_sub]; simp only [Rat.intCast_natCast]; grind) (by decide +kernel)
  have j2 : (m : Int) - n ≤ 2 := le_lit (r := 2) (by rw [Rat.intCast_sub]; simp only [Rat.intCast_natCast]; grind) (by decide +kernel)
  exact ⟨j2, j1⟩
end Go.Proofs.YtjajkgdbaefndaaDoor
