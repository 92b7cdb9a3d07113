/- Proved here: the accuracy of the algorithm P3.1 with whole numbers that do not overflow; no program in sight; the rest is at most 45 degrees. -/
import Derived.Test.YtjajkgdbaefndaaDoorCxE
namespace Cx
/-- one round of the algorithm P3.1 -/
def stp (i : Nat) (s : Int × Int × Int) : Int × Int × Int :=
  if 0 ≤ s.2.2 then (s.1 - s.2.1 / 2 ^ i, s.2.1 + s.1 / 2 ^ i, s.2.2 - T i) else (s.1 + s.2.1 / 2 ^ i, s.2.1 - s.1 / 2 ^ i, s.2.2 + T i)
def itr : Nat → Int × Int × Int → Int × Int × Int
  | 0, s => s
  | n + 1, s => stp n (itr n s)
def cx (s : Int × Int × Int) : C := ⟨s.1, s.2.1⟩
theorem G_pos : ∀ j, j < 26 → 0 ≤ G j ∧ 0 ≤ Dl j := by decide +kernel
/-- a quotient rounded down -/
theorem flr (y : Int) (i : Nat) : ((y / 2 ^ i : Int) : Rat) ≤ y * (1 / 2 ^ i) ∧ (y : Rat) * (1 / 2 ^ i) ≤ ((y / 2 ^ i : Int) : Rat) + 1 := by
  have hp : (0 : Int) < 2 ^ i := Int.pow_pos (by decide)
  have h1 : (y / 2 ^ i) * 2 ^ i ≤ y := Int.ediv_mul_le y (by omega)
  have h2 : y < (y / 2 ^ i + 1) * 2 ^ i := Int.lt_ediv_add_one_mul_self y hp
  have c1 : ((y / 2 ^ i : Int) : Rat) * 2 ^ i ≤ y := by exact_mod_cast h1
  have c2 : (y : Rat) ≤ (((y / 2 ^ i : Int) : Rat) + 1) * 2 ^ i := by
    have := Int.le_of_lt h2
    exact_mod_cast this
  have hq : (0 : Rat) < 2 ^ i := Rat.pow_pos (by decide)
  obtain ⟨Y, hY, hY2⟩ := div_eq (x := y) hq
  have e : (y : Rat) * (1 / 2 ^ i) = Y := by rw [← hY, Rat.div_def, Rat.div_def]; grind
  rw [e]
  rw [hY2] at c1 c2
  exact ⟨Rat.le_of_mul_le_mul_right c1 hq, Rat.le_of_mul_le_mul_right c2 hq⟩
/-- a round is, up to 3/2, a multiplication -/
theorem stp_near (i : Nat) (s : Int × Int × Int) :
    Cl (cx (stp i s)) (mul (cx s) (if 0 ≤ s.2.2 then ⟨1, 1 / 2 ^ i⟩ else ⟨1, -(1 / 2 ^ i)⟩)) (3 / 2) := by
  obtain ⟨x, y, z⟩ := s
  have fx := flr x i
  have fy := flr y i
  unfold stp cx
  by_cases h : 0 ≤ z
  · simp only [h, if_true]
    refine Cl.of_parts (p := 1) (q := 1) ?_ ?_ ?_ ?_ (by decide +kernel) (by decide +kernel) <;> simp only [mul, Rat.intCast_sub, Rat.intCast_add] <;> grind
  · simp only [h, if_false]
    refine Cl.of_parts (p := 1) (q := 1) ?_ ?_ ?_ ?_ (by decide +kernel) (by decide +kernel) <;> simp only [mul, Rat.intCast_sub, Rat.intCast_add] <;> grind
/-- the lengths and the errors, round by round -/
def qe : Nat → Rat × Rat → Rat × Rat
  | 0, a => a
  | n + 1, a => (fun p => (p.1 * G n, p.2 * G n + p.1 * Dl n + 3 / 2)) (qe n a)
theorem sc_mul (a b : Rat) (x y : C) : mul (sc a x) (sc b y) = sc (a * b) (mul x y) := by
  simp only [mul, sc]; ext <;> simp <;> grind
theorem near (n : Nat) (hn : n ≤ 26) (s : Int × Int × Int) (q0 : Rat) (hq : 0 ≤ q0) (a : C) (ha : ns a = 1) (e0 : Rat) (h0 : Cl (cx s) (sc q0 a) e0) :
    0 ≤ (qe n (q0, e0)).1 ∧ Cl (cx (itr n s)) (sc (qe n (q0, e0)).1 (mul a (E wN (s.2.2 - (itr n s).2.2)))) (qe n (q0, e0)).2 := by
  induction n with
  | zero =>
    have : E wN (s.2.2 - (itr 0 s).2.2) = one := by
      have e : s.2.2 - (itr 0 s).2.2 = ((0 : Nat) : Int) := by simp [itr]
      rw [e, E_nat]; rfl
    rw [this, mul_one]
    exact ⟨hq, h0⟩
  | succ n ih =>
    obtain ⟨hp, ih⟩ := ih (by omega)
    obtain ⟨u1, u2⟩ := u_all n (by omega)
    have gp := (G_pos n (by omega))
    simp only [itr, qe]
    generalize qe n (q0, e0) = p at *
    generalize hs : itr n s = t at *
    refine ⟨Rat.mul_nonneg hp gp.1, ?_⟩
    have st := stp_near n t
    have c4 : (1 : Rat) * 1 + 1 / 2 ^ n * (1 / 2 ^ n) = 1 + 1 / 4 ^ n := by
      have : (4 : Rat) ^ n = 2 ^ n * 2 ^ n := by
        rw [show (4 : Rat) = 2 * 2 from by decide +kernel]
        clear hs ih u1 u2 gp st
        induction n with
        | zero => decide +kernel
        | succ n ih => simp only [Rat.pow_succ]; grind
      have hq : (0 : Rat) < 2 ^ n := Rat.pow_pos (by decide)
      rw [this]; grind
    have eu : ns (E wN (s.2.2 - t.2.2)) = 1 := ns_E wN ns_w _
    have nm : ns (sc p.1 (mul a (E wN (s.2.2 - t.2.2)))) ≤ p.1 * p.1 := by rw [ns_sc, ns_mul, ha, eu]; grind
    by_cases hz : 0 ≤ t.2.2
    · simp only [hz, if_true] at st
      have m1 := ih.mul_right ⟨1, 1 / 2 ^ n⟩ (r := G n) gp.1 (by simp only [ns]; grind)
      have m2 := u2.mul_left _ hp nm
      have r := (st.trans m1).trans m2
      rw [sc_mul, mul_assoc, ← E_add wN ns_w] at r
      have ez : s.2.2 - t.2.2 + T n = s.2.2 - (stp n t).2.2 := by simp only [stp, hz, if_true]; omega
      rw [ez] at r
      exact r.mono (by grind)
    · simp only [hz, if_false] at st
      have m1 := ih.mul_right ⟨1, -(1 / 2 ^ n)⟩ (r := G n) gp.1 (by simp only [ns]; grind)
      have u3 := u2.conj
      have ec : conj ⟨1, 1 / 2 ^ n⟩ = ⟨1, -(1 / 2 ^ n)⟩ := rfl
      have ec2 : conj (sc (G n) (E wN (T n))) = sc (G n) (E wN (-T n)) := by rw [E_neg]; simp only [conj, sc]; ext <;> simp <;> grind
      rw [ec, ec2] at u3
      have m2 := u3.mul_left _ hp nm
      have r := (st.trans m1).trans m2
      rw [sc_mul, mul_assoc, ← E_add wN ns_w] at r
      have ez : s.2.2 - t.2.2 + -T n = s.2.2 - (stp n t).2.2 := by simp only [stp, hz, if_false]; omega
      rw [ez] at r
      exact r.mono (by grind)
/-- how far the rest may be from nought behind n rounds -/
def Sb : Nat → Int
  | 0 => 1708 + 1708
  | n + 1 => Sb n + T (24 - n)
theorem T_le (n : Nat) (h : n < 25) : T (24 - n) ≤ Sb n := by
  revert n; decide +kernel
theorem rest_le (n : Nat) (hn : n ≤ 25) (s : Int × Int × Int) (h : s.2.2 ≤ Sb 25 ∧ -Sb 25 ≤ s.2.2) : (itr n s).2.2 ≤ Sb (25 - n) ∧ -Sb (25 - n) ≤ (itr n s).2.2 := by
  induction n with
  | zero => exact h
  | succ n ih =>
    have ih := ih (by omega)
    have e : 25 - n = (25 - (n + 1)) + 1 := by omega
    have t := T_le (25 - (n + 1)) (by omega)
    have e2 : 24 - (25 - (n + 1)) = n := by omega
    rw [e] at ih
    simp only [Sb] at ih
    rw [e2] at ih t
    simp only [itr, stp]
    split <;> simp only <;> omega
theorem rest26 (s : Int × Int × Int) (h : s.2.2 ≤ Sb 25 ∧ -Sb 25 ≤ s.2.2) : (itr 26 s).2.2 ≤ 1708 ∧ -1708 ≤ (itr 26 s).2.2 := by
  have r := rest_le 25 (by omega) s h
  have e : Sb (25 - 25) = 3416 := by decide
  rw [e] at r
  have t : T 25 = 1708 := rfl
  have e26 : itr 26 s = stp 25 (itr 25 s) := rfl
  rw [e26]
  generalize itr 25 s = u at *
  unfold stp
  rw [t]
  split <;> simp only <;> omega
/-- THE ACCURACY OF THE ALGORITHM P3.1 -/
theorem accuracy' (z : Int) (t : Int × Int × Int) (p : Rat × Rat) (h1 : t.2.2 ≤ 1708) (h2 : -1708 ≤ t.2.2) (n1 : 0 ≤ p.1) (n2 : Cl (cx t) (sc p.1 (E wN (z - t.2.2))) p.2)
    (a1 : p.1 ≤ 1073741825) (a2 : 1073741823 ≤ p.1) (a3 : p.2 ≤ 64) : Cl (cx t) (sc 1073741824 (E wN z)) 100 := by
  have ez := E_near wN ns_w w_near (-t.2.2)
  have b1 := (ez.mul_left (E wN z) (r := 1) (by decide +kernel) (by rw [ns_E wN ns_w]; decide +kernel))
  rw [← E_add wN ns_w, mul_one] at b1
  have b2 := b1.sc n1
  have hn : ((-t.2.2).natAbs : Rat) ≤ 1708 := by
    have : (-t.2.2).natAbs ≤ 1708 := by omega
    exact_mod_cast this
  have b3 : Cl (sc p.1 (E wN z)) (sc 1073741824 (E wN z)) 1 := by
    refine ⟨by decide +kernel, ?_⟩
    have : sub (sc p.1 (E wN z)) (sc 1073741824 (E wN z)) = sc (p.1 - 1073741824) (E wN z) := by simp only [sub, sc]; ext <;> simp <;> grind
    rw [this, ns_sc, ns_E wN ns_w]
    have h1 : p.1 - 1073741824 ≤ 1 := by grind
    have h2 : -1 ≤ p.1 - 1073741824 := by grind
    generalize p.1 - 1073741824 = d at *
    have := Rat.mul_nonneg (a := 1 - d) (b := d + 1) (by grind) (by grind)
    grind
  have b4 : Cl (sc p.1 (E wN (z - t.2.2))) (sc p.1 (E wN z)) 33 := by
    have e : z + -t.2.2 = z - t.2.2 := by omega
    rw [e] at b2
    refine b2.mono ?_
    have m1 : ((-t.2.2).natAbs : Rat) * (175 / 10000000000000) ≤ 1708 * (175 / 10000000000000) := Rat.mul_le_mul_of_nonneg_right hn (by decide +kernel)
    have m2 : p.1 * (((-t.2.2).natAbs : Rat) * (175 / 10000000000000) * 1) ≤ 1073741825 * (1708 * (175 / 10000000000000)) :=
      mul_le_mul2 n1 a1 (by have := ez.1; grind) (by grind)
    have m3 : (1073741825 : Rat) * (1708 * (175 / 10000000000000)) ≤ 33 := by decide +kernel
    exact Rat.le_trans m2 m3
  exact ((n2.trans b4).trans b3).mono (by grind)
theorem qe26 : (qe 26 (652032874, 0)).1 ≤ 1073741825 ∧ 1073741823 ≤ (qe 26 (652032874, 0)).1 ∧ (qe 26 (652032874, 0)).2 ≤ 64 := by decide +kernel
theorem start_eq (z : Int) : Cl (cx (652032874, 0, z)) (sc 652032874 one) 0 := by
  have : cx (652032874, 0, z) = sc 652032874 one := by
    show (⟨_, _⟩ : C) = ⟨_, _⟩
    congr 1
    · show ((652032874 : Int) : Rat) = 652032874 * 1
      decide +kernel
    · show ((0 : Int) : Rat) = 652032874 * 0
      decide +kernel
  rw [this]; exact Cl.refl _
theorem Sb25 : (45000000000 : Int) ≤ Sb 25 := by decide +kernel
theorem accuracy (z : Int) (h1 : z ≤ 45000000000) (h2 : -45000000000 ≤ z) :
    Cl (cx (itr 26 (652032874, 0, z))) (sc 1073741824 (E wN z)) 100 := by
  have n26 := near 26 (Nat.le_refl _) (652032874, 0, z) 652032874 (by decide +kernel) one ns_one 0 (start_eq z)
  rw [one_mul] at n26
  have r := rest26 (652032874, 0, z) (by
    have e := Sb25
    exact ⟨Int.le_trans h1 e, Int.le_trans (Int.neg_le_neg e) h2⟩)
  exact accuracy' z _ _ r.1 r.2 n26.1 n26.2 qe26.1 qe26.2.1 qe26.2.2
end Cx
