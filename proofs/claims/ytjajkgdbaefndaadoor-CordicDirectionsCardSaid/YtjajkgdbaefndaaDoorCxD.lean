/- Proved here: the plain facts of CordicDirections: the direction of a point, and its distance turned by it; no program in sight; ranges of the arguments as stated. -/
import Derived.Test.YtjajkgdbaefndaaDoorCxN
import Derived.Test.YtjajkgdbaefndaaDoorCw5
namespace Cx
/-- one round of the algorithm P3.3 -/
def stpV (i : Nat) (s : Int × Int × Int) : Int × Int × Int :=
  if 0 ≤ s.2.1 then (s.1 + s.2.1 / 2 ^ i, s.2.1 - s.1 / 2 ^ i, s.2.2 + T i) else (s.1 - s.2.1 / 2 ^ i, s.2.1 + s.1 / 2 ^ i, s.2.2 - T i)
def itrV : Nat → Int × Int × Int → Int × Int × Int
  | 0, s => s
  | n + 1, s => stpV n (itrV n s)
theorem stpV_near (i : Nat) (s : Int × Int × Int) :
    Cl (cx (stpV i s)) (mul (cx s) (if 0 ≤ s.2.1 then ⟨1, -(1 / 2 ^ i)⟩ else ⟨1, 1 / 2 ^ i⟩)) (3 / 2) := by
  obtain ⟨x, y, z⟩ := s
  have fx := flr x i
  have fy := flr y i
  unfold stpV cx
  by_cases h : 0 ≤ y
  · simp only [h, if_true]
    refine Cl.of_parts (p := 1) (q := 1) ?_ ?_ ?_ ?_ (by decide +kernel) (by decide +kernel) <;> simp only [mul, Rat.intCast_sub, Rat.intCast_add] <;> grind
  · simp only [h, if_false]
    refine Cl.of_parts (p := 1) (q := 1) ?_ ?_ ?_ ?_ (by decide +kernel) (by decide +kernel) <;> simp only [mul, Rat.intCast_sub, Rat.intCast_add] <;> grind
theorem four_pow (n : Nat) : (1 : Rat) * 1 + 1 / 2 ^ n * (1 / 2 ^ n) = 1 + 1 / 4 ^ n := by
  have : (4 : Rat) ^ n = 2 ^ n * 2 ^ n := by
    rw [show (4 : Rat) = 2 * 2 from by decide +kernel]
    induction n with
    | zero => decide +kernel
    | succ n ih => simp only [Rat.pow_succ]; grind
  have hq : (0 : Rat) < 2 ^ n := Rat.pow_pos (by decide)
  rw [this]; grind
theorem nearV (n : Nat) (hn : n ≤ 26) (s : Int × Int × Int) (q0 : Rat) (hq : 0 ≤ q0) (a : C) (ha : ns a ≤ 1) (e0 : Rat) (h0 : Cl (cx s) (sc q0 a) e0) :
    0 ≤ (qe n (q0, e0)).1 ∧ Cl (cx (itrV n s)) (sc (qe n (q0, e0)).1 (mul a (E wN (s.2.2 - (itrV n s).2.2)))) (qe n (q0, e0)).2 := by
  induction n with
  | zero =>
    have : E wN (s.2.2 - (itrV 0 s).2.2) = one := by
      have e : s.2.2 - (itrV 0 s).2.2 = ((0 : Nat) : Int) := by simp [itrV]
      rw [e, E_nat]; rfl
    rw [this, mul_one]
    exact ⟨hq, h0⟩
  | succ n ih =>
    obtain ⟨hp, ih⟩ := ih (by omega)
    obtain ⟨u1, u2⟩ := u_all n (by omega)
    have gp := (G_pos n (by omega))
    have c4 := four_pow n
    simp only [itrV, qe]
    generalize qe n (q0, e0) = p at *
    generalize hs : itrV n s = t at *
    refine ⟨Rat.mul_nonneg hp gp.1, ?_⟩
    have st := stpV_near n t
    have eu : ns (E wN (s.2.2 - t.2.2)) = 1 := ns_E wN ns_w _
    have nm : ns (sc p.1 (mul a (E wN (s.2.2 - t.2.2)))) ≤ p.1 * p.1 := by
      rw [ns_sc, ns_mul, eu]
      have := Rat.mul_le_mul_of_nonneg_left ha (sq_nn p.1)
      grind
    by_cases hz : 0 ≤ t.2.1
    · simp only [hz, if_true] at st
      have m1 := ih.mul_right ⟨1, -(1 / 2 ^ n)⟩ (r := G n) gp.1 (by simp only [ns]; grind)
      have u3 := u2.conj
      have ec : conj ⟨1, 1 / 2 ^ n⟩ = ⟨1, -(1 / 2 ^ n)⟩ := rfl
      have ec2 : conj (sc (G n) (E wN (T n))) = sc (G n) (E wN (-T n)) := by rw [E_neg]; simp only [conj, sc]; ext <;> simp <;> grind
      rw [ec, ec2] at u3
      have m2 := u3.mul_left _ hp nm
      have r := (st.trans m1).trans m2
      rw [sc_mul, mul_assoc, ← E_add wN ns_w] at r
      have ez : s.2.2 - t.2.2 + -T n = s.2.2 - (stpV n t).2.2 := by simp only [stpV, hz, if_true]; omega
      rw [ez] at r
      exact r.mono (by grind)
    · simp only [hz, if_false] at st
      have m1 := ih.mul_right ⟨1, 1 / 2 ^ n⟩ (r := G n) gp.1 (by simp only [ns]; grind)
      have m2 := u2.mul_left _ hp nm
      have r := (st.trans m1).trans m2
      rw [sc_mul, mul_assoc, ← E_add wN ns_w] at r
      have ez : s.2.2 - t.2.2 + T n = s.2.2 - (stpV n t).2.2 := by simp only [stpV, hz, if_false]; omega
      rw [ez] at r
      exact r.mono (by grind)
/-- the slope shrinks -/
theorem slope (s : Int × Int × Int) (h0 : 0 ≤ s.1) (h1 : s.2.1 ≤ s.1) (h2 : -s.1 ≤ s.2.1) (n : Nat) :
    0 ≤ (itrV n s).1 ∧ 2 ^ n * (itrV n s).2.1 ≤ 2 * (itrV n s).1 + n * 2 ^ n ∧ -(2 * (itrV n s).1 + n * 2 ^ n) ≤ 2 ^ n * (itrV n s).2.1 := by
  induction n with
  | zero => simp [itrV]; omega
  | succ n ih =>
    simp only [itrV]
    generalize itrV n s = t at *
    obtain ⟨a, b, z⟩ := t
    obtain ⟨g0, g1, g2⟩ := ih
    simp only at g0 g1 g2
    have hp : (0 : Int) < 2 ^ n := Int.pow_pos (by decide)
    have hS : (2 : Int) ^ (n + 1) = 2 ^ n * 2 := Int.pow_succ 2 n
    have a1 := Int.ediv_mul_le a (b := 2 ^ n) (by omega)
    have a2 := Int.lt_ediv_add_one_mul_self a hp
    have b1 := Int.ediv_mul_le b (b := 2 ^ n) (by omega)
    have b2 := Int.lt_ediv_add_one_mul_self b hp
    have hc : ((n + 1 : Nat) : Int) = n + 1 := by omega
    unfold stpV
    rw [hS, hc]
    by_cases hb : 0 ≤ b
    · simp only [hb, if_true]
      have q0 : 0 ≤ b / 2 ^ n := Int.ediv_nonneg hb (by omega)
      have pb : 0 ≤ 2 ^ n * b := Int.mul_nonneg (by omega) hb
      generalize (2 : Int) ^ n = p at *
      generalize a / p = qa at *
      generalize b / p = qb at *
      have e1 : p * 2 * (b - qa) = 2 * (p * b) - 2 * (qa * p) := by grind
      have e2 : ((n : Int) + 1) * (p * 2) = 2 * (n * p) + 2 * p := by grind
      have e3 : (qa + 1) * p = qa * p + p := by grind
      rw [e1, e2]
      rw [e3] at a2
      have np : 0 ≤ (n : Int) * p := Int.mul_nonneg (by omega) (by omega)
      refine ⟨by omega, by omega, by omega⟩
    · simp only [hb, if_false]
      have q0 : b / 2 ^ n < 0 := Int.ediv_neg_of_neg_of_pos (by omega) hp
      have pb : 2 ^ n * b ≤ 0 := Int.mul_nonpos_of_nonneg_of_nonpos (by omega) (by omega)
      generalize (2 : Int) ^ n = p at *
      generalize a / p = qa at *
      generalize b / p = qb at *
      have e1 : p * 2 * (b + qa) = 2 * (p * b) + 2 * (qa * p) := by grind
      have e2 : ((n : Int) + 1) * (p * 2) = 2 * (n * p) + 2 * p := by grind
      have e3 : (qa + 1) * p = qa * p + p := by grind
      rw [e1, e2]
      rw [e3] at a2
      have np : 0 ≤ (n : Int) * p := Int.mul_nonneg (by omega) (by omega)
      refine ⟨by omega, by omega, by omega⟩
/-- how far the angle may be from nought -/
def Zs : Nat → Int
  | 0 => 0
  | n + 1 => Zs n + T n
theorem Zs_bd : ∀ n, n < 27 → 0 ≤ Zs n ∧ Zs n ≤ 99900000000 := by decide +kernel
theorem ang_bd (n : Nat) (s : Int × Int × Int) (h : s.2.2 = 0) (hn : n ≤ 26) : -Zs n ≤ (itrV n s).2.2 ∧ (itrV n s).2.2 ≤ Zs n := by
  induction n with
  | zero => simp [itrV, Zs]; omega
  | succ n ih =>
    have ih := ih (by omega)
    simp only [itrV, Zs, stpV]
    have t : 0 ≤ T n := by
      have h : ∀ j, j < 26 → 0 ≤ T j := by decide +kernel
      exact h n (by omega)
    split <;> simp only <;> omega
theorem qe_bd : ∀ n, n < 27 → 0 ≤ (qe n (2199023255552, 0)).2 ∧ (qe n (2199023255552, 0)).2 + (qe n (2199023255552, 0)).1 ≤ 4398046511104 := by decide +kernel
theorem qe_end : 1677721 * 2097152 ≤ (qe 26 (2199023255552, 0)).1 ∧ (qe 26 (2199023255552, 0)).2 ≤ 2000 := by decide +kernel
end Cx
namespace Go.Proofs.YtjajkgdbaefndaaDoor
open Go.RowKit Cx
set_option linter.unusedVariables false
theorem start_sc (u v : Int) : cx (u * 1048576, v * 1048576, 0) = sc 2199023255552 (sc (1 / 2097152) ⟨u, v⟩) := by
  have l : ((1048576 : Int) : Rat) = 1048576 := by decide +kernel
  unfold cx
  simp only [sc, Rat.intCast_mul, l]
  ext <;> simp only <;> grind
theorem start_ns (u v : Int) (h1 : 0 < u) (h2 : u ≤ 1048576) (h3 : -u ≤ v) (h4 : v ≤ u) : ns (sc (1 / 2097152) ⟨u, v⟩) ≤ 1 := by
  have n := small_ns u v (by omega) (by omega) (by omega) (by omega)
  rw [ns_sc]
  grind
/-- the state behind n rounds: bounds -/
theorem dir_bd (u v : Int) (h1 : 0 < u) (h2 : u ≤ 1048576) (h3 : -u ≤ v) (h4 : v ≤ u) (n : Nat) (hn : n ≤ 26) :
    (-4398046511104 ≤ (itrV n (u * 1048576, v * 1048576, 0)).1 ∧ (itrV n (u * 1048576, v * 1048576, 0)).1 ≤ 4398046511104) ∧ -4398046511104 ≤ (itrV n (u * 1048576, v * 1048576, 0)).2.1 ∧ (itrV n (u * 1048576, v * 1048576, 0)).2.1 ≤ 4398046511104 := by
  have h := nearV n hn (u * 1048576, v * 1048576, 0) 2199023255552 (by decide +kernel) (sc (1 / 2097152) ⟨u, v⟩) (start_ns u v h1 h2 h3 h4) 0 (by rw [start_sc]; exact Cl.refl _)
  have q := qe_bd n (by omega)
  generalize qe n (2199023255552, 0) = p at *
  have s := start_ns u v h1 h2 h3 h4
  generalize itrV n (u * 1048576, v * 1048576, 0) = t at *
  have k := ns_of_cl h.2 h.1 (by
    rw [ns_sc, ns_mul, ns_E wN ns_w]
    have := Rat.mul_le_mul_of_nonneg_left s (sq_nn p.1)
    grind)
  refine ns_bd (r := 4398046511104) (by omega) (Rat.le_trans k ?_)
  have l : ((4398046511104 : Int) : Rat) = 4398046511104 := by decide +kernel
  rw [l]
  exact mul_le_mul2 (by grind) (by grind) (by grind) (by grind)
/-- no overflow -/
theorem itrA_same (u v : Int) (h1 : 0 < u) (h2 : u ≤ 1048576) (h3 : -u ≤ v) (h4 : v ≤ u) (n : Nat) (hn : n ≤ 26) :
    itrA n (u * 1048576, v * 1048576, 0) = itrV n (u * 1048576, v * 1048576, 0) := by
  induction n with
  | zero => rfl
  | succ n ih =>
    have ih := ih (by omega)
    have b := dir_bd u v h1 h2 h3 h4 n (by omega)
    have z := ang_bd n (u * 1048576, v * 1048576, 0) rfl (by omega)
    have zb := Zs_bd n (by omega)
    have hT := T_bd n (by omega)
    simp only [itrA, itrV, ih]
    generalize itrV n (u * 1048576, v * 1048576, 0) = s at *
    obtain ⟨x, y, r⟩ := s
    simp only at b z
    have dx := div_bd x _ n b.1.1 b.1.2
    have dy := div_bd y _ n b.2.1 b.2.2
    unfold stpA stpV
    rw [tab_T]
    generalize x / 2 ^ n = qx at *
    generalize y / 2 ^ n = qy at *
    split
    · simp only
      rw [w_in (by omega) (by omega), w_in (by omega) (by omega), w_in (by omega) (by omega)]
    · simp only
      rw [w_in (by omega) (by omega), w_in (by omega) (by omega), w_in (by omega) (by omega)]
theorem part_le {k t B : Rat} (hk : 1677721 ≤ k) (hB : 0 ≤ B) (h : k * t ≤ 1677721 * B) : t ≤ B := by
  refine Rat.not_lt.mp fun hc => ?_
  have h1 : 1677721 * t ≤ k * t := Rat.mul_le_mul_of_nonneg_right hk (by grind)
  grind
/-- THE DIRECTION: turned back by it, a point lies nearly on the axis -/
theorem dir_near (u v : Int) (h1 : 0 < u) (h2 : u ≤ 1048576) (h3 : -u ≤ v) (h4 : v ≤ u) (z : Int) (hz : (itrV 26 (u * 1048576, v * 1048576, 0)).2.2 = z) :
    (mul ⟨u, v⟩ (E wN (-z))).im ≤ 1 / 10 ∧ -(1 / 10) ≤ (mul ⟨u, v⟩ (E wN (-z))).im ∧ -(1 / 10) ≤ (mul ⟨u, v⟩ (E wN (-z))).re := by
  have h := nearV 26 (Nat.le_refl _) (u * 1048576, v * 1048576, 0) 2199023255552 (by decide +kernel) (sc (1 / 2097152) ⟨u, v⟩) (start_ns u v h1 h2 h3 h4) 0 (by rw [start_sc]; exact Cl.refl _)
  have q := qe_bd 26 (by omega)
  have q2 := qe_end
  have b := dir_bd u v h1 h2 h3 h4 26 (by omega)
  have sl := slope (u * 1048576, v * 1048576, 0) (by simp only; omega) (by simp only; omega) (by simp only; omega) 26
  generalize qe 26 (2199023255552, 0) = p at *
  generalize itrV 26 (u * 1048576, v * 1048576, 0) = t at *
  have ez : (u * 1048576, v * 1048576, (0 : Int)).2.2 - t.2.2 = -z := by simp only; omega
  rw [ez] at h
  generalize E wN (-z) = y at *
  have e1 : sc p.1 (mul (sc (1 / 2097152) ⟨u, v⟩) y) = sc (p.1 * (1 / 2097152)) (mul ⟨u, v⟩ y) := by simp only [mul, sc]; ext <;> simp only <;> grind
  rw [e1] at h
  generalize mul ⟨u, v⟩ y = W at *
  have hi := h.2.im
  have hr := h.2.re
  simp only [sc, cx] at hi hr
  have hk : 1677721 ≤ p.1 * (1 / 2097152) := by grind
  generalize p.1 * (1 / 2097152) = k at *
  have l26 : (2 : Int) ^ 26 = 67108864 := by decide
  rw [l26] at sl
  have i1 : t.2.1 ≤ 131200 := by omega
  have i2 : -131200 ≤ t.2.1 := by omega
  have j1 := Rat.intCast_le_intCast.mpr i1
  have j2 := Rat.intCast_le_intCast.mpr i2
  have j3 := Rat.intCast_le_intCast.mpr sl.1
  have l1 : ((131200 : Int) : Rat) = 131200 := by decide +kernel
  have l2 : ((-131200 : Int) : Rat) = -131200 := by decide +kernel
  have l3 : ((0 : Int) : Rat) = 0 := by decide +kernel
  rw [l1] at j1
  rw [l2] at j2
  rw [l3] at j3
  have q3 := q2.2
  refine ⟨part_le hk (by decide +kernel) (by grind), ?_, ?_⟩
  · have := part_le (t := -W.im) (B := 1 / 10) hk (by decide +kernel) (by grind)
    grind
  · have := part_le (t := -W.re) (B := 1 / 10) hk (by decide +kernel) (by grind)
    grind
/-- the distance, rounded, lies near the point turned back -/
theorem dist_near {W : C} {N : Int} {r : Nat} (hN : 1 ≤ N) (hW : ns W = N) (hr : SQ 2 N.toNat r) (i1 : W.im ≤ 1 / 10) (i2 : -(1 / 10) ≤ W.im) (i3 : -(1 / 10) ≤ W.re) : Cl ⟨((r : Int) : Rat), ((0 : Int) : Rat)⟩ W (7 / 10) := by
  have a := root_rat (by omega) hr
  have l3 : ((0 : Int) : Rat) = 0 := by decide +kernel
  have cN : (1 : Rat) ≤ N := by
    have := Rat.intCast_le_intCast.mpr hN
    have l1 : ((1 : Int) : Rat) = 1 := by decide +kernel
    rwa [l1] at this
  have e0 : ((r : Int) : Rat) = (r : Rat) := Rat.intCast_natCast r
  have r0 : (0 : Rat) ≤ r := Rat.natCast_nonneg
  rw [← hW] at a cN
  simp only [ns] at a cN
  have si := sq_nn W.im
  have sr := sq_nn W.re
  have sm : W.im * W.im ≤ 1 / 100 := by
    have := Rat.mul_nonneg (a := 1 / 10 - W.im) (b := 1 / 10 + W.im) (by grind) (by grind)
    grind
  have w0 : 0 ≤ W.re := by
    refine Rat.not_lt.mp fun hc => ?_
    have := Rat.mul_nonneg (a := 1 / 10 + W.re) (b := 1 / 10 - W.re) (by grind) (by grind)
    grind
  have u1 : W.re ≤ r + 1 / 2 := le_of_sq (by grind) (by grind)
  have u2 : (r : Rat) - 1 / 2 ≤ W.re + 1 / 10 := by
    rcases a.2 with h | h
    · subst h
      have : ((0 : Nat) : Rat) = 0 := rfl
      grind
    · refine le_of_sq (by grind) ?_
      have := Rat.mul_nonneg (a := 1 / 5) (b := W.re) (by decide +kernel) w0
      grind
  refine Cl.of_parts (p := 6 / 10) (q := 1 / 10) ?_ ?_ ?_ ?_ (by decide +kernel) (by decide +kernel) <;> simp only [e0, l3] <;> grind
end Go.Proofs.YtjajkgdbaefndaaDoor
