/- Proved here: plain facts of the points of a corner: where they lie, how the direction changes, how near they are to the two lines; no program in sight. -/
import Derived.Test.YtdjopepipcnmdaaBk5
namespace Go.Proofs.Ytdjopepipcnmdaa
open Go.RowKit
set_option linter.unusedVariables false
set_option linter.unusedSimpArgs false
theorem acl (a b : Int) : a + b - a = b := by omega
theorem sqD_comm (a0 a1 a2 b0 b1 b2 : Int) : sqD a0 a1 a2 b0 b1 b2 = sqD b0 b1 b2 a0 a1 a2 := by unfold sqD; grind
theorem len_two {D r : Int} (h0 : 0 ≤ D) (h1 : D ≤ 13510798882111488) (hr : 16 ≤ r) (h : r ≤ sqV D 1 - 2) : r * r ≤ D := by
  obtain ⟨m, hm, _, _, h4⟩ := len_facts D h0 h1
  rw [hm] at h
  rcases h4 with h4 | h4
  · omega
  · have := Int.mul_le_mul (show r ≤ (m : Int) - 1 by omega) (show r ≤ (m : Int) - 1 by omega) (by omega) (by omega)
    omega
theorem sqD_bd {a0 a1 a2 c0 c1 c2 : Int} (ha : Pk a0 a1 a2) (hc : Pk c0 c1 c2) : 0 ≤ sqD a0 a1 a2 c0 c1 c2 ∧ sqD a0 a1 a2 c0 c1 c2 ≤ 13510798882111488 := by
  obtain ⟨x1, x2, x3, x4, x5, x6⟩ := hc
  obtain ⟨y1, y2, y3, y4, y5, y6⟩ := ha
  have q0 := sq_bdK (x := a0 - c0) (by omega) (by omega)
  have q1 := sq_bdK (x := a1 - c1) (by omega) (by omega)
  have q2 := sq_bdK (x := a2 - c2) (by omega) (by omega)
  unfold sqD; omega
/-- one arm of a corner: the vector to the reach, as integers -/
structure Arm (a0 a1 a2 c0 c1 c2 d X0 X1 X2 : Int) : Prop where
  e0 : X0 = nrI (a0 - c0) d (sqD a0 a1 a2 c0 c1 c2)
  e1 : X1 = nrI (a1 - c1) d (sqD a0 a1 a2 c0 c1 c2)
  e2 : X2 = nrI (a2 - c2) d (sqD a0 a1 a2 c0 c1 c2)
  d0 : 16 ≤ d
  d1 : d ≤ 33554432
  n1 : 1 ≤ sqD a0 a1 a2 c0 c1 c2
  dn : d * d ≤ sqD a0 a1 a2 c0 c1 c2
theorem Arm.nat {a0 a1 a2 c0 c1 c2 d X0 X1 X2 : Int} (h : Arm a0 a1 a2 c0 c1 c2 d X0 X1 X2) : ∃ D N : Nat, d = D ∧ sqD a0 a1 a2 c0 c1 c2 = N ∧ D ≤ 33554432 ∧ 1 ≤ N ∧ D * D ≤ N := by
  obtain ⟨D, rfl⟩ := Int.eq_ofNat_of_zero_le (show 0 ≤ d by have := h.d0; omega)
  obtain ⟨N, hN⟩ := Int.eq_ofNat_of_zero_le (show 0 ≤ sqD a0 a1 a2 c0 c1 c2 by have := h.n1; omega)
  have h1 := h.d1
  have h2 := h.n1
  have h3 := h.dn
  rw [hN] at h2 h3
  exact ⟨D, N, rfl, hN, by omega, by omega, by rw [← Int.natCast_mul] at h3; omega⟩
theorem Arm.hull {a0 a1 a2 c0 c1 c2 d X0 X1 X2 : Int} (h : Arm a0 a1 a2 c0 c1 c2 d X0 X1 X2) (ha : Pk a0 a1 a2) (hc : Pk c0 c1 c2) :
    ((0 ≤ X0 ∧ X0 ≤ a0 - c0) ∨ (a0 - c0 ≤ X0 ∧ X0 ≤ 0)) ∧ ((0 ≤ X1 ∧ X1 ≤ a1 - c1) ∨ (a1 - c1 ≤ X1 ∧ X1 ≤ 0)) ∧ ((0 ≤ X2 ∧ X2 ≤ a2 - c2) ∨ (a2 - c2 ≤ X2 ∧ X2 ≤ 0)) := by
  obtain ⟨x1, x2, x3, x4, x5, x6⟩ := hc
  obtain ⟨y1, y2, y3, y4, y5, y6⟩ := ha
  obtain ⟨D, N, rfl, hN, k1, k2, k3⟩ := h.nat
  rw [h.e0, h.e1, h.e2, hN]
  exact ⟨nr_hull (a0 - c0) D N (by omega) k1 k2 k3, nr_hull (a1 - c1) D N (by omega) k1 k2 k3, nr_hull (a2 - c2) D N (by omega) k1 k2 k3⟩
/-- the points of a corner that is cut, by its two arms -/
structure Cut (a0 a1 a2 c0 c1 c2 b0 b1 b2 tol r : Int) (L : Nat) (F : Nat → Nat → Int) (n : Nat) (X0 X1 X2 Y0 Y1 Y2 : Int) : Prop where
  armA : Arm a0 a1 a2 c0 c1 c2 r X0 X1 X2
  armB : Arm b0 b1 b2 c0 c1 c2 r Y0 Y1 Y2
  len : L = n + 1
  num : n = 2 ∨ n = 4 ∨ n = 8 ∨ n = 16 ∨ n = 32 ∨ n = 64
  f0 : ∀ i, F i 0 = c0 + coI n X0 Y0 i
  f1 : ∀ i, F i 1 = c1 + coI n X1 Y1 i
  f2 : ∀ i, F i 2 = c2 + coI n X2 Y2 i
  tolB : (X0 + Y0) * (X0 + Y0) + (X1 + Y1) * (X1 + Y1) + (X2 + Y2) * (X2 + Y2) ≤ 16 * tol * tol
  pcs : (n : Int) = pcV ((X0 + Y0) * (X0 + Y0) + (X1 + Y1) * (X1 + Y1) + (X2 + Y2) * (X2 + Y2))
  mo : r ≤ moI a0 a1 a2 c0 c1 c2 b0 b1 b2
theorem bnE_sum (a0 a1 a2 c0 c1 c2 b0 b1 b2 d X0 X1 X2 Y0 Y1 Y2 : Int) (e0 : X0 = nrI (a0 - c0) d (sqD a0 a1 a2 c0 c1 c2)) (e1 : X1 = nrI (a1 - c1) d (sqD a0 a1 a2 c0 c1 c2)) (e2 : X2 = nrI (a2 - c2) d (sqD a0 a1 a2 c0 c1 c2)) (g0 : Y0 = nrI (b0 - c0) d (sqD b0 b1 b2 c0 c1 c2)) (g1 : Y1 = nrI (b1 - c1) d (sqD b0 b1 b2 c0 c1 c2)) (g2 : Y2 = nrI (b2 - c2) d (sqD b0 b1 b2 c0 c1 c2)) :
    bnE a0 a1 a2 c0 c1 c2 b0 b1 b2 d = (X0 + Y0) * (X0 + Y0) + (X1 + Y1) * (X1 + Y1) + (X2 + Y2) * (X2 + Y2) := by
  unfold bnE bnD
  rw [← e0, ← e1, ← e2, ← g0, ← g1, ← g2, show c0 + X0 + (c0 + Y0) - 2 * c0 = X0 + Y0 by omega, show c1 + X1 + (c1 + Y1) - 2 * c1 = X1 + Y1 by omega, show c2 + X2 + (c2 + Y2) - 2 * c2 = X2 + Y2 by omega]
theorem Cnr.cut {a0 a1 a2 c0 c1 c2 b0 b1 b2 tol r : Int} {L : Nat} {F : Nat → Nat → Int} (h : Cnr a0 a1 a2 c0 c1 c2 b0 b1 b2 tol r L F) (ha : Pk a0 a1 a2) (hc : Pk c0 c1 c2) (hb : Pk b0 b1 b2) :
    (r = 0 ∧ L = 1 ∧ ∀ i, F i 0 = c0 ∧ F i 1 = c1 ∧ F i 2 = c2) ∨ ∃ (n : Nat) (X0 X1 X2 Y0 Y1 Y2 : Int), Cut a0 a1 a2 c0 c1 c2 b0 b1 b2 tol r L F n X0 X1 X2 Y0 Y1 Y2 := by
  cases h with
  | none h1 h2 h3 => subst h3; exact Or.inl ⟨h1, h2, fun i => ⟨rfl, rfl, rfl⟩⟩
  | some sa sb h0 hr hL hF =>
    have hf := rcI_facts (hr ▸ h0)
    rw [← hr] at hf
    obtain ⟨h16, hmax, hmo, hbn⟩ := hf
    have qa := sqD_bd ha hc
    have qb := sqD_bd hb hc
    have ha2 := len_two qa.1 qa.2 h16 (by unfold moI at hmo; omega)
    have hb2 := len_two (D := sqD b0 b1 b2 c0 c1 c2) qb.1 qb.2 h16 (by rw [sqD_comm]; unfold moI at hmo; omega)
    refine Or.inr ⟨crN a0 a1 a2 c0 c1 c2 b0 b1 b2 r, _, _, _, _, _, _, ⟨⟨rfl, rfl, rfl, h16, hmax, sameB_f sa, ha2⟩, ⟨rfl, rfl, rfl, h16, hmax, sameB_f sb, hb2⟩, hL, crN_cases _ _ _ _ _ _ _ _ _ _, fun i => ?_, fun i => ?_, fun i => ?_, ?_, ?_, hmo⟩⟩
    · subst hF; unfold crF coF; rw [acl c0, acl c0]; rfl
    · subst hF; unfold crF coF; rw [acl c1, acl c1]; rfl
    · subst hF; unfold crF coF; rw [acl c2, acl c2]; rfl
    · rw [← bnE_sum a0 a1 a2 c0 c1 c2 b0 b1 b2 r _ _ _ _ _ _ rfl rfl rfl rfl rfl rfl]; exact hbn
    · rw [crN_cast, bnE_sum a0 a1 a2 c0 c1 c2 b0 b1 b2 r _ _ _ _ _ _ rfl rfl rfl rfl rfl rfl]
theorem pcV_up {D : Int} (h : D ≤ 4294967296) : D ≤ 256 * (pcV D * pcV D * (pcV D * pcV D)) := by
  unfold pcV; (repeat' split) <;> omega
theorem Cut.hull {a0 a1 a2 c0 c1 c2 b0 b1 b2 tol r : Int} {L : Nat} {F : Nat → Nat → Int} {n : Nat} {X0 X1 X2 Y0 Y1 Y2 : Int} (h : Cut a0 a1 a2 c0 c1 c2 b0 b1 b2 tol r L F n X0 X1 X2 Y0 Y1 Y2) (ha : Pk a0 a1 a2) (hc : Pk c0 c1 c2) (hb : Pk b0 b1 b2) {i : Nat} (hi : i < L) : Pk (F i 0) (F i 1) (F i 2) := by
  obtain ⟨A0, A1, A2⟩ := h.armA.hull ha hc
  obtain ⟨B0, B1, B2⟩ := h.armB.hull hb hc
  obtain ⟨x1, x2, x3, x4, x5, x6⟩ := hc
  obtain ⟨y1, y2, y3, y4, y5, y6⟩ := ha
  obtain ⟨z1, z2, z3, z4, z5, z6⟩ := hb
  have hn := h.num
  have hl := h.len
  have u0 := coI_le (n := n) (x := X0) (y := Y0) (i := i) (hi := 33554432 - c0) (by omega) (by omega) (by omega) (by omega) (by omega) (by omega)
  have u1 := coI_le (n := n) (x := X1) (y := Y1) (i := i) (hi := 33554432 - c1) (by omega) (by omega) (by omega) (by omega) (by omega) (by omega)
  have u2 := coI_le (n := n) (x := X2) (y := Y2) (i := i) (hi := 33554432 - c2) (by omega) (by omega) (by omega) (by omega) (by omega) (by omega)
  have v0 := coI_neg_bound (n := n) (x := X0) (y := Y0) (i := i) (lo := -33554432 - c0) (by omega) (by omega) (by omega) (by omega) (by omega) (by omega)
  have v1 := coI_neg_bound (n := n) (x := X1) (y := Y1) (i := i) (lo := -33554432 - c1) (by omega) (by omega) (by omega) (by omega) (by omega) (by omega)
  have v2 := coI_neg_bound (n := n) (x := X2) (y := Y2) (i := i) (lo := -33554432 - c2) (by omega) (by omega) (by omega) (by omega) (by omega) (by omega)
  rw [h.f0, h.f1, h.f2]
  exact ⟨by omega, by omega, by omega, by omega, by omega, by omega⟩
theorem Cut.smooth {a0 a1 a2 c0 c1 c2 b0 b1 b2 tol r : Int} {L : Nat} {F : Nat → Nat → Int} {n : Nat} {X0 X1 X2 Y0 Y1 Y2 : Int} (h : Cut a0 a1 a2 c0 c1 c2 b0 b1 b2 tol r L F n X0 X1 X2 Y0 Y1 Y2) (ht : 0 ≤ tol) (ht2 : tol ≤ 16000) (i : Nat) :
    bnD (F i 0) (F i 1) (F i 2) (F (i + 1) 0) (F (i + 1) 1) (F (i + 1) 2) (F (i + 2) 0) (F (i + 2) 1) (F (i + 2) 2) ≤ 1296 := by
  have hn := h.num
  have ht3 : 16 * tol * tol ≤ 4294967296 := by
    have := Int.mul_le_mul ht2 ht2 ht (by decide)
    rw [Int.mul_assoc]; omega
  have hp := pcV_up (Int.le_trans h.tolB ht3)
  rw [← h.pcs] at hp
  have k := smooth3 (n := n) (x0 := X0) (y0 := Y0) (x1 := X1) (y1 := Y1) (x2 := X2) (y2 := Y2) (i := i) (by omega) hp
  unfold bnD
  rw [h.f0, h.f1, h.f2, h.f0, h.f1, h.f2, h.f0, h.f1, h.f2]
  rw [show ((i + 1 : Nat) : Int) = (i : Int) + 1 by rfl, show ((i + 2 : Nat) : Int) = (i : Int) + 2 by rfl]
  rw [show c0 + coI n X0 Y0 i + (c0 + coI n X0 Y0 (i + 2)) - 2 * (c0 + coI n X0 Y0 (i + 1)) = coI n X0 Y0 i + coI n X0 Y0 (i + 2) - 2 * coI n X0 Y0 (i + 1) by omega,
    show c1 + coI n X1 Y1 i + (c1 + coI n X1 Y1 (i + 2)) - 2 * (c1 + coI n X1 Y1 (i + 1)) = coI n X1 Y1 i + coI n X1 Y1 (i + 2) - 2 * coI n X1 Y1 (i + 1) by omega,
    show c2 + coI n X2 Y2 i + (c2 + coI n X2 Y2 (i + 2)) - 2 * (c2 + coI n X2 Y2 (i + 1)) = coI n X2 Y2 i + coI n X2 Y2 (i + 2) - 2 * coI n X2 Y2 (i + 1) by omega]
  exact k
/-- p lies within e of the segment from a to b, as the reference reckons it -/
structure Seg (a0 a1 a2 b0 b1 b2 p0 p1 p2 e : Int) : Prop where
  near : (b0 - a0) * (p0 - a0) + (b1 - a1) * (p1 - a1) + (b2 - a2) * (p2 - a2) ≤ 0 → (p0 - a0) * (p0 - a0) + (p1 - a1) * (p1 - a1) + (p2 - a2) * (p2 - a2) ≤ e * e
  far : (b0 - a0) * (b0 - a0) + (b1 - a1) * (b1 - a1) + (b2 - a2) * (b2 - a2) ≤ (b0 - a0) * (p0 - a0) + (b1 - a1) * (p1 - a1) + (b2 - a2) * (p2 - a2) → sqD b0 b1 b2 p0 p1 p2 ≤ e * e
  mid : ((p0 - a0) * (p0 - a0) + (p1 - a1) * (p1 - a1) + (p2 - a2) * (p2 - a2) - e * e) * ((b0 - a0) * (b0 - a0) + (b1 - a1) * (b1 - a1) + (b2 - a2) * (b2 - a2)) ≤ ((b0 - a0) * (p0 - a0) + (b1 - a1) * (p1 - a1) + (b2 - a2) * (p2 - a2)) * ((b0 - a0) * (p0 - a0) + (b1 - a1) * (p1 - a1) + (b2 - a2) * (p2 - a2))
theorem seg_of {a0 a1 a2 b0 b1 b2 p0 p1 p2 e M h : Int} (hM : 1 ≤ M) (h0 : 0 ≤ h) (h1 : h ≤ M)
    (hq : (M * (p0 - a0) - h * (b0 - a0)) * (M * (p0 - a0) - h * (b0 - a0)) + (M * (p1 - a1) - h * (b1 - a1)) * (M * (p1 - a1) - h * (b1 - a1)) + (M * (p2 - a2) - h * (b2 - a2)) * (M * (p2 - a2) - h * (b2 - a2)) ≤ M * M * (e * e)) : Seg a0 a1 a2 b0 b1 b2 p0 p1 p2 e := by
  have k := seg3 hM h0 h1 hq
  refine ⟨k.1, fun g => ?_, k.2.2⟩
  have := k.2.1 g
  rw [show b0 - a0 - (p0 - a0) = b0 - p0 by omega, show b1 - a1 - (p1 - a1) = b1 - p1 by omega, show b2 - a2 - (p2 - a2) = b2 - p2 by omega] at this
  exact this
theorem Cut.dev {a0 a1 a2 c0 c1 c2 b0 b1 b2 tol r : Int} {L : Nat} {F : Nat → Nat → Int} {n : Nat} {X0 X1 X2 Y0 Y1 Y2 : Int} (h : Cut a0 a1 a2 c0 c1 c2 b0 b1 b2 tol r L F n X0 X1 X2 Y0 Y1 Y2) (ha : Pk a0 a1 a2) (hc : Pk c0 c1 c2) (hb : Pk b0 b1 b2) (ht : 0 ≤ tol) {i : Nat} (hi : i < L) :
    Seg a0 a1 a2 c0 c1 c2 (F i 0) (F i 1) (F i 2) (tol + 2) ∨ Seg c0 c1 c2 b0 b1 b2 (F i 0) (F i 1) (F i 2) (tol + 2) := by
  have hn := h.num
  have hl := h.len
  have hS := h.tolB
  rw [h.f0, h.f1, h.f2]
  by_cases h2 : 2 * i ≤ n
  · left
    obtain ⟨D, N, rfl, hN, k1, k2, k3⟩ := h.armA.nat
    have e0 := h.armA.e0
    have e1 := h.armA.e1
    have e2 := h.armA.e2
    rw [hN] at e0 e1 e2
    obtain ⟨x1, x2, x3, x4, x5, x6⟩ := hc
    obtain ⟨y1, y2, y3, y4, y5, y6⟩ := ha
    rw [e0, e1, e2] at hS
    obtain ⟨M, k, hM, q0, q1, hq⟩ := dev3 (x0 := a0 - c0) (x1 := a1 - c1) (x2 := a2 - c2) (y0 := Y0) (y1 := Y1) (y2 := Y2) (n := n) (i := i) (tol := tol) k1 k2 k3 (by omega) (by omega) (by omega) ht (by omega) (by omega) (by omega) hS
    rw [← e0, ← e1, ← e2] at hq
    refine seg_of (M := M) (h := M - k) hM (by omega) (by omega) (Int.le_trans (Int.le_of_eq ?_) hq)
    generalize coI n X0 Y0 i = v0
    generalize coI n X1 Y1 i = v1
    generalize coI n X2 Y2 i = v2
    grind
  · right
    obtain ⟨D, N, rfl, hN, k1, k2, k3⟩ := h.armB.nat
    have e0 := h.armB.e0
    have e1 := h.armB.e1
    have e2 := h.armB.e2
    rw [hN] at e0 e1 e2
    obtain ⟨x1, x2, x3, x4, x5, x6⟩ := hc
    obtain ⟨y1, y2, y3, y4, y5, y6⟩ := hb
    rw [Int.add_comm X0, Int.add_comm X1, Int.add_comm X2, e0, e1, e2] at hS
    obtain ⟨M, k, hM, q0, q1, hq⟩ := dev3 (x0 := b0 - c0) (x1 := b1 - c1) (x2 := b2 - c2) (y0 := X0) (y1 := X1) (y2 := X2) (n := n) (i := n - i) (tol := tol) k1 k2 k3 (by omega) (by omega) (by omega) ht (by omega) (by omega) (by omega) hS
    rw [← e0, ← e1, ← e2, coI_sym, coI_sym, coI_sym] at hq
    refine seg_of (M := M) (h := k) hM q0 q1 (Int.le_trans (Int.le_of_eq ?_) hq)
    generalize coI n X0 Y0 i = v0
    generalize coI n X1 Y1 i = v1
    generalize coI n X2 Y2 i = v2
    rw [show c0 + v0 - c0 = v0 by omega, show c1 + v1 - c1 = v1 by omega, show c2 + v2 - c2 = v2 by omega]
end Go.Proofs.Ytdjopepipcnmdaa
