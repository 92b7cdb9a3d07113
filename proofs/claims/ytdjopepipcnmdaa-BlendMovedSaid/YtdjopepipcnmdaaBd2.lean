/- Proved here: the point at a distance from a corner, as the reference computes it; the program gives the same; ranges as stated. -/
import Derived.Test.YtdjopepipcnmdaaBd1
namespace Go.Proofs.Ytdjopepipcnmdaa
open Go.RowKit
set_option linter.unusedVariables false
set_option linter.unusedSimpArgs false
set_option maxHeartbeats 4000000 in
set_option maxRecDepth 20000 in
theorem towardR_zero (c0 c1 c2 a0 a1 a2 d : Int) (w : World) (hc : Pk c0 c1 c2) (ha : Pk a0 a1 a2) (hz : sqD a0 a1 a2 c0 c1 c2 = 0) :
    Calls Try.prog 15 #[.agg #[.int .i64 c0, .int .i64 c1, .int .i64 c2], .agg #[.int .i64 a0, .int .i64 a1, .int .i64 a2], .int .i64 d] w fun e w' => e = .returned (.tuple #[.agg #[.int .i64 0, .int .i64 0, .int .i64 0], .bool false]) ∧ Below w.heap.size w w' := by
  obtain ⟨x1, x2, x3, x4, x5, x6⟩ := hc
  obtain ⟨z1, z2, z3, z4, z5, z6⟩ := ha
  have SQ := fun w => Lib.hid (square_any a0 a1 a2 c0 c1 c2 w (by omega) (by omega) (by omega))
  have hT : Lf w.heap.size (w.heap.size + 1 + 1 + 1) [(⟨w.heap.size, 0, none⟩, .int .i64 c0), (⟨w.heap.size, 1, none⟩, .int .i64 c1), (⟨w.heap.size, 2, none⟩, .int .i64 c2), (⟨w.heap.size + 1, 0, none⟩, .int .i64 a0), (⟨w.heap.size + 1, 1, none⟩, .int .i64 a1), (⟨w.heap.size + 1, 2, none⟩, .int .i64 a2), (⟨w.heap.size + 1 + 1, 0, none⟩, .int .i64 0), (⟨w.heap.size + 1 + 1, 1, none⟩, .int .i64 0), (⟨w.heap.size + 1 + 1, 2, none⟩, .int .i64 0)] w (((w.alloc (.cells #[.int .i64 c0, .int .i64 c1, .int .i64 c2] 23)).alloc (.cells #[.int .i64 a0, .int .i64 a1, .int .i64 a2] 23)).alloc (.cells #[.int .i64 0, .int .i64 0, .int .i64 0] 23)) :=
    ⟨by simp [List.forall_mem_cons, go_sem], by simp [List.forall_mem_cons, go_sem], by simp [List.forall_mem_cons] <;> omega, by simp, by (repeat (first | exact Below.refl _ _ | assumption | refine Below.drew ?_ | (refine Below.alloc ?_ (by simp <;> omega) _) | (refine Below.setCell ?_ (by simp <;> omega) _))), by omega⟩
  rw [hz] at SQ
  clear hz
  go_enter Try.func15, Try.ntmps15
  go_wp2_with fail
  refine (SQ _).out.mono ?_
  rintro e w1 ⟨rfl, hb1⟩
  have hT := hT.next hb1
  have kc := hT.cells
  have kf := hT.frz
  simp only [List.forall_mem_cons, List.not_mem_nil, false_implies, implies_true, and_true] at kc kf
  obtain ⟨yc0, yc1, yc2, yc3, yc4, yc5, yc6, yc7, yc8⟩ := kc
  obtain ⟨yf0, yf1, yf2, yf3, yf4, yf5, yf6, yf7, yf8⟩ := kf
  go_wp2_with fail
  refine bodyPost_ret (v := .tuple #[.agg #[.int .i64 0, .int .i64 0, .int .i64 0], .bool false]) (by simp [results, Try.results15, go_sem, *]) rfl ⟨rfl, ?_⟩
  exact ((hT.be.setCell (by simp; omega) _).setCell (by simp; omega) _).setCell (by simp; omega) _
set_option maxHeartbeats 4000000 in
set_option maxRecDepth 20000 in
theorem towardR_neg (c0 c1 c2 a0 a1 a2 d : Int) (w : World) (hc : Pk c0 c1 c2) (ha : Pk a0 a1 a2) (hd : d < 0) :
    Calls Try.prog 15 #[.agg #[.int .i64 c0, .int .i64 c1, .int .i64 c2], .agg #[.int .i64 a0, .int .i64 a1, .int .i64 a2], .int .i64 d] w fun e w' => e = .returned (.tuple #[.agg #[.int .i64 0, .int .i64 0, .int .i64 0], .bool false]) ∧ Below w.heap.size w w' := by
  obtain ⟨x1, x2, x3, x4, x5, x6⟩ := hc
  obtain ⟨z1, z2, z3, z4, z5, z6⟩ := ha
  have SQ := fun w => Lib.hid (square_any a0 a1 a2 c0 c1 c2 w (by omega) (by omega) (by omega))
  have hT : Lf w.heap.size (w.heap.size + 1 + 1 + 1) [(⟨w.heap.size, 0, none⟩, .int .i64 c0), (⟨w.heap.size, 1, none⟩, .int .i64 c1), (⟨w.heap.size, 2, none⟩, .int .i64 c2), (⟨w.heap.size + 1, 0, none⟩, .int .i64 a0), (⟨w.heap.size + 1, 1, none⟩, .int .i64 a1), (⟨w.heap.size + 1, 2, none⟩, .int .i64 a2), (⟨w.heap.size + 1 + 1, 0, none⟩, .int .i64 0), (⟨w.heap.size + 1 + 1, 1, none⟩, .int .i64 0), (⟨w.heap.size + 1 + 1, 2, none⟩, .int .i64 0)] w (((w.alloc (.cells #[.int .i64 c0, .int .i64 c1, .int .i64 c2] 23)).alloc (.cells #[.int .i64 a0, .int .i64 a1, .int .i64 a2] 23)).alloc (.cells #[.int .i64 0, .int .i64 0, .int .i64 0] 23)) :=
    ⟨by simp [List.forall_mem_cons, go_sem], by simp [List.forall_mem_cons, go_sem], by simp [List.forall_mem_cons] <;> omega, by simp, by (repeat (first | exact Below.refl _ _ | assumption | refine Below.drew ?_ | (refine Below.alloc ?_ (by simp <;> omega) _) | (refine Below.setCell ?_ (by simp <;> omega) _))), by omega⟩
  generalize sqD a0 a1 a2 c0 c1 c2 = D at *
  by_cases hz : D = 0
  · subst hz
    go_enter Try.func15, Try.ntmps15
    go_wp2_with fail
    refine (SQ _).out.mono ?_
    rintro e w1 ⟨rfl, hb1⟩
    have hT := hT.next hb1
    have kc := hT.cells
    have kf := hT.frz
    simp only [List.forall_mem_cons, List.not_mem_nil, false_implies, implies_true, and_true] at kc kf
    obtain ⟨yc0, yc1, yc2, yc3, yc4, yc5, yc6, yc7, yc8⟩ := kc
    obtain ⟨yf0, yf1, yf2, yf3, yf4, yf5, yf6, yf7, yf8⟩ := kf
    go_wp2_with fail
    refine bodyPost_ret (v := .tuple #[.agg #[.int .i64 0, .int .i64 0, .int .i64 0], .bool false]) (by simp [results, Try.results15, go_sem, *]) rfl ⟨rfl, ?_⟩
    exact ((hT.be.setCell (by simp; omega) _).setCell (by simp; omega) _).setCell (by simp; omega) _
  · have hz2 : (D == 0) = false := by simp; exact hz
    clear hz
    go_enter Try.func15, Try.ntmps15
    go_wp2_with fail
    refine (SQ _).out.mono ?_
    rintro e w1 ⟨rfl, hb1⟩
    have hT := hT.next hb1
    have kc := hT.cells
    have kf := hT.frz
    simp only [List.forall_mem_cons, List.not_mem_nil, false_implies, implies_true, and_true] at kc kf
    obtain ⟨yc0, yc1, yc2, yc3, yc4, yc5, yc6, yc7, yc8⟩ := kc
    obtain ⟨yf0, yf1, yf2, yf3, yf4, yf5, yf6, yf7, yf8⟩ := kf
    go_wp2_with fail
    refine bodyPost_ret (v := .tuple #[.agg #[.int .i64 0, .int .i64 0, .int .i64 0], .bool false]) (by simp [results, Try.results15, go_sem, *]) rfl ⟨rfl, ?_⟩
    exact ((hT.be.setCell (by simp; omega) _).setCell (by simp; omega) _).setCell (by simp; omega) _
set_option maxHeartbeats 4000000 in
set_option maxRecDepth 20000 in
theorem towardR_big (c0 c1 c2 a0 a1 a2 d : Int) (w : World) (hc : Pk c0 c1 c2) (ha : Pk a0 a1 a2) (hd : 33554432 < d) :
    Calls Try.prog 15 #[.agg #[.int .i64 c0, .int .i64 c1, .int .i64 c2], .agg #[.int .i64 a0, .int .i64 a1, .int .i64 a2], .int .i64 d] w fun e w' => e = .returned (.tuple #[.agg #[.int .i64 0, .int .i64 0, .int .i64 0], .bool false]) ∧ Below w.heap.size w w' := by
  obtain ⟨x1, x2, x3, x4, x5, x6⟩ := hc
  obtain ⟨z1, z2, z3, z4, z5, z6⟩ := ha
  have SQ := fun w => Lib.hid (square_any a0 a1 a2 c0 c1 c2 w (by omega) (by omega) (by omega))
  have hT : Lf w.heap.size (w.heap.size + 1 + 1 + 1) [(⟨w.heap.size, 0, none⟩, .int .i64 c0), (⟨w.heap.size, 1, none⟩, .int .i64 c1), (⟨w.heap.size, 2, none⟩, .int .i64 c2), (⟨w.heap.size + 1, 0, none⟩, .int .i64 a0), (⟨w.heap.size + 1, 1, none⟩, .int .i64 a1), (⟨w.heap.size + 1, 2, none⟩, .int .i64 a2), (⟨w.heap.size + 1 + 1, 0, none⟩, .int .i64 0), (⟨w.heap.size + 1 + 1, 1, none⟩, .int .i64 0), (⟨w.heap.size + 1 + 1, 2, none⟩, .int .i64 0)] w (((w.alloc (.cells #[.int .i64 c0, .int .i64 c1, .int .i64 c2] 23)).alloc (.cells #[.int .i64 a0, .int .i64 a1, .int .i64 a2] 23)).alloc (.cells #[.int .i64 0, .int .i64 0, .int .i64 0] 23)) :=
    ⟨by simp [List.forall_mem_cons, go_sem], by simp [List.forall_mem_cons, go_sem], by simp [List.forall_mem_cons] <;> omega, by simp, by (repeat (first | exact Below.refl _ _ | assumption | refine Below.drew ?_ | (refine Below.alloc ?_ (by simp <;> omega) _) | (refine Below.setCell ?_ (by simp <;> omega) _))), by omega⟩
  generalize sqD a0 a1 a2 c0 c1 c2 = D at *
  by_cases hz : D = 0
  · subst hz
    go_enter Try.func15, Try.ntmps15
    go_wp2_with fail
    refine (SQ _).out.mono ?_
    rintro e w1 ⟨rfl, hb1⟩
    have hT := hT.next hb1
    have kc := hT.cells
    have kf := hT.frz
    simp only [List.forall_mem_cons, List.not_mem_nil, false_implies, implies_true, and_true] at kc kf
    obtain ⟨yc0, yc1, yc2, yc3, yc4, yc5, yc6, yc7, yc8⟩ := kc
    obtain ⟨yf0, yf1, yf2, yf3, yf4, yf5, yf6, yf7, yf8⟩ := kf
    go_wp2_with fail
    refine bodyPost_ret (v := .tuple #[.agg #[.int .i64 0, .int .i64 0, .int .i64 0], .bool false]) (by simp [results, Try.results15, go_sem, *]) rfl ⟨rfl, ?_⟩
    exact ((hT.be.setCell (by simp; omega) _).setCell (by simp; omega) _).setCell (by simp; omega) _
  · have hz2 : (D == 0) = false := by simp; exact hz
    clear hz
    go_enter Try.func15, Try.ntmps15
    go_wp2_with fail
    refine (SQ _).out.mono ?_
    rintro e w1 ⟨rfl, hb1⟩
    have hT := hT.next hb1
    have kc := hT.cells
    have kf := hT.frz
    simp only [List.forall_mem_cons, List.not_mem_nil, false_implies, implies_true, and_true] at kc kf
    obtain ⟨yc0, yc1, yc2, yc3, yc4, yc5, yc6, yc7, yc8⟩ := kc
    obtain ⟨yf0, yf1, yf2, yf3, yf4, yf5, yf6, yf7, yf8⟩ := kf
    go_wp2_with fail
    refine bodyPost_ret (v := .tuple #[.agg #[.int .i64 0, .int .i64 0, .int .i64 0], .bool false]) (by simp [results, Try.results15, go_sem, *]) rfl ⟨rfl, ?_⟩
    exact ((hT.be.setCell (by simp; omega) _).setCell (by simp; omega) _).setCell (by simp; omega) _
set_option maxHeartbeats 8000000 in
set_option maxRecDepth 20000 in
theorem towardR_main (c0 c1 c2 a0 a1 a2 d : Int) (X0 X1 X2 : Int) (w : World) (hc : Pk c0 c1 c2) (ha : Pk a0 a1 a2) (hn : 1 ≤ sqD a0 a1 a2 c0 c1 c2) (hd : 0 ≤ d) (hd2 : d ≤ 33554432)
    (H0 : Hid (nrI (a0 - c0) d (sqD a0 a1 a2 c0 c1 c2) = X0)) (H1 : Hid (nrI (a1 - c1) d (sqD a0 a1 a2 c0 c1 c2) = X1)) (H2 : Hid (nrI (a2 - c2) d (sqD a0 a1 a2 c0 c1 c2) = X2)) :
    Calls Try.prog 15 #[.agg #[.int .i64 c0, .int .i64 c1, .int .i64 c2], .agg #[.int .i64 a0, .int .i64 a1, .int .i64 a2], .int .i64 d] w fun e w' => e = .returned (.tuple #[.agg #[.int .i64 (c0 + X0), .int .i64 (c1 + X1), .int .i64 (c2 + X2)], .bool true]) ∧ Below w.heap.size w w' := by
  obtain ⟨x1, x2, x3, x4, x5, x6⟩ := hc
  obtain ⟨z1, z2, z3, z4, z5, z6⟩ := ha
  obtain ⟨m0, n0⟩ := sq_bdK (x := a0 - c0) (by omega) (by omega)
  obtain ⟨m1, n1⟩ := sq_bdK (x := a1 - c1) (by omega) (by omega)
  obtain ⟨m2, n2⟩ := sq_bdK (x := a2 - c2) (by omega) (by omega)
  have SQ := fun w => Lib.hid (square_any a0 a1 a2 c0 c1 c2 w (by omega) (by omega) (by omega))
  have HS : Hid (sqD a0 a1 a2 c0 c1 c2 = (a0 - c0) * (a0 - c0) + (a1 - c1) * (a1 - c1) + (a2 - c2) * (a2 - c2)) := rfl
  have b0 := nrI_bd (x := a0 - c0) (r := d) (n := sqD a0 a1 a2 c0 c1 c2) (by omega) (by omega) hd hd2 hn (by have := HS.out; omega)
  rw [H0.out] at b0
  have E0 := Lib.hid (wr_in (n := a0 - c0) (by omega) (by omega))
  have G0 := Lib.hid (wr_in (n := c0 + X0) (by omega) (by omega))
  have O0 : ∀ w, Hid (Calls Try.prog 31 #[.int .i64 (IntKind.i64.wrap (a0 - c0)), .int .i64 d, .int .i64 (sqD a0 a1 a2 c0 c1 c2)] w fun e w' => e = .returned (.int .i64 X0) ∧ w' = w) := by
    intro w
    rw [E0.out]
    have h := near_I (a0 - c0) d (sqD a0 a1 a2 c0 c1 c2) w (by omega) (by omega) hd (by omega) hn (by have := HS.out; omega) (by have := HS.out; omega)
    rw [H0.out] at h
    exact h.mono fun e w' h => ⟨h.1, h.2.symm⟩
  obtain ⟨i0, j0⟩ := b0
  have b1 := nrI_bd (x := a1 - c1) (r := d) (n := sqD a0 a1 a2 c0 c1 c2) (by omega) (by omega) hd hd2 hn (by have := HS.out; omega)
  rw [H1.out] at b1
  have E1 := Lib.hid (wr_in (n := a1 - c1) (by omega) (by omega))
  have G1 := Lib.hid (wr_in (n := c1 + X1) (by omega) (by omega))
  have O1 : ∀ w, Hid (Calls Try.prog 31 #[.int .i64 (IntKind.i64.wrap (a1 - c1)), .int .i64 d, .int .i64 (sqD a0 a1 a2 c0 c1 c2)] w fun e w' => e = .returned (.int .i64 X1) ∧ w' = w) := by
    intro w
    rw [E1.out]
    have h := near_I (a1 - c1) d (sqD a0 a1 a2 c0 c1 c2) w (by omega) (by omega) hd (by omega) hn (by have := HS.out; omega) (by have := HS.out; omega)
    rw [H1.out] at h
    exact h.mono fun e w' h => ⟨h.1, h.2.symm⟩
  obtain ⟨i1, j1⟩ := b1
  have b2 := nrI_bd (x := a2 - c2) (r := d) (n := sqD a0 a1 a2 c0 c1 c2) (by omega) (by omega) hd hd2 hn (by have := HS.out; omega)
  rw [H2.out] at b2
  have E2 := Lib.hid (wr_in (n := a2 - c2) (by omega) (by omega))
  have G2 := Lib.hid (wr_in (n := c2 + X2) (by omega) (by omega))
  have O2 : ∀ w, Hid (Calls Try.prog 31 #[.int .i64 (IntKind.i64.wrap (a2 - c2)), .int .i64 d, .int .i64 (sqD a0 a1 a2 c0 c1 c2)] w fun e w' => e = .returned (.int .i64 X2) ∧ w' = w) := by
    intro w
    rw [E2.out]
    have h := near_I (a2 - c2) d (sqD a0 a1 a2 c0 c1 c2) w (by omega) (by omega) hd (by omega) hn (by have := HS.out; omega) (by have := HS.out; omega)
    rw [H2.out] at h
    exact h.mono fun e w' h => ⟨h.1, h.2.symm⟩
  obtain ⟨i2, j2⟩ := b2
  have hz2 : (sqD a0 a1 a2 c0 c1 c2 == 0) = false := by simp; omega
  have hD2 : sqD a0 a1 a2 c0 c1 c2 ≤ 18014398509481984 := by have := HS.out; omega
  clear H0 H1 H2 m0 n0 m1 n1 m2 n2
  generalize sqD a0 a1 a2 c0 c1 c2 = D at *
  have hT : Lf w.heap.size (w.heap.size + 1 + 1 + 1) [(⟨w.heap.size, 0, none⟩, .int .i64 c0), (⟨w.heap.size, 1, none⟩, .int .i64 c1), (⟨w.heap.size, 2, none⟩, .int .i64 c2), (⟨w.heap.size + 1, 0, none⟩, .int .i64 a0), (⟨w.heap.size + 1, 1, none⟩, .int .i64 a1), (⟨w.heap.size + 1, 2, none⟩, .int .i64 a2), (⟨w.heap.size + 1 + 1, 0, none⟩, .int .i64 0), (⟨w.heap.size + 1 + 1, 1, none⟩, .int .i64 0), (⟨w.heap.size + 1 + 1, 2, none⟩, .int .i64 0)] w (((w.alloc (.cells #[.int .i64 c0, .int .i64 c1, .int .i64 c2] 23)).alloc (.cells #[.int .i64 a0, .int .i64 a1, .int .i64 a2] 23)).alloc (.cells #[.int .i64 0, .int .i64 0, .int .i64 0] 23)) :=
    ⟨by simp [List.forall_mem_cons, go_sem], by simp [List.forall_mem_cons, go_sem], by simp [List.forall_mem_cons] <;> omega, by simp, by (repeat (first | exact Below.refl _ _ | assumption | refine Below.drew ?_ | (refine Below.alloc ?_ (by simp <;> omega) _) | (refine Below.setCell ?_ (by simp <;> omega) _))), by omega⟩
  go_enter Try.func15, Try.ntmps15
  go_wp2_with fail
  refine (SQ _).out.mono ?_
  rintro e w1 ⟨rfl, hb1⟩
  have hT := hT.next hb1
  have kc := hT.cells
  have kf := hT.frz
  simp only [List.forall_mem_cons, List.not_mem_nil, false_implies, implies_true, and_true] at kc kf
  obtain ⟨yc0, yc1, yc2, yc3, yc4, yc5, yc6, yc7, yc8⟩ := kc
  obtain ⟨yf0, yf1, yf2, yf3, yf4, yf5, yf6, yf7, yf8⟩ := kf
  go_upto_region 5 with fail
  obtain ⟨n1, hn1⟩ : ∃ n1, w1.heap.size = n1 := ⟨_, rfl⟩
  have hl := hT.lt
  have hP := hT.push #[.int .i64 c0, .int .i64 c1, .int .i64 c2] 23
  rewrite [hn1] at hP hl
  rewrite [hn1]
  refine wp_cls (Lf w.heap.size (n1 + 1) [(⟨n1, 0, none⟩, .int .i64 c0), (⟨n1, 1, none⟩, .int .i64 c1), (⟨n1, 2, none⟩, .int .i64 c2), (⟨w.heap.size, 0, none⟩, .int .i64 c0), (⟨w.heap.size, 1, none⟩, .int .i64 c1), (⟨w.heap.size, 2, none⟩, .int .i64 c2), (⟨w.heap.size + 1, 0, none⟩, .int .i64 a0), (⟨w.heap.size + 1, 1, none⟩, .int .i64 a1), (⟨w.heap.size + 1, 2, none⟩, .int .i64 a2), (⟨w.heap.size + 1 + 1, 0, none⟩, .int .i64 0), (⟨w.heap.size + 1 + 1, 1, none⟩, .int .i64 0), (⟨w.heap.size + 1 + 1, 2, none⟩, .int .i64 0)] w) hP ?_
  clear hP hT hn1 yc0 yf0 yc1 yf1 yc2 yf2 yc3 yf3 yc4 yf4 yc5 yf5 yc6 yf6 yc7 yf7 yc8 yf8 SQ
  intro wx hT
  go_wp2_with fail
  go_loopw [26] (fun t wr => (t = .int .i64 0 ∧ Lf w.heap.size (n1 + 1) [(⟨n1, 0, none⟩, .int .i64 c0), (⟨n1, 1, none⟩, .int .i64 c1), (⟨n1, 2, none⟩, .int .i64 c2), (⟨w.heap.size, 0, none⟩, .int .i64 c0), (⟨w.heap.size, 1, none⟩, .int .i64 c1), (⟨w.heap.size, 2, none⟩, .int .i64 c2), (⟨w.heap.size + 1, 0, none⟩, .int .i64 a0), (⟨w.heap.size + 1, 1, none⟩, .int .i64 a1), (⟨w.heap.size + 1, 2, none⟩, .int .i64 a2), (⟨w.heap.size + 1 + 1, 0, none⟩, .int .i64 0), (⟨w.heap.size + 1 + 1, 1, none⟩, .int .i64 0), (⟨w.heap.size + 1 + 1, 2, none⟩, .int .i64 0)] w wr) ∨ (t = .int .i64 1 ∧ Lf w.heap.size (n1 + 1) [(⟨n1, 0, none⟩, .int .i64 (c0 + X0)), (⟨n1, 1, none⟩, .int .i64 c1), (⟨n1, 2, none⟩, .int .i64 c2), (⟨w.heap.size, 0, none⟩, .int .i64 c0), (⟨w.heap.size, 1, none⟩, .int .i64 c1), (⟨w.heap.size, 2, none⟩, .int .i64 c2), (⟨w.heap.size + 1, 0, none⟩, .int .i64 a0), (⟨w.heap.size + 1, 1, none⟩, .int .i64 a1), (⟨w.heap.size + 1, 2, none⟩, .int .i64 a2), (⟨w.heap.size + 1 + 1, 0, none⟩, .int .i64 0), (⟨w.heap.size + 1 + 1, 1, none⟩, .int .i64 0), (⟨w.heap.size + 1 + 1, 2, none⟩, .int .i64 0)] w wr) ∨ (t = .int .i64 2 ∧ Lf w.heap.size (n1 + 1) [(⟨n1, 0, none⟩, .int .i64 (c0 + X0)), (⟨n1, 1, none⟩, .int .i64 (c1 + X1)), (⟨n1, 2, none⟩, .int .i64 c2), (⟨w.heap.size, 0, none⟩, .int .i64 c0), (⟨w.heap.size, 1, none⟩, .int .i64 c1), (⟨w.heap.size, 2, none⟩, .int .i64 c2), (⟨w.heap.size + 1, 0, none⟩, .int .i64 a0), (⟨w.heap.size + 1, 1, none⟩, .int .i64 a1), (⟨w.heap.size + 1, 2, none⟩, .int .i64 a2), (⟨w.heap.size + 1 + 1, 0, none⟩, .int .i64 0), (⟨w.heap.size + 1 + 1, 1, none⟩, .int .i64 0), (⟨w.heap.size + 1 + 1, 2, none⟩, .int .i64 0)] w wr) ∨ (t = .int .i64 3 ∧ Lf w.heap.size (n1 + 1) [(⟨n1, 0, none⟩, .int .i64 (c0 + X0)), (⟨n1, 1, none⟩, .int .i64 (c1 + X1)), (⟨n1, 2, none⟩, .int .i64 (c2 + X2)), (⟨w.heap.size, 0, none⟩, .int .i64 c0), (⟨w.heap.size, 1, none⟩, .int .i64 c1), (⟨w.heap.size, 2, none⟩, .int .i64 c2), (⟨w.heap.size + 1, 0, none⟩, .int .i64 a0), (⟨w.heap.size + 1, 1, none⟩, .int .i64 a1), (⟨w.heap.size + 1, 2, none⟩, .int .i64 a2), (⟨w.heap.size + 1 + 1, 0, none⟩, .int .i64 0), (⟨w.heap.size + 1 + 1, 1, none⟩, .int .i64 0), (⟨w.heap.size + 1 + 1, 2, none⟩, .int .i64 0)] w wr)) (fun t _ => 3 - (intOf t).toNat)
  case atStart => exact Or.inl ⟨rfl, hT⟩
  case round =>
  clear hT
  rcases hrel with ⟨rfl, hT⟩ | ⟨rfl, hT⟩ | ⟨rfl, hT⟩ | ⟨rfl, hT⟩
  · have kc := hT.cells
    have kf := hT.frz
    simp only [List.forall_mem_cons, List.not_mem_nil, false_implies, implies_true, and_true] at kc kf
    obtain ⟨yc0, yc1, yc2, yc3, yc4, yc5, yc6, yc7, yc8, yc9, yc10, yc11⟩ := kc
    obtain ⟨yf0, yf1, yf2, yf3, yf4, yf5, yf6, yf7, yf8, yf9, yf10, yf11⟩ := kf
    go_upto_region 8 with fail
    refine wp_region_still_tail 15 (by kernel_rfl) (by kernel_rfl) ?_
    simp only [List.take_succ_cons, List.take_zero, List.drop_succ_cons, List.drop_zero]
    change wpStill _ _ (World.drew _) _ _ _
    iterate 12 still_step
    still_call ((O0 _).out)
    iterate 2 still_step
    refine wpStill_nil ?_
    change wpList _ _ _ _ _ (World.drew _)
    rewrite [G0.out]
    go_wp2_with fail
    go_roundw
    case rel =>
      have g : Lf w.heap.size (n1 + 1) [(⟨n1, 0, none⟩, .int .i64 (c0 + X0)), (⟨n1, 1, none⟩, .int .i64 c1), (⟨n1, 2, none⟩, .int .i64 c2), (⟨w.heap.size, 0, none⟩, .int .i64 c0), (⟨w.heap.size, 1, none⟩, .int .i64 c1), (⟨w.heap.size, 2, none⟩, .int .i64 c2), (⟨w.heap.size + 1, 0, none⟩, .int .i64 a0), (⟨w.heap.size + 1, 1, none⟩, .int .i64 a1), (⟨w.heap.size + 1, 2, none⟩, .int .i64 a2), (⟨w.heap.size + 1 + 1, 0, none⟩, .int .i64 0), (⟨w.heap.size + 1 + 1, 1, none⟩, .int .i64 0), (⟨w.heap.size + 1 + 1, 2, none⟩, .int .i64 0)] w _ := hT.set 0 (n1) 0 _ (.int .i64 (c0 + X0)) rfl (by simp [List.forall_mem_cons] <;> omega) (by omega)
      exact Or.inr (Or.inl ⟨rfl, g.next (Below.refl _ _).drew⟩)
    case measure => simp [intOf]
  · have kc := hT.cells
    have kf := hT.frz
    simp only [List.forall_mem_cons, List.not_mem_nil, false_implies, implies_true, and_true] at kc kf
    obtain ⟨yc0, yc1, yc2, yc3, yc4, yc5, yc6, yc7, yc8, yc9, yc10, yc11⟩ := kc
    obtain ⟨yf0, yf1, yf2, yf3, yf4, yf5, yf6, yf7, yf8, yf9, yf10, yf11⟩ := kf
    go_upto_region 8 with fail
    refine wp_region_still_tail 15 (by kernel_rfl) (by kernel_rfl) ?_
    simp only [List.take_succ_cons, List.take_zero, List.drop_succ_cons, List.drop_zero]
    change wpStill _ _ (World.drew _) _ _ _
    iterate 12 still_step
    still_call ((O1 _).out)
    iterate 2 still_step
    refine wpStill_nil ?_
    change wpList _ _ _ _ _ (World.drew _)
    rewrite [G1.out]
    go_wp2_with fail
    go_roundw
    case rel =>
      have g : Lf w.heap.size (n1 + 1) [(⟨n1, 0, none⟩, .int .i64 (c0 + X0)), (⟨n1, 1, none⟩, .int .i64 (c1 + X1)), (⟨n1, 2, none⟩, .int .i64 c2), (⟨w.heap.size, 0, none⟩, .int .i64 c0), (⟨w.heap.size, 1, none⟩, .int .i64 c1), (⟨w.heap.size, 2, none⟩, .int .i64 c2), (⟨w.heap.size + 1, 0, none⟩, .int .i64 a0), (⟨w.heap.size + 1, 1, none⟩, .int .i64 a1), (⟨w.heap.size + 1, 2, none⟩, .int .i64 a2), (⟨w.heap.size + 1 + 1, 0, none⟩, .int .i64 0), (⟨w.heap.size + 1 + 1, 1, none⟩, .int .i64 0), (⟨w.heap.size + 1 + 1, 2, none⟩, .int .i64 0)] w _ := hT.set 1 (n1) 1 _ (.int .i64 (c1 + X1)) rfl (by simp [List.forall_mem_cons] <;> omega) (by omega)
      exact Or.inr (Or.inr (Or.inl ⟨rfl, g.next (Below.refl _ _).drew⟩))
    case measure => simp [intOf]
  · have kc := hT.cells
    have kf := hT.frz
    simp only [List.forall_mem_cons, List.not_mem_nil, false_implies, implies_true, and_true] at kc kf
    obtain ⟨yc0, yc1, yc2, yc3, yc4, yc5, yc6, yc7, yc8, yc9, yc10, yc11⟩ := kc
    obtain ⟨yf0, yf1, yf2, yf3, yf4, yf5, yf6, yf7, yf8, yf9, yf10, yf11⟩ := kf
    go_upto_region 8 with fail
    refine wp_region_still_tail 15 (by kernel_rfl) (by kernel_rfl) ?_
    simp only [List.take_succ_cons, List.take_zero, List.drop_succ_cons, List.drop_zero]
    change wpStill _ _ (World.drew _) _ _ _
    iterate 12 still_step
    still_call ((O2 _).out)
    iterate 2 still_step
    refine wpStill_nil ?_
    change wpList _ _ _ _ _ (World.drew _)
    rewrite [G2.out]
    go_wp2_with fail
    go_roundw
    case rel =>
      have g : Lf w.heap.size (n1 + 1) [(⟨n1, 0, none⟩, .int .i64 (c0 + X0)), (⟨n1, 1, none⟩, .int .i64 (c1 + X1)), (⟨n1, 2, none⟩, .int .i64 (c2 + X2)), (⟨w.heap.size, 0, none⟩, .int .i64 c0), (⟨w.heap.size, 1, none⟩, .int .i64 c1), (⟨w.heap.size, 2, none⟩, .int .i64 c2), (⟨w.heap.size + 1, 0, none⟩, .int .i64 a0), (⟨w.heap.size + 1, 1, none⟩, .int .i64 a1), (⟨w.heap.size + 1, 2, none⟩, .int .i64 a2), (⟨w.heap.size + 1 + 1, 0, none⟩, .int .i64 0), (⟨w.heap.size + 1 + 1, 1, none⟩, .int .i64 0), (⟨w.heap.size + 1 + 1, 2, none⟩, .int .i64 0)] w _ := hT.set 2 (n1) 2 _ (.int .i64 (c2 + X2)) rfl (by simp [List.forall_mem_cons] <;> omega) (by omega)
      exact Or.inr (Or.inr (Or.inr ⟨rfl, g.next (Below.refl _ _).drew⟩))
    case measure => simp [intOf]
  · have kc := hT.cells
    have kf := hT.frz
    simp only [List.forall_mem_cons, List.not_mem_nil, false_implies, implies_true, and_true] at kc kf
    obtain ⟨yc0, yc1, yc2, yc3, yc4, yc5, yc6, yc7, yc8, yc9, yc10, yc11⟩ := kc
    obtain ⟨yf0, yf1, yf2, yf3, yf4, yf5, yf6, yf7, yf8, yf9, yf10, yf11⟩ := kf
    go_wp2_with fail
    have g0 : Lf w.heap.size (n1 + 1) [(⟨n1, 0, none⟩, .int .i64 (c0 + X0)), (⟨n1, 1, none⟩, .int .i64 (c1 + X1)), (⟨n1, 2, none⟩, .int .i64 (c2 + X2)), (⟨w.heap.size, 0, none⟩, .int .i64 c0), (⟨w.heap.size, 1, none⟩, .int .i64 c1), (⟨w.heap.size, 2, none⟩, .int .i64 c2), (⟨w.heap.size + 1, 0, none⟩, .int .i64 a0), (⟨w.heap.size + 1, 1, none⟩, .int .i64 a1), (⟨w.heap.size + 1, 2, none⟩, .int .i64 a2), (⟨w.heap.size + 1 + 1, 0, none⟩, .int .i64 (c0 + X0)), (⟨w.heap.size + 1 + 1, 1, none⟩, .int .i64 0), (⟨w.heap.size + 1 + 1, 2, none⟩, .int .i64 0)] w _ := hT.set 9 (w.heap.size + 1 + 1) 0 _ (.int .i64 (c0 + X0)) rfl (by simp [List.forall_mem_cons] <;> omega) (by omega)
    have g1 : Lf w.heap.size (n1 + 1) [(⟨n1, 0, none⟩, .int .i64 (c0 + X0)), (⟨n1, 1, none⟩, .int .i64 (c1 + X1)), (⟨n1, 2, none⟩, .int .i64 (c2 + X2)), (⟨w.heap.size, 0, none⟩, .int .i64 c0), (⟨w.heap.size, 1, none⟩, .int .i64 c1), (⟨w.heap.size, 2, none⟩, .int .i64 c2), (⟨w.heap.size + 1, 0, none⟩, .int .i64 a0), (⟨w.heap.size + 1, 1, none⟩, .int .i64 a1), (⟨w.heap.size + 1, 2, none⟩, .int .i64 a2), (⟨w.heap.size + 1 + 1, 0, none⟩, .int .i64 (c0 + X0)), (⟨w.heap.size + 1 + 1, 1, none⟩, .int .i64 (c1 + X1)), (⟨w.heap.size + 1 + 1, 2, none⟩, .int .i64 0)] w _ := g0.set 10 (w.heap.size + 1 + 1) 1 _ (.int .i64 (c1 + X1)) rfl (by simp [List.forall_mem_cons] <;> omega) (by omega)
    have g2 : Lf w.heap.size (n1 + 1) [(⟨n1, 0, none⟩, .int .i64 (c0 + X0)), (⟨n1, 1, none⟩, .int .i64 (c1 + X1)), (⟨n1, 2, none⟩, .int .i64 (c2 + X2)), (⟨w.heap.size, 0, none⟩, .int .i64 c0), (⟨w.heap.size, 1, none⟩, .int .i64 c1), (⟨w.heap.size, 2, none⟩, .int .i64 c2), (⟨w.heap.size + 1, 0, none⟩, .int .i64 a0), (⟨w.heap.size + 1, 1, none⟩, .int .i64 a1), (⟨w.heap.size + 1, 2, none⟩, .int .i64 a2), (⟨w.heap.size + 1 + 1, 0, none⟩, .int .i64 (c0 + X0)), (⟨w.heap.size + 1 + 1, 1, none⟩, .int .i64 (c1 + X1)), (⟨w.heap.size + 1 + 1, 2, none⟩, .int .i64 (c2 + X2))] w _ := g1.set 11 (w.heap.size + 1 + 1) 2 _ (.int .i64 (c2 + X2)) rfl (by simp [List.forall_mem_cons] <;> omega) (by omega)
    have kc := g2.cells
    simp only [List.forall_mem_cons, List.not_mem_nil, false_implies, implies_true, and_true] at kc
    obtain ⟨zz0, zz1, zz2, zz3, zz4, zz5, zz6, zz7, zz8, zz9, zz10, zz11⟩ := kc
    exact bodyPost_ret (v := .tuple #[.agg #[.int .i64 (c0 + X0), .int .i64 (c1 + X1), .int .i64 (c2 + X2)], .bool true]) (by simp [results, Try.results15, go_sem, zz9, zz10, zz11]) rfl ⟨rfl, g2.be⟩
end Go.Proofs.Ytdjopepipcnmdaa
