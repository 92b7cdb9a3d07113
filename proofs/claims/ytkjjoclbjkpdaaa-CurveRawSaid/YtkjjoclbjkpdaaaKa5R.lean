/- Proved here: curve's Flat, dot, cross and Length, and the reference's Flat; ranges of the arguments as stated. · the sanity check of the laws of chapter 23; CurveFlat returns true for every argument; no conditions but that integers are ints. · the products of two spokes, of the program and of the reference; the reference's product of two words and its comparison; ranges of the arguments as stated. · the reference's product of two words, and its comparison of two products; every argument. · the reference's Near: the quotient by a root, by its bits; |x| and r at most 2^26, x squared at most n, n at most 2^54. -/
import Derived.Test.YtkjjoclbjkpdaaaYr6R
import Derived.Deep.QuietTactic
namespace Go.Proofs.Ytkjjoclbjkpdaaa
open Go.RowKit
set_option linter.unusedVariables false
set_option linter.unusedSimpArgs false
theorem flatP_any (r s : Int) (w : World) (h1 : 1 ≤ r) (h2 : r ≤ 94906268) :
    Calls Try.prog 16 #[.int .i64 r, .int .i64 s] w fun e w' => e = .returned (.bool (decide (s ≤ 8 * r * 4 - 64))) ∧ w = w' := by
  go_enter Try.func16, Try.ntmps16
  go_wp2_with fail
  go_ret
  exact ⟨rfl, rfl⟩
theorem flatR_any (r s : Int) (w : World) (h1 : 1 ≤ r) (h2 : r ≤ 94906268) :
    Calls Try.prog 75 #[.int .i64 r, .int .i64 s] w fun e w' => e = .returned (.bool (decide (s ≤ 8 * r * 4 - 64))) ∧ w = w' := by
  go_enter Try.func75, Try.ntmps75
  go_wp2_with fail
  go_ret
  exact ⟨rfl, rfl⟩
set_option maxHeartbeats 1000000 in
theorem dot_aw (w : World) : Calls Try.prog 33 #[.agg #[.int .i64 128, .int .i64 0, .int .i64 128, .int .i64 0], .agg #[.int .i64 (-128), .int .i64 0, .int .i64 128, .int .i64 0]] w fun e w' => e = .returned (.int .i64 (-16384)) ∧ Below w.heap.size w w' := by
  go_enter Try.func33, Try.ntmps33
  go_wp2_with fail
  go_ret
  exact ⟨rfl, (((Below.refl _ _).alloc (Nat.le_refl _) _).alloc (by simp) _)⟩
theorem aw_u : ovV 0 128 65536 2 = 0 ∧ ovO 0 128 65536 2 = true := by decide +kernel
theorem aw_w : ovV 256 128 65536 2 = 128 ∧ ovO 256 128 65536 2 = true := by decide +kernel
theorem aw_l : sqV 26 1 = 6 ∧ sqO 26 1 = true := by decide +kernel
set_option maxHeartbeats 2000000 in
set_option maxRecDepth 20000 in
theorem length_aw (w : World) : Calls Try.prog 27 #[.agg #[.int .i64 0, .int .i64 0, .int .i64 0], .agg #[.int .i64 3, .int .i64 4, .int .i64 1]] w fun e w' => e = .returned (.int .i64 6) ∧ Below w.heap.size w w' := by
  have SQ := fun w => Lib.hid (sqrt_any 26 1 w (by omega))
  rw [aw_l.1, aw_l.2] at SQ
  go_enter Try.func27, Try.ntmps27
  go_wp2_with fail
  go_loopw [5, 9] (fun s t wr => (((t = .int .i64 0 ∧ s = .int .i64 0) ∨ (t = .int .i64 1 ∧ s = .int .i64 9)) ∨ ((t = .int .i64 2 ∧ s = .int .i64 25) ∨ (t = .int .i64 3 ∧ s = .int .i64 26))) ∧ Lay w.heap.size (w.heap.size + 2) [(⟨w.heap.size, 0, none⟩, .int .i64 0), (⟨w.heap.size, 1, none⟩, .int .i64 0), (⟨w.heap.size, 2, none⟩, .int .i64 0), (⟨w.heap.size + 1, 0, none⟩, .int .i64 3), (⟨w.heap.size + 1, 1, none⟩, .int .i64 4), (⟨w.heap.size + 1, 2, none⟩, .int .i64 1)] w wr) (fun _ t _ => 3 - (intOf t).toNat)
  case atStart => exact ⟨Or.inl (Or.inl ⟨rfl, rfl⟩), by (refine ⟨by simp [List.forall_mem_cons, go_sem], by simp [List.forall_mem_cons] <;> omega, by simp, by (repeat (first | exact Below.refl _ _ | assumption | refine Below.drew ?_ | (refine Below.alloc ?_ (by simp <;> omega) _) | (refine Below.setCell ?_ (by simp <;> omega) _))), by omega⟩)⟩
  case round =>
  obtain ⟨hd, hT⟩ := hrel
  rcases hd with (⟨rfl, rfl⟩ | ⟨rfl, rfl⟩) | (⟨rfl, rfl⟩ | ⟨rfl, rfl⟩)
  · go_upto_region 5 with fail
    (refine wp_region_class (Lay w.heap.size (w.heap.size + 2) _ w) (hT.next (Below.refl _ _).drew) (by kernel_rfl) (by kernel_rfl) ?_; repeat (refine wpQuiet_step (fun qK9 qH9 => ?_); go_simp; first | (refine qH9 _ ?_; clear qH9 qK9) | (apply Exists.intro; refine ⟨?_, qH9 _ ?_⟩; (first | (intros; rfl) | ((intro wx hC; ((have qk9 := Lay.cells hC; simp only [List.forall_mem_cons, List.not_mem_nil, false_implies, implies_true, and_true] at qk9; repeat (obtain ⟨qk8, qk9⟩ := qk9)); go_simp; first | done | rfl)))); clear qH9 qK9)))
    refine wpQuiet_nil ?_
    intro wy hT
    go_wp2_with fail
    go_roundw
    case rel => exact ⟨Or.inl (Or.inr ⟨rfl, rfl⟩), hT⟩
    case measure => simp [intOf]
  · go_upto_region 5 with fail
    (refine wp_region_class (Lay w.heap.size (w.heap.size + 2) _ w) (hT.next (Below.refl _ _).drew) (by kernel_rfl) (by kernel_rfl) ?_; repeat (refine wpQuiet_step (fun qK9 qH9 => ?_); go_simp; first | (refine qH9 _ ?_; clear qH9 qK9) | (apply Exists.intro; refine ⟨?_, qH9 _ ?_⟩; (first | (intros; rfl) | ((intro wx hC; ((have qk9 := Lay.cells hC; simp only [List.forall_mem_cons, List.not_mem_nil, false_implies, implies_true, and_true] at qk9; repeat (obtain ⟨qk8, qk9⟩ := qk9)); go_simp; first | done | rfl)))); clear qH9 qK9)))
    refine wpQuiet_nil ?_
    intro wy hT
    go_wp2_with fail
    go_roundw
    case rel => exact ⟨Or.inr (Or.inl ⟨rfl, rfl⟩), hT⟩
    case measure => simp [intOf]
  · go_upto_region 5 with fail
    (refine wp_region_class (Lay w.heap.size (w.heap.size + 2) _ w) (hT.next (Below.refl _ _).drew) (by kernel_rfl) (by kernel_rfl) ?_; repeat (refine wpQuiet_step (fun qK9 qH9 => ?_); go_simp; first | (refine qH9 _ ?_; clear qH9 qK9) | (apply Exists.intro; refine ⟨?_, qH9 _ ?_⟩; (first | (intros; rfl) | ((intro wx hC; ((have qk9 := Lay.cells hC; simp only [List.forall_mem_cons, List.not_mem_nil, false_implies, implies_true, and_true] at qk9; repeat (obtain ⟨qk8, qk9⟩ := qk9)); go_simp; first | done | rfl)))); clear qH9 qK9)))
    refine wpQuiet_nil ?_
    intro wy hT
    go_wp2_with fail
    go_roundw
    case rel => exact ⟨Or.inr (Or.inr ⟨rfl, rfl⟩), hT⟩
    case measure => simp [intOf]
  · go_wp2_with fail
    refine (SQ _).out.mono ?_
    rintro e w2 ⟨rfl, hb2⟩
    have hT := hT.next hb2
    go_wp2_with fail
    go_ret
    exact ⟨rfl, hT.be⟩
end Go.Proofs.Ytkjjoclbjkpdaaa
namespace Go.Proofs.Ytkjjoclbjkpdaaa
open Go.RowKit
set_option linter.unusedVariables false
set_option linter.unusedSimpArgs false
set_option maxHeartbeats 4000000 in
set_option maxRecDepth 20000 in
theorem middle_aw (w : World) : Calls Try.prog 26 #[.agg #[.int .i64 128, .int .i64 0, .int .i64 128, .int .i64 0], .agg #[.int .i64 (-128), .int .i64 0, .int .i64 128, .int .i64 0], .int .i64 1, .bool false] w fun e w' => e = .returned (.tuple #[.agg #[.int .i64 0, .int .i64 128, .int .i64 128, .int .i64 0], .bool true]) ∧ Below w.heap.size w w' := by
  have OU := fun w => Lib.hid (over_any 0 128 65536 2 w (by omega) (by omega) (by omega) (by omega))
  have OW := fun w => Lib.hid (over_any 256 128 65536 2 w (by omega) (by omega) (by omega) (by omega))
  rw [aw_u.1, aw_u.2] at OU
  rw [aw_w.1, aw_w.2] at OW
  go_enter Try.func26, Try.ntmps26
  go_wp2_with fail
  go_quiet (fail)
  go_wp2_with fail
  refine (dot_aw _).mono ?_
  rintro e w1 ⟨rfl, hb1⟩
  have c0 : w1.cell? ⟨w.heap.size, 0, none⟩ = some (.int .i64 (128)) := by
    rw [hb1.cell (p := ⟨w.heap.size, 0, none⟩) (by show w.heap.size < _; simp <;> omega)]; simp [go_sem]
  have c1 : w1.cell? ⟨w.heap.size, 1, none⟩ = some (.int .i64 (0)) := by
    rw [hb1.cell (p := ⟨w.heap.size, 1, none⟩) (by show w.heap.size < _; simp <;> omega)]; simp [go_sem]
  have c2 : w1.cell? ⟨w.heap.size, 2, none⟩ = some (.int .i64 (128)) := by
    rw [hb1.cell (p := ⟨w.heap.size, 2, none⟩) (by show w.heap.size < _; simp <;> omega)]; simp [go_sem]
  have c3 : w1.cell? ⟨w.heap.size, 3, none⟩ = some (.int .i64 (0)) := by
    rw [hb1.cell (p := ⟨w.heap.size, 3, none⟩) (by show w.heap.size < _; simp <;> omega)]; simp [go_sem]
  have c4 : w1.cell? ⟨w.heap.size + 1, 0, none⟩ = some (.int .i64 (-128)) := by
    rw [hb1.cell (p := ⟨w.heap.size + 1, 0, none⟩) (by show w.heap.size + 1 < _; simp <;> omega)]; simp [go_sem]
  have c5 : w1.cell? ⟨w.heap.size + 1, 1, none⟩ = some (.int .i64 (0)) := by
    rw [hb1.cell (p := ⟨w.heap.size + 1, 1, none⟩) (by show w.heap.size + 1 < _; simp <;> omega)]; simp [go_sem]
  have c6 : w1.cell? ⟨w.heap.size + 1, 2, none⟩ = some (.int .i64 (128)) := by
    rw [hb1.cell (p := ⟨w.heap.size + 1, 2, none⟩) (by show w.heap.size + 1 < _; simp <;> omega)]; simp [go_sem]
  have c7 : w1.cell? ⟨w.heap.size + 1, 3, none⟩ = some (.int .i64 (0)) := by
    rw [hb1.cell (p := ⟨w.heap.size + 1, 3, none⟩) (by show w.heap.size + 1 < _; simp <;> omega)]; simp [go_sem]
  have c8 : w1.cell? ⟨w.heap.size + 1 + 1, 0, none⟩ = some (.int .i64 (0)) := by
    rw [hb1.cell (p := ⟨w.heap.size + 1 + 1, 0, none⟩) (by show w.heap.size + 1 + 1 < _; simp <;> omega)]; simp [go_sem]
  have c9 : w1.cell? ⟨w.heap.size + 1 + 1, 1, none⟩ = some (.int .i64 (0)) := by
    rw [hb1.cell (p := ⟨w.heap.size + 1 + 1, 1, none⟩) (by show w.heap.size + 1 + 1 < _; simp <;> omega)]; simp [go_sem]
  have c10 : w1.cell? ⟨w.heap.size + 1 + 1, 2, none⟩ = some (.int .i64 (0)) := by
    rw [hb1.cell (p := ⟨w.heap.size + 1 + 1, 2, none⟩) (by show w.heap.size + 1 + 1 < _; simp <;> omega)]; simp [go_sem]
  have c11 : w1.cell? ⟨w.heap.size + 1 + 1, 3, none⟩ = some (.int .i64 (0)) := by
    rw [hb1.cell (p := ⟨w.heap.size + 1 + 1, 3, none⟩) (by show w.heap.size + 1 + 1 < _; simp <;> omega)]; simp [go_sem]
  have f0 : w1.frozen? ⟨w.heap.size + 1 + 1, 0, none⟩ = false := by
    rw [hb1.frozen (p := ⟨w.heap.size + 1 + 1, 0, none⟩) (by show w.heap.size + 1 + 1 < _; simp)]; simp [go_sem]
  have f1 : w1.frozen? ⟨w.heap.size + 1 + 1, 1, none⟩ = false := by
    rw [hb1.frozen (p := ⟨w.heap.size + 1 + 1, 1, none⟩) (by show w.heap.size + 1 + 1 < _; simp)]; simp [go_sem]
  have f2 : w1.frozen? ⟨w.heap.size + 1 + 1, 2, none⟩ = false := by
    rw [hb1.frozen (p := ⟨w.heap.size + 1 + 1, 2, none⟩) (by show w.heap.size + 1 + 1 < _; simp)]; simp [go_sem]
  have f3 : w1.frozen? ⟨w.heap.size + 1 + 1, 3, none⟩ = false := by
    rw [hb1.frozen (p := ⟨w.heap.size + 1 + 1, 3, none⟩) (by show w.heap.size + 1 + 1 < _; simp)]; simp [go_sem]
  have hs1 := hb1.size
  simp at hs1
  have HB1 : Hid (Below w.heap.size w w1) := by
    refine Below.trans ?_ (hb1.mono (by simp; omega))
    refine below_drewN ?_ _
    (repeat (first | exact Below.refl _ _ | assumption | refine Below.drew ?_ | (refine Below.alloc ?_ (by simp <;> omega) _) | (refine Below.setCell ?_ (by simp <;> omega) _)))
  have hT : Lay w1.heap.size w1.heap.size [(⟨w.heap.size, 0, none⟩, .int .i64 (128)), (⟨w.heap.size, 1, none⟩, .int .i64 (0)), (⟨w.heap.size, 2, none⟩, .int .i64 (128)), (⟨w.heap.size, 3, none⟩, .int .i64 (0)), (⟨w.heap.size + 1, 0, none⟩, .int .i64 (-128)), (⟨w.heap.size + 1, 1, none⟩, .int .i64 (0)), (⟨w.heap.size + 1, 2, none⟩, .int .i64 (128)), (⟨w.heap.size + 1, 3, none⟩, .int .i64 (0)), (⟨w.heap.size + 1 + 1, 0, none⟩, .int .i64 (0)), (⟨w.heap.size + 1 + 1, 1, none⟩, .int .i64 (0)), (⟨w.heap.size + 1 + 1, 2, none⟩, .int .i64 (0)), (⟨w.heap.size + 1 + 1, 3, none⟩, .int .i64 (0))] w1 w1 := ⟨by simp [c0, c1, c2, c3, c4, c5, c6, c7, c8, c9, c10, c11], by simp; omega, Nat.le_refl _, Below.refl _ _, Nat.le_refl _⟩
  clear c0 c1 c2 c3 c4 c5 c6 c7 c8 c9 c10 c11 hb1
  go_upto_region 7 with fail
  (refine wp_region_class (Lay w1.heap.size w1.heap.size _ w1) (hT.next (Below.refl _ _).drew) (by kernel_rfl) (by kernel_rfl) ?_; repeat (refine wpQuiet_step (fun qK9 qH9 => ?_); go_simp; first | (refine qH9 _ ?_; clear qH9 qK9) | (apply Exists.intro; refine ⟨?_, qH9 _ ?_⟩; (first | (intros; rfl) | ((intro wx hC; ((have qk9 := Lay.cells hC; simp only [List.forall_mem_cons, List.not_mem_nil, false_implies, implies_true, and_true] at qk9; repeat (obtain ⟨qk8, qk9⟩ := qk9)); go_simp; first | done | rfl)))); clear qH9 qK9)))
  refine wpQuiet_nil ?_
  intro wy hT
  have f0 := (hT.be.frozen (p := ⟨w.heap.size + 1 + 1, 0, none⟩) (by show w.heap.size + 1 + 1 < _; omega)).trans f0
  have f1 := (hT.be.frozen (p := ⟨w.heap.size + 1 + 1, 1, none⟩) (by show w.heap.size + 1 + 1 < _; omega)).trans f1
  have f2 := (hT.be.frozen (p := ⟨w.heap.size + 1 + 1, 2, none⟩) (by show w.heap.size + 1 + 1 < _; omega)).trans f2
  have f3 := (hT.be.frozen (p := ⟨w.heap.size + 1 + 1, 3, none⟩) (by show w.heap.size + 1 + 1 < _; omega)).trans f3
  (have qk9 := Lay.cells hT; simp only [List.forall_mem_cons, List.not_mem_nil, false_implies, implies_true, and_true] at qk9; repeat (obtain ⟨qk8, qk9⟩ := qk9))
  have hbe := hT.be
  have hsy := hT.lt
  go_upto_region 13 with fail
  go_wp2_with fail
  refine (OU _).out.mono ?_
  rintro e w2 ⟨rfl, hb2⟩
  have HB2 : Hid (Below w.heap.size w w2) := (HB1.out.trans (hbe.mono (by omega))).trans (((Below.refl wy.heap.size wy).alloc (Nat.le_refl _) _).trans (hb2.mono (by simp)) |>.mono (by omega))
  have hsz2 := hb2.size
  simp at hsz2
  have r0 := hT.cells (⟨w.heap.size + 1 + 1, 0, none⟩, .int .i64 0) (by simp)
  have r1 := hT.cells (⟨w.heap.size + 1 + 1, 1, none⟩, .int .i64 0) (by simp)
  have r2 := hT.cells (⟨w.heap.size + 1 + 1, 2, none⟩, .int .i64 0) (by simp)
  have r3 := hT.cells (⟨w.heap.size + 1 + 1, 3, none⟩, .int .i64 0) (by simp)
  have hba := (Below.refl wy.heap.size wy).alloc (Nat.le_refl _) (.cells #[.int .i64 0, .int .i64 0, .int .i64 128, .int .i64 0] 34)
  have r0 := (hb2.cell (p := ⟨w.heap.size + 1 + 1, 0, none⟩) (by show w.heap.size + 1 + 1 < _; simp; omega)).trans ((hba.cell (p := ⟨w.heap.size + 1 + 1, 0, none⟩) (by show w.heap.size + 1 + 1 < _; omega)).trans r0)
  have f0 := (hb2.frozen (p := ⟨w.heap.size + 1 + 1, 0, none⟩) (by show w.heap.size + 1 + 1 < _; simp; omega)).trans ((hba.frozen (p := ⟨w.heap.size + 1 + 1, 0, none⟩) (by show w.heap.size + 1 + 1 < _; omega)).trans f0)
  have r1 := (hb2.cell (p := ⟨w.heap.size + 1 + 1, 1, none⟩) (by show w.heap.size + 1 + 1 < _; simp; omega)).trans ((hba.cell (p := ⟨w.heap.size + 1 + 1, 1, none⟩) (by show w.heap.size + 1 + 1 < _; omega)).trans r1)
  have f1 := (hb2.frozen (p := ⟨w.heap.size + 1 + 1, 1, none⟩) (by show w.heap.size + 1 + 1 < _; simp; omega)).trans ((hba.frozen (p := ⟨w.heap.size + 1 + 1, 1, none⟩) (by show w.heap.size + 1 + 1 < _; omega)).trans f1)
  have r2 := (hb2.cell (p := ⟨w.heap.size + 1 + 1, 2, none⟩) (by show w.heap.size + 1 + 1 < _; simp; omega)).trans ((hba.cell (p := ⟨w.heap.size + 1 + 1, 2, none⟩) (by show w.heap.size + 1 + 1 < _; omega)).trans r2)
  have f2 := (hb2.frozen (p := ⟨w.heap.size + 1 + 1, 2, none⟩) (by show w.heap.size + 1 + 1 < _; simp; omega)).trans ((hba.frozen (p := ⟨w.heap.size + 1 + 1, 2, none⟩) (by show w.heap.size + 1 + 1 < _; omega)).trans f2)
  have r3 := (hb2.cell (p := ⟨w.heap.size + 1 + 1, 3, none⟩) (by show w.heap.size + 1 + 1 < _; simp; omega)).trans ((hba.cell (p := ⟨w.heap.size + 1 + 1, 3, none⟩) (by show w.heap.size + 1 + 1 < _; omega)).trans r3)
  have f3 := (hb2.frozen (p := ⟨w.heap.size + 1 + 1, 3, none⟩) (by show w.heap.size + 1 + 1 < _; simp; omega)).trans ((hba.frozen (p := ⟨w.heap.size + 1 + 1, 3, none⟩) (by show w.heap.size + 1 + 1 < _; omega)).trans f3)
  have d0 : w2.cell? ⟨wy.heap.size, 0, none⟩ = some (.int .i64 (0)) := by
    rw [hb2.cell (p := ⟨wy.heap.size, 0, none⟩) (by show wy.heap.size < _; simp <;> omega)]; simp [go_sem]
  have g0 : w2.frozen? ⟨wy.heap.size, 0, none⟩ = false := by
    rw [hb2.frozen (p := ⟨wy.heap.size, 0, none⟩) (by show wy.heap.size < _; simp <;> omega)]; simp [go_sem]
  have d1 : w2.cell? ⟨wy.heap.size, 1, none⟩ = some (.int .i64 (0)) := by
    rw [hb2.cell (p := ⟨wy.heap.size, 1, none⟩) (by show wy.heap.size < _; simp <;> omega)]; simp [go_sem]
  have g1 : w2.frozen? ⟨wy.heap.size, 1, none⟩ = false := by
    rw [hb2.frozen (p := ⟨wy.heap.size, 1, none⟩) (by show wy.heap.size < _; simp <;> omega)]; simp [go_sem]
  have d2 : w2.cell? ⟨wy.heap.size, 2, none⟩ = some (.int .i64 (128)) := by
    rw [hb2.cell (p := ⟨wy.heap.size, 2, none⟩) (by show wy.heap.size < _; simp <;> omega)]; simp [go_sem]
  have g2 : w2.frozen? ⟨wy.heap.size, 2, none⟩ = false := by
    rw [hb2.frozen (p := ⟨wy.heap.size, 2, none⟩) (by show wy.heap.size < _; simp <;> omega)]; simp [go_sem]
  have d3 : w2.cell? ⟨wy.heap.size, 3, none⟩ = some (.int .i64 (0)) := by
    rw [hb2.cell (p := ⟨wy.heap.size, 3, none⟩) (by show wy.heap.size < _; simp <;> omega)]; simp [go_sem]
  have g3 : w2.frozen? ⟨wy.heap.size, 3, none⟩ = false := by
    rw [hb2.frozen (p := ⟨wy.heap.size, 3, none⟩) (by show wy.heap.size < _; simp <;> omega)]; simp [go_sem]
  have hlt2 : wy.heap.size < w2.heap.size := by omega
  have hne : w.heap.size + 1 + 1 ≠ wy.heap.size := by omega
  have hle := hT.le
  clear hT hba hbe
  go_wp2_with fail
  refine (OW _).out.mono ?_
  rintro e w3 ⟨rfl, hb3⟩
  have hbs := (Below.refl wy.heap.size w2).setCell (p := ⟨wy.heap.size, 0, none⟩) (Nat.le_refl _) (.int .i64 0)
  have hs3 := hb3.size
  simp at hs3
  have r0 := (hb3.cell (p := ⟨w.heap.size + 1 + 1, 0, none⟩) (by show w.heap.size + 1 + 1 < _; simp; omega)).trans ((hbs.cell (p := ⟨w.heap.size + 1 + 1, 0, none⟩) (by show w.heap.size + 1 + 1 < _; omega)).trans r0)
  have f0 := (hb3.frozen (p := ⟨w.heap.size + 1 + 1, 0, none⟩) (by show w.heap.size + 1 + 1 < _; simp; omega)).trans ((hbs.frozen (p := ⟨w.heap.size + 1 + 1, 0, none⟩) (by show w.heap.size + 1 + 1 < _; omega)).trans f0)
  have r1 := (hb3.cell (p := ⟨w.heap.size + 1 + 1, 1, none⟩) (by show w.heap.size + 1 + 1 < _; simp; omega)).trans ((hbs.cell (p := ⟨w.heap.size + 1 + 1, 1, none⟩) (by show w.heap.size + 1 + 1 < _; omega)).trans r1)
  have f1 := (hb3.frozen (p := ⟨w.heap.size + 1 + 1, 1, none⟩) (by show w.heap.size + 1 + 1 < _; simp; omega)).trans ((hbs.frozen (p := ⟨w.heap.size + 1 + 1, 1, none⟩) (by show w.heap.size + 1 + 1 < _; omega)).trans f1)
  have r2 := (hb3.cell (p := ⟨w.heap.size + 1 + 1, 2, none⟩) (by show w.heap.size + 1 + 1 < _; simp; omega)).trans ((hbs.cell (p := ⟨w.heap.size + 1 + 1, 2, none⟩) (by show w.heap.size + 1 + 1 < _; omega)).trans r2)
  have f2 := (hb3.frozen (p := ⟨w.heap.size + 1 + 1, 2, none⟩) (by show w.heap.size + 1 + 1 < _; simp; omega)).trans ((hbs.frozen (p := ⟨w.heap.size + 1 + 1, 2, none⟩) (by show w.heap.size + 1 + 1 < _; omega)).trans f2)
  have r3 := (hb3.cell (p := ⟨w.heap.size + 1 + 1, 3, none⟩) (by show w.heap.size + 1 + 1 < _; simp; omega)).trans ((hbs.cell (p := ⟨w.heap.size + 1 + 1, 3, none⟩) (by show w.heap.size + 1 + 1 < _; omega)).trans r3)
  have f3 := (hb3.frozen (p := ⟨w.heap.size + 1 + 1, 3, none⟩) (by show w.heap.size + 1 + 1 < _; simp; omega)).trans ((hbs.frozen (p := ⟨w.heap.size + 1 + 1, 3, none⟩) (by show w.heap.size + 1 + 1 < _; omega)).trans f3)
  have d0 := (hb3.cell (p := ⟨wy.heap.size, 0, none⟩) (by show wy.heap.size < _; simp; omega)).trans (World.cell?_setCell_same _ _ _ d0)
  have g0 : w3.frozen? ⟨wy.heap.size, 0, none⟩ = false := (hb3.frozen (p := ⟨wy.heap.size, 0, none⟩) (by show wy.heap.size < _; simp; omega)).trans (by simp [go_sem, g0])
  have d1 := (hb3.cell (p := ⟨wy.heap.size, 1, none⟩) (by show wy.heap.size < _; simp; omega)).trans ((World.cell?_setCell_other _ _ _ _ (by simp)).trans d1)
  have g1 : w3.frozen? ⟨wy.heap.size, 1, none⟩ = false := (hb3.frozen (p := ⟨wy.heap.size, 1, none⟩) (by show wy.heap.size < _; simp; omega)).trans (by simp [go_sem, g1])
  have d2 := (hb3.cell (p := ⟨wy.heap.size, 2, none⟩) (by show wy.heap.size < _; simp; omega)).trans ((World.cell?_setCell_other _ _ _ _ (by simp)).trans d2)
  have g2 : w3.frozen? ⟨wy.heap.size, 2, none⟩ = false := (hb3.frozen (p := ⟨wy.heap.size, 2, none⟩) (by show wy.heap.size < _; simp; omega)).trans (by simp [go_sem, g2])
  have d3 := (hb3.cell (p := ⟨wy.heap.size, 3, none⟩) (by show wy.heap.size < _; simp; omega)).trans ((World.cell?_setCell_other _ _ _ _ (by simp)).trans d3)
  have g3 : w3.frozen? ⟨wy.heap.size, 3, none⟩ = false := (hb3.frozen (p := ⟨wy.heap.size, 3, none⟩) (by show wy.heap.size < _; simp; omega)).trans (by simp [go_sem, g3])
  have HB3 : Hid (Below w.heap.size w w3) := (HB2.out.trans (hbs.mono (by omega))).trans (hb3.mono (by simp; omega))
  have hlt3 : wy.heap.size < w3.heap.size := by omega
  clear hbs hb3 hb2
  go_wp2_with fail
  have z0 : (((((w3.setCell ⟨wy.heap.size, 1, none⟩ (.int .i64 128)).setCell ⟨w.heap.size + 1 + 1, 0, none⟩ (.int .i64 0)).setCell ⟨w.heap.size + 1 + 1, 1, none⟩ (.int .i64 128)).setCell ⟨w.heap.size + 1 + 1, 2, none⟩ (.int .i64 128)).setCell ⟨w.heap.size + 1 + 1, 3, none⟩ (.int .i64 0)).cell? ⟨w.heap.size + 1 + 1, 0, none⟩ = some (.int .i64 0) := ((World.cell?_setCell_other _ _ _ _ (by simp)).trans ((World.cell?_setCell_other _ _ _ _ (by simp)).trans ((World.cell?_setCell_other _ _ _ _ (by simp)).trans (World.cell?_setCell_same _ _ _ ((World.cell?_setCell_other _ _ _ _ (by simp <;> omega)).trans r0)))))
  have z1 : (((((w3.setCell ⟨wy.heap.size, 1, none⟩ (.int .i64 128)).setCell ⟨w.heap.size + 1 + 1, 0, none⟩ (.int .i64 0)).setCell ⟨w.heap.size + 1 + 1, 1, none⟩ (.int .i64 128)).setCell ⟨w.heap.size + 1 + 1, 2, none⟩ (.int .i64 128)).setCell ⟨w.heap.size + 1 + 1, 3, none⟩ (.int .i64 0)).cell? ⟨w.heap.size + 1 + 1, 1, none⟩ = some (.int .i64 128) := ((World.cell?_setCell_other _ _ _ _ (by simp)).trans ((World.cell?_setCell_other _ _ _ _ (by simp)).trans (World.cell?_setCell_same _ _ _ ((World.cell?_setCell_other _ _ _ _ (by simp)).trans ((World.cell?_setCell_other _ _ _ _ (by simp <;> omega)).trans r1)))))
  have z2 : (((((w3.setCell ⟨wy.heap.size, 1, none⟩ (.int .i64 128)).setCell ⟨w.heap.size + 1 + 1, 0, none⟩ (.int .i64 0)).setCell ⟨w.heap.size + 1 + 1, 1, none⟩ (.int .i64 128)).setCell ⟨w.heap.size + 1 + 1, 2, none⟩ (.int .i64 128)).setCell ⟨w.heap.size + 1 + 1, 3, none⟩ (.int .i64 0)).cell? ⟨w.heap.size + 1 + 1, 2, none⟩ = some (.int .i64 128) := ((World.cell?_setCell_other _ _ _ _ (by simp)).trans (World.cell?_setCell_same _ _ _ ((World.cell?_setCell_other _ _ _ _ (by simp)).trans ((World.cell?_setCell_other _ _ _ _ (by simp)).trans ((World.cell?_setCell_other _ _ _ _ (by simp <;> omega)).trans r2)))))
  have z3 : (((((w3.setCell ⟨wy.heap.size, 1, none⟩ (.int .i64 128)).setCell ⟨w.heap.size + 1 + 1, 0, none⟩ (.int .i64 0)).setCell ⟨w.heap.size + 1 + 1, 1, none⟩ (.int .i64 128)).setCell ⟨w.heap.size + 1 + 1, 2, none⟩ (.int .i64 128)).setCell ⟨w.heap.size + 1 + 1, 3, none⟩ (.int .i64 0)).cell? ⟨w.heap.size + 1 + 1, 3, none⟩ = some (.int .i64 0) := (World.cell?_setCell_same _ _ _ ((World.cell?_setCell_other _ _ _ _ (by simp)).trans ((World.cell?_setCell_other _ _ _ _ (by simp)).trans ((World.cell?_setCell_other _ _ _ _ (by simp)).trans ((World.cell?_setCell_other _ _ _ _ (by simp <;> omega)).trans r3)))))
  refine bodyPost_ret (v := .tuple #[.agg #[.int .i64 0, .int .i64 128, .int .i64 128, .int .i64 0], .bool true]) (by simp [results, Try.results26, go_sem, z0, z1, z2, z3]) rfl ⟨rfl, ?_⟩
  exact ((((HB3.out.setCell (by simp; omega) _).setCell (by simp; omega) _).setCell (by simp; omega) _).setCell (by simp; omega) _).setCell (by simp; omega) _
set_option maxHeartbeats 1000000 in
theorem awake_any (w : World) : Calls Try.prog 10 #[] w fun e w' => e = .returned (.bool true) ∧ Below w.heap.size w w' := by
  have M1 := fun w => Lib.hid (middle_aw w)
  have L1 := fun w => Lib.hid (length_aw w)
  have F1 := fun w => Lib.hid (flatP_any 128 4032 w (by omega) (by omega))
  go_enter Try.func10, Try.ntmps10
  go_wp2_with fail
  refine (M1 _).out.mono ?_
  rintro e w1 ⟨rfl, hb1⟩
  go_wp2_with fail
  refine (L1 _).out.mono ?_
  rintro e w2 ⟨rfl, hb2⟩
  go_wp2_with fail
  refine (F1 _).out.mono ?_
  rintro e w' ⟨rfl, rfl⟩
  go_wp2_with fail
  go_ret
  exact ⟨rfl, (hb1.alloc hb1.size _).trans (hb2.mono (by have := hb1.size; simp; omega))⟩
end Go.Proofs.Ytkjjoclbjkpdaaa
namespace Go.Proofs.Ytkjjoclbjkpdaaa
open Go.RowKit
set_option linter.unusedVariables false
def Sk (u w : Int) : Prop := (-94906268 ≤ u ∧ u ≤ 94906268) ∧ -94906268 ≤ w ∧ w ≤ 94906268
theorem mul_bdK {x y : Int} (h1 : -94906268 ≤ x) (h2 : x ≤ 94906268) (h3 : -94906268 ≤ y) (h4 : y ≤ 94906268) : -9007199705687824 ≤ x * y ∧ x * y ≤ 9007199705687824 := by
  have e : (x * y).natAbs ≤ 94906268 * 94906268 := by rw [Int.natAbs_mul]; exact Nat.mul_le_mul (by omega) (by omega)
  omega
set_option maxHeartbeats 1000000 in
theorem dotP_any (aU aW aR aH bU bW bR bH : Int) (w : World) (hp : Sk aU aW) (hq : Sk bU bW) :
    Calls Try.prog 33 #[.agg #[.int .i64 aU, .int .i64 aW, .int .i64 aR, .int .i64 aH], .agg #[.int .i64 bU, .int .i64 bW, .int .i64 bR, .int .i64 bH]] w fun e w' => e = .returned (.int .i64 (aU * bU + aW * bW)) ∧ Below w.heap.size w w' := by
  obtain ⟨h1, h2⟩ := mul_bdK hp.1.1 hp.1.2 hq.1.1 hq.1.2
  obtain ⟨h3, h4⟩ := mul_bdK hp.2.1 hp.2.2 hq.2.1 hq.2.2
  clear hp hq
  go_enter Try.func33, Try.ntmps33
  go_wp2_with fail
  go_ret
  exact ⟨rfl, (((Below.refl _ _).alloc (Nat.le_refl _) _).alloc (by simp) _)⟩
set_option maxHeartbeats 1000000 in
theorem crossP_any (aU aW aR aH bU bW bR bH : Int) (w : World) (hp : Sk aU aW) (hq : Sk bU bW) :
    Calls Try.prog 45 #[.agg #[.int .i64 aU, .int .i64 aW, .int .i64 aR, .int .i64 aH], .agg #[.int .i64 bU, .int .i64 bW, .int .i64 bR, .int .i64 bH]] w fun e w' => e = .returned (.int .i64 (aU * bW - aW * bU)) ∧ Below w.heap.size w w' := by
  obtain ⟨h1, h2⟩ := mul_bdK hp.1.1 hp.1.2 hq.2.1 hq.2.2
  obtain ⟨h3, h4⟩ := mul_bdK hp.2.1 hp.2.2 hq.1.1 hq.1.2
  clear hp hq
  go_enter Try.func45, Try.ntmps45
  go_wp2_with fail
  go_ret
  exact ⟨rfl, (((Below.refl _ _).alloc (Nat.le_refl _) _).alloc (by simp) _)⟩
set_option maxHeartbeats 1000000 in
theorem dotR_any (aU aW aR aH bU bW bR bH : Int) (w : World) (hp : Sk aU aW) (hq : Sk bU bW) :
    Calls Try.prog 14 #[.agg #[.int .i64 aU, .int .i64 aW, .int .i64 aR, .int .i64 aH], .agg #[.int .i64 bU, .int .i64 bW, .int .i64 bR, .int .i64 bH]] w fun e w' => e = .returned (.int .i64 (aU * bU + aW * bW)) ∧ Below w.heap.size w w' := by
  obtain ⟨h1, h2⟩ := mul_bdK hp.1.1 hp.1.2 hq.1.1 hq.1.2
  obtain ⟨h3, h4⟩ := mul_bdK hp.2.1 hp.2.2 hq.2.1 hq.2.2
  clear hp hq
  go_enter Try.func14, Try.ntmps14
  go_wp2_with fail
  go_ret
  exact ⟨rfl, (((Below.refl _ _).alloc (Nat.le_refl _) _).alloc (by simp) _)⟩
set_option maxHeartbeats 1000000 in
theorem crossR_any (aU aW aR aH bU bW bR bH : Int) (w : World) (hp : Sk aU aW) (hq : Sk bU bW) :
    Calls Try.prog 15 #[.agg #[.int .i64 aU, .int .i64 aW, .int .i64 aR, .int .i64 aH], .agg #[.int .i64 bU, .int .i64 bW, .int .i64 bR, .int .i64 bH]] w fun e w' => e = .returned (.int .i64 (aU * bW - aW * bU)) ∧ Below w.heap.size w w' := by
  obtain ⟨h1, h2⟩ := mul_bdK hp.1.1 hp.1.2 hq.2.1 hq.2.2
  obtain ⟨h3, h4⟩ := mul_bdK hp.2.1 hp.2.2 hq.1.1 hq.1.2
  clear hp hq
  go_enter Try.func15, Try.ntmps15
  go_wp2_with fail
  go_ret
  exact ⟨rfl, (((Below.refl _ _).alloc (Nat.le_refl _) _).alloc (by simp) _)⟩
set_option maxHeartbeats 1000000 in
theorem half_any (a b : Int) (w : World) (ha : -94906268 ≤ a) (ha2 : a ≤ 94906268) (hb : -94906268 ≤ b) (hb2 : b ≤ 94906268) :
    Calls Try.prog 76 #[.int .i64 a, .int .i64 b] w fun e w' => e = .returned (.int .i64 ((a + b + 1) / 2)) ∧ w = w' := by
  go_enter Try.func76, Try.ntmps76
  go_wp2_with fail
  go_ret
  exact ⟨rfl, rfl⟩
end Go.Proofs.Ytkjjoclbjkpdaaa
namespace Go.Proofs.Ytkjjoclbjkpdaaa
open Go.RowKit
set_option linter.unusedVariables false
theorem low_word (x y l m : Nat) (hx : x < 18446744073709551616) (hy : y < 18446744073709551616) (hl : l = x % 4294967296 * (y % 4294967296)) (hm : m % 4294967296 = ((x / 4294967296 * (y % 4294967296) + l / 4294967296) % 4294967296 + x % 4294967296 * (y / 4294967296)) % 4294967296) :
    m % 4294967296 * 4294967296 + l % 4294967296 = x * y % 18446744073709551616 := by
  have ex := Nat.div_add_mod x 4294967296
  have ey := Nat.div_add_mod y 4294967296
  generalize x / 4294967296 = x1 at *
  generalize x % 4294967296 = x0 at *
  generalize y / 4294967296 = y1 at *
  generalize y % 4294967296 = y0 at *
  have e : x * y = 18446744073709551616 * (x1 * y1) + 4294967296 * (x1 * y0 + x0 * y1) + x0 * y0 := by rw [← ex, ← ey]; grind
  rw [e, hm, hl]
  generalize x1 * y1 = A
  generalize x1 * y0 = B
  generalize x0 * y1 = C
  generalize x0 * y0 = D
  omega
set_option maxHeartbeats 1000000 in
theorem productK_any (x y : Nat) (w : World) (hx : x < 18446744073709551616) (hy : y < 18446744073709551616) :
    Calls Try.prog 86 #[.int .u64 x, .int .u64 y] w fun e w' => e = .returned (.tuple #[.int .u64 ((x * y / 18446744073709551616 : Nat) : Int), .int .u64 ((x * y % 18446744073709551616 : Nat) : Int)]) ∧ w = w' := by
  go_enter Try.func86, Try.ntmps86
  go_wp2
  go_ret2
  refine ⟨ret_uu ?_ ?_, rfl⟩
  · have s := school x y hx hy
    rw [← s, Int.add_comm (IntKind.u64.wrap (bits BinOp.and IntKind.u64 (x : Int) 4294967295 * ((y : Int) / 4294967296))) _]
  · obtain ⟨b1, b2, b3, _⟩ := Lib.mul64_hi x y hx hy
    have p10 := Lib.half_mul_le (a := x / 4294967296) (b := y % 4294967296) (by omega) (by omega)
    have p01 := Lib.half_mul_le (a := x % 4294967296) (b := y / 4294967296) (by omega) (by omega)
    rw [mask32 x hx, mask32 y hy, half32 x, half32 y]
    simp only [mulU, wrapU b1, half32]
    rw [wrapU (a := x / 4294967296 * (y % 4294967296)) (by omega), wrapU (a := x % 4294967296 * (y / 4294967296)) (by omega)]
    have h1 : IntKind.u64.wrap (((x / 4294967296 * (y % 4294967296) : Nat) : Int) + ((x % 4294967296 * (y % 4294967296) / 4294967296 : Nat) : Int)) = ((x / 4294967296 * (y % 4294967296) + x % 4294967296 * (y % 4294967296) / 4294967296 : Nat) : Int) := by rw [addU, wrapU b2]
    rw [h1, mask32 _ b2, mask32 _ b1]
    have h2 : IntKind.u64.wrap (((x % 4294967296 * (y / 4294967296) : Nat) : Int) + (((x / 4294967296 * (y % 4294967296) + x % 4294967296 * (y % 4294967296) / 4294967296) % 4294967296 : Nat) : Int)) = ((x % 4294967296 * (y / 4294967296) + (x / 4294967296 * (y % 4294967296) + x % 4294967296 * (y % 4294967296) / 4294967296) % 4294967296 : Nat) : Int) := by rw [addU, wrapU (by omega)]
    rw [h2]
    have lw := low_word x y _ (x % 4294967296 * (y / 4294967296) + (x / 4294967296 * (y % 4294967296) + x % 4294967296 * (y % 4294967296) / 4294967296) % 4294967296) hx hy rfl (by rw [Nat.add_comm (x % 4294967296 * (y / 4294967296))])
    generalize x % 4294967296 * (y / 4294967296) + (x / 4294967296 * (y % 4294967296) + x % 4294967296 * (y % 4294967296) / 4294967296) % 4294967296 = m at *
    generalize x % 4294967296 * (y % 4294967296) = l at *
    have e : (m : Int) * 4294967296 = ((m * 4294967296 : Nat) : Int) := by omega
    have e2 : m * 4294967296 % 18446744073709551616 = m % 4294967296 * 4294967296 := by omega
    have h32 : (2 : Nat) ^ 32 = 4294967296 := by decide
    have k1 : m % 4294967296 * 4294967296 % 2 ^ 32 = 0 := by rw [h32]; exact Nat.mul_mod_left _ _
    have k2 : l % 4294967296 < 2 ^ 32 := by rw [h32]; exact Nat.mod_lt _ (by decide)
    have k3 : m % 4294967296 * 4294967296 < 18446744073709551616 := by omega
    have k4 : l % 4294967296 < 18446744073709551616 := by omega
    rw [e, wrapUm, e2, or_bit k3 k4 k1 k2, lw]
def mostI (P Q : Nat) (strict : Bool) : Bool := decide (P < Q) || (decide (P = Q) && !strict)
set_option maxHeartbeats 1000000 in
theorem most_any (a b c d : Nat) (st : Bool) (w : World) (ha : a < 18446744073709551616) (hb : b < 18446744073709551616) (hc : c < 18446744073709551616) (hd : d < 18446744073709551616) :
    Calls Try.prog 83 #[.int .u64 a, .int .u64 b, .int .u64 c, .int .u64 d, .bool st] w fun e w' => e = .returned (.bool (mostI (a * b) (c * d) st)) ∧ w = w' := by
  have P1 := fun w => Lib.hid (productK_any a b w ha hb)
  have P2 := fun w => Lib.hid (productK_any c d w hc hd)
  have HM : Hid (mostI (a * b) (c * d) st = (decide (a * b < c * d) || (decide (a * b = c * d) && !st))) := rfl
  generalize mostI (a * b) (c * d) st = r at *
  generalize a * b = P at *
  generalize c * d = Q at *
  have eP := Nat.div_add_mod P 18446744073709551616
  have eQ := Nat.div_add_mod Q 18446744073709551616
  have mP := Nat.mod_lt P (show 18446744073709551616 > 0 by decide)
  have mQ := Nat.mod_lt Q (show 18446744073709551616 > 0 by decide)
  generalize P / 18446744073709551616 = h at *
  generalize P % 18446744073709551616 = l at *
  generalize Q / 18446744073709551616 = i at *
  generalize Q % 18446744073709551616 = m at *
  rcases Nat.lt_trichotomy h i with g | g | g
  · have HR : Hid (r = true) := by show r = true; rw [HM.out, decide_eq_true (show P < Q by omega)]; rfl
    have g' : (h : Int) < i := by omega
    clear g eP eQ mP mQ HM
    (
      go_enter Try.func83, Try.ntmps83
      go_wp2_with fail
      refine (P1 _).out.mono ?_
      rintro e w' ⟨rfl, rfl⟩
      go_wp2_with fail
      refine (P2 _).out.mono ?_
      rintro e w' ⟨rfl, rfl⟩
      go_wp2_with fail
      go_ret
      exact ⟨by rw [HR.out]; rfl, rfl⟩
    )
  · rcases Nat.lt_trichotomy l m with k | k | k
    · have HR : Hid (r = true) := by show r = true; rw [HM.out, decide_eq_true (show P < Q by omega)]; rfl
      have k' : (l : Int) < m := by omega
      subst g
      clear k eP eQ mP mQ HM
      go_enter Try.func83, Try.ntmps83
      go_wp2_with fail
      refine (P1 _).out.mono ?_
      rintro e w' ⟨rfl, rfl⟩
      go_wp2_with fail
      refine (P2 _).out.mono ?_
      rintro e w' ⟨rfl, rfl⟩
      go_wp2_with fail
      go_ret
      exact ⟨by rw [HR.out]; rfl, rfl⟩
    · have HR : Hid (r = !st) := by show r = !st; rw [HM.out, decide_eq_false (show ¬ P < Q by omega), decide_eq_true (show P = Q by omega)]; simp
      subst g k
      clear eP eQ mP mQ HM
      cases st
      all_goals
        go_enter Try.func83, Try.ntmps83
        go_wp2_with fail
        refine (P1 _).out.mono ?_
        rintro e w' ⟨rfl, rfl⟩
        go_wp2_with fail
        refine (P2 _).out.mono ?_
        rintro e w' ⟨rfl, rfl⟩
        go_wp2_with fail
        go_ret
        exact ⟨by rw [HR.out]; rfl, rfl⟩
    · have HR : Hid (r = false) := by show r = false; rw [HM.out, decide_eq_false (show ¬ P < Q by omega), decide_eq_false (show ¬ P = Q by omega)]; rfl
      have k' : (m : Int) < l := by omega
      have e1 : ((l : Int) == m) = false := by simp; omega
      have e3 : decide (l < m) = false := decide_eq_false (by omega)
      subst g
      clear k eP eQ mP mQ HM
      go_enter Try.func83, Try.ntmps83
      go_wp2_with fail
      refine (P1 _).out.mono ?_
      rintro e w' ⟨rfl, rfl⟩
      go_wp2_with fail
      refine (P2 _).out.mono ?_
      rintro e w' ⟨rfl, rfl⟩
      go_wp2_with fail
      go_ret
      exact ⟨by rw [HR.out]; rfl, rfl⟩
  · have HR : Hid (r = false) := by show r = false; rw [HM.out, decide_eq_false (show ¬ P < Q by omega), decide_eq_false (show ¬ P = Q by omega)]; rfl
    have g' : (i : Int) < h := by omega
    have e1 : ((h : Int) == i) = false := by simp; omega
    have e3 : decide (h < i) = false := decide_eq_false (by omega)
    clear g eP eQ mP mQ HM
    (
      go_enter Try.func83, Try.ntmps83
      go_wp2_with fail
      refine (P1 _).out.mono ?_
      rintro e w' ⟨rfl, rfl⟩
      go_wp2_with fail
      refine (P2 _).out.mono ?_
      rintro e w' ⟨rfl, rfl⟩
      go_wp2_with fail
      go_ret
      exact ⟨by rw [HR.out]; rfl, rfl⟩
    )
end Go.Proofs.Ytkjjoclbjkpdaaa
namespace Go.Proofs.Ytkjjoclbjkpdaaa
open Go.RowKit
set_option linter.unusedVariables false
def nrT (x r n : Int) : Nat := rtN (x.natAbs * r.natAbs * (x.natAbs * r.natAbs) / n.natAbs)
def nrN (x r n : Int) : Nat := nrT x r n + (if mostI ((2 * nrT x r n + 1) * (2 * nrT x r n + 1) * n.natAbs) (2 * (x.natAbs * r.natAbs) * (2 * (x.natAbs * r.natAbs))) (decide (x < 0)) then 1 else 0)
theorem nrT_le {X r n : Nat} (hn : 0 < n) (hx : X * X ≤ n) (hb : X * r * (X * r) / n < 340282366920938463463374607431768211456) : rtN (X * r * (X * r) / n) ≤ r := by
  have s := rtN_spec _ hb
  refine Nat.le_of_not_lt fun hc => ?_
  have h1 := sq_mono (show r + 1 ≤ rtN (X * r * (X * r) / n) from hc)
  have h2 : X * r * (X * r) / n ≤ r * r := by
    refine Nat.le_of_lt_succ ((Nat.div_lt_iff_lt_mul hn).2 ?_)
    have e : X * r * (X * r) = X * X * (r * r) := by grind
    have h3 := Nat.mul_le_mul_right (r * r) hx
    rw [e, Nat.succ_mul]
    have : n * (r * r) = r * r * n := Nat.mul_comm _ _
    omega
  have e2 : (r + 1) * (r + 1) = r * r + 2 * r + 1 := by grind
  omega
theorem near_test {A d t : Nat} (hd : 0 < d) (hA : A * A < 340282366920938463463374607431768211456) : mostI (t * t * d) (A * A) false = decide (t ≤ rtN (A * A / d)) := by
  have h := ot_test (X := A * A) (d := d) (t := t) hd hA
  unfold mostI
  by_cases g : t ≤ rtN (A * A / d)
  · have h1 := h.2 g
    rw [decide_eq_true g]
    have h2 : t * t * d ≤ A * A := by unfold cmpN at h1; (repeat' split at h1) <;> omega
    rcases Nat.lt_or_eq_of_le h2 with k | k
    · rw [decide_eq_true k]; rfl
    · rw [decide_eq_true k]; simp
  · rw [decide_eq_false g]
    have h1 := mt h.1 g
    have h2 : ¬ t * t * d ≤ A * A := by
      intro h3; apply h1; unfold cmpN; (repeat' split) <;> omega
    rw [decide_eq_false (show ¬ t * t * d < A * A by omega), decide_eq_false (show ¬ t * t * d = A * A by omega)]; rfl
set_option maxHeartbeats 4000000 in
set_option maxRecDepth 20000 in
theorem near_any (x r n : Int) (w : World) (hx : -94906268 ≤ x) (hx2 : x ≤ 94906268) (hr : 0 ≤ r) (hr2 : r ≤ 94906268) (hn : 1 ≤ n) (hn2 : n ≤ 36028797018963968) (hxn : x.natAbs * x.natAbs ≤ n.natAbs) :
    Calls Try.prog 77 #[.int .i64 x, .int .i64 r, .int .i64 n] w fun e w' => e = .returned (.int .i64 (if x < 0 then -(nrN x r n : Int) else nrN x r n)) ∧ w = w' := by
  obtain ⟨R, rfl⟩ := Int.eq_ofNat_of_zero_le hr
  obtain ⟨d, rfl⟩ := Int.eq_ofNat_of_zero_le (show 0 ≤ n by omega)
  have HNN : Hid (nrN x R d = nrT x R d + (if mostI ((2 * nrT x R d + 1) * (2 * nrT x R d + 1) * d) (2 * (x.natAbs * R) * (2 * (x.natAbs * R))) (decide (x < 0)) then 1 else 0)) := rfl
  have hA := Nat.mul_le_mul (show x.natAbs ≤ 94906268 by omega) (show R ≤ 94906268 by omega)
  have hT := nrT_le (X := x.natAbs) (r := R) (n := d) (by omega) hxn (Nat.lt_of_le_of_lt (Nat.div_le_self _ _) (Nat.lt_of_le_of_lt (Nat.mul_le_mul hA hA) (by decide)))
  have HTT := fun t => Lib.hid (near_test (A := x.natAbs * R) (d := d) (t := t) (by omega) (Nat.lt_of_le_of_lt (Nat.mul_le_mul hA hA) (by decide)))
  have HTE : nrT x R d = rtN (x.natAbs * R * (x.natAbs * R) / d) := rfl
  rw [← HTE] at hT
  have HTT := fun t => Lib.hid (show mostI (t * t * d) (x.natAbs * R * (x.natAbs * R)) false = decide (t ≤ nrT x R d) from (HTT t).out)
  generalize nrN x R d = N at *
  generalize nrT x R d = T at *
  clear HTE hxn
  obtain ⟨A, hAe⟩ : ∃ A, x.natAbs * R = A := ⟨_, rfl⟩
  rw [hAe] at HTT HNN hA
  have HAE := Lib.hid hAe
  have hTb : T ≤ 94906268 := by omega
  have MO := fun t w h => Lib.hid (most_any (t * t) d A A false w h (by omega) (by omega) (by omega))
  have MF := fun st w => Lib.hid (most_any ((2 * T + 1) * (2 * T + 1)) d (2 * A) (2 * A) st w (Nat.lt_of_le_of_lt (Nat.mul_le_mul (show 2 * T + 1 ≤ 189812537 by omega) (show 2 * T + 1 ≤ 189812537 by omega)) (by decide)) (by omega) (by omega) (by omega))
  have HT := Lib.hid hTb
  have hm : max x (-x) * (R : Int) = (A : Int) := by rw [← hAe, Int.natCast_mul]; congr 1; omega
  have HMX : Hid (IntKind.u64.wrap (wrap64 (max x (-x) * (R : Int))) = (A : Int)) := by
    show IntKind.u64.wrap (wrap64 (max x (-x) * (R : Int))) = _
    rw [hm]
    have : wrap64 (A : Int) = A := by unfold wrap64; omega
    rw [this]; exact wrapU (by omega)
  have hA0 : (A : Int) ≤ 9007199705687824 := by omega
  clear hAe hT hm
  go_enter Try.func77, Try.ntmps77
  go_upto_region 2 with fail
  rewrite [HMX.out]
  go_wp2_with fail
  go_loopw [9, 10] (fun s t wr => ∃ q k : Nat, s = .int .u64 (q : Int) ∧ t = .int .u64 (bitK k : Int) ∧ k ≤ 28 ∧ BI T k q ∧ wr = w) (fun _ t _ => (intOf t).toNat)
  case atStart => exact ⟨0, 28, rfl, by rw [show bitK 28 = 134217728 by decide]; rfl, by decide, BI.start (by omega), rfl⟩
  case round =>
  obtain ⟨q, k, rfl, rfl, hk, hbi, rfl⟩ := hrel
  have HBI := Lib.hid hbi
  clear hbi
  cases k with
  | zero =>
    rw [bitK_zero]
    obtain rfl : q = T := HBI.out.done
    have hq : (q : Int) ≤ 94906268 := by omega
    clear HTT MO HBI
    have HE1 : Hid (IntKind.u64.wrap ((2 * (q : Int) + 1) * (2 * (q : Int) + 1)) = (((2 * q + 1) * (2 * q + 1) : Nat) : Int)) := by
      show IntKind.u64.wrap ((2 * (q : Int) + 1) * (2 * (q : Int) + 1)) = _
      have e : 2 * (q : Int) + 1 = ((2 * q + 1 : Nat) : Int) := by omega
      rw [e, mulU]
      exact wrapU (Nat.lt_of_le_of_lt (Nat.mul_le_mul (show 2 * q + 1 ≤ 189812537 by omega) (show 2 * q + 1 ≤ 189812537 by omega)) (by decide))
    have MF1 := MF (decide (x < 0)) wr
    rw [show ((2 * A : Nat) : Int) = 2 * (A : Int) from Int.natCast_mul 2 A] at MF1
    clear MF
    by_cases h0 : x < 0
    · rw [decide_eq_true h0] at MF1 HNN
      cases hb : mostI ((2 * q + 1) * (2 * q + 1) * d) (2 * A * (2 * A)) true
      · have HF : Hid (N = q) := by have h := HNN.out; rw [hb] at h; exact h
        rw [hb] at MF1
        clear hb HNN
        go_wp2_with fail
        rewrite [HE1.out]
        refine MF1.out.mono ?_
        rintro e w' ⟨rfl, rfl⟩
        go_wp2_with fail
        go_ret
        exact ⟨by rw [HF.out]; rfl, rfl⟩
      · have HF : Hid (N = q + 1) := by have h := HNN.out; rw [hb] at h; exact h
        rw [hb] at MF1
        clear hb HNN
        go_wp2_with fail
        rewrite [HE1.out]
        refine MF1.out.mono ?_
        rintro e w' ⟨rfl, rfl⟩
        go_wp2_with fail
        go_ret
        exact ⟨by rw [HF.out]; rfl, rfl⟩
    · rw [decide_eq_false h0] at MF1 HNN
      cases hb : mostI ((2 * q + 1) * (2 * q + 1) * d) (2 * A * (2 * A)) false
      · have HF : Hid (N = q) := by have h := HNN.out; rw [hb] at h; exact h
        rw [hb] at MF1
        clear hb HNN
        go_wp2_with fail
        rewrite [HE1.out]
        refine MF1.out.mono ?_
        rintro e w' ⟨rfl, rfl⟩
        go_wp2_with fail
        go_ret
        exact ⟨by rw [HF.out]; rfl, rfl⟩
      · have HF : Hid (N = q + 1) := by have h := HNN.out; rw [hb] at h; exact h
        rw [hb] at MF1
        clear hb HNN
        go_wp2_with fail
        rewrite [HE1.out]
        refine MF1.out.mono ?_
        rintro e w' ⟨rfl, rfl⟩
        go_wp2_with fail
        go_ret
        exact ⟨by rw [HF.out]; rfl, rfl⟩
  | succ j =>
    rw [bitK_succ]
    have HH := Lib.hid (bitK_half (j + 1))
    have hjb : 2 ^ j ≤ 134217728 := Nat.le_trans (Nat.pow_le_pow_right (by decide) (show j ≤ 27 by omega)) (by decide)
    have hj0 := Nat.pow_pos (n := j) (show 0 < 2 by decide)
    have hqT := HBI.out.le
    have HY : Hid (q + 2 ^ j ≤ T → BI T j (q + 2 ^ j)) := HBI.out.yes
    have HN : Hid (¬ q + 2 ^ j ≤ T → BI T j q) := HBI.out.no
    have HB2 : Hid (((2 ^ j : Nat) : Int) / 2 = (bitK j : Int)) := rfl
    obtain ⟨b, hb⟩ : ∃ b, 2 ^ j = b := ⟨_, rfl⟩
    rw [hb] at HY HN hjb hj0 HB2 ⊢
    clear hb HH
    obtain ⟨t, ht⟩ : ∃ t, q + b = t := ⟨_, rfl⟩
    rw [ht] at HY HN
    have HTQ : Hid ((q : Int) + b = (t : Int)) := by show _ = _; omega
    have ht1 : t ≤ 229123996 := by omega
    have htt := Nat.mul_le_mul ht1 ht1
    have hb0 : (0 : Int) < b := by omega
    go_upto_region 5 with fail
    have HSQ : Hid (IntKind.u64.wrap (((q : Int) + b) * ((q : Int) + b)) = ((t * t : Nat) : Int)) := by
      show IntKind.u64.wrap (((q : Int) + b) * ((q : Int) + b)) = _
      rw [HTQ.out, mulU]; exact wrapU (by omega)
    have HC := MO t wr (by omega)
    rw [(HTT t).out] at HC
    clear MO HTT htt
    by_cases hc : t ≤ T
    · have HQ := Lib.hid (HY.out hc)
      rw [decide_eq_true hc] at HC
      clear HY HN hc
      go_wp2_with fail
      rewrite [HSQ.out]
      refine HC.out.mono ?_
      rintro e w' ⟨rfl, rfl⟩
      go_wp2_with fail
      go_roundw
      case rel => exact ⟨t, j, by rw [← HTQ.out], by rw [← HB2.out], by omega, HQ.out, trivial⟩
      case measure => simp [intOf]; omega
    · have HQ := Lib.hid (HN.out hc)
      rw [decide_eq_false hc] at HC
      clear HY HN hc
      go_wp2_with fail
      rewrite [HSQ.out]
      refine HC.out.mono ?_
      rintro e w' ⟨rfl, rfl⟩
      go_wp2_with fail
      go_roundw
      case rel => exact ⟨q, j, rfl, by rw [← HB2.out], by omega, HQ.out, trivial⟩
      case measure => simp [intOf]; omega
end Go.Proofs.Ytkjjoclbjkpdaaa
