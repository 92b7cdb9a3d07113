/- Proved here: the sanity check of the laws of chapter 23; CurveFlat returns true for every argument; no conditions but that integers are ints. -/
import Derived.Test.YtiolnpkieooceaaKa1
namespace Go.Proofs.Ytiolnpkieooceaa
open Go.RowKit
set_option linter.unusedVariables false
set_option linter.unusedSimpArgs false
set_option maxHeartbeats 4000000 in
set_option maxRecDepth 20000 in
theorem middle_aw (w : World) : Calls Try.prog 16 #[.agg #[.int .i64 128, .int .i64 0, .int .i64 128, .int .i64 0], .agg #[.int .i64 (-128), .int .i64 0, .int .i64 128, .int .i64 0], .int .i64 1, .bool false] w fun e w' => e = .returned (.tuple #[.agg #[.int .i64 0, .int .i64 128, .int .i64 128, .int .i64 0], .bool true]) ∧ Below w.heap.size w w' := by
  have OU := fun w => Lib.hid (over_any 0 128 65536 2 w (by omega) (by omega) (by omega) (by omega))
  have OW := fun w => Lib.hid (over_any 256 128 65536 2 w (by omega) (by omega) (by omega) (by omega))
  rw [aw_u.1, aw_u.2] at OU
  rw [aw_w.1, aw_w.2] at OW
  go_enter Try.func16, Try.ntmps16
  go_wp2_with fail
  go_quiet (fail)
  go_wp2_with fail
  refine (dot_aw _).mono ?_
  rintro e w1 ⟨rfl, hb1⟩
  have c0 : w1.cell? ⟨w.heap.size, 0, none⟩ = some (.int .i64 (128)) := by
    rw [hb1.cell (p := ⟨w.heap.size, 0, none⟩) (by show w.heap.size < _; simp <;> omega)]; simp [go_sem]
  have c1 : w1.cell? ⟨w.heap.size, 1, none⟩ = some (.int .i64 (0)) := by
    rw [hb1.cell (p := ⟨w.heap.size, 1, none⟩) (by show w.heap.size < _; simp <;> omega)]; simp [go_sem]
  have c2 : w1.cell? ⟨w.heap.size, 2, none⟩ = some (.int .i64 (128)) := by
    rw [hb1.cell (p := ⟨w.heap.size, 2, none⟩) (by show w.heap.size < _; simp <;> omega)]; simp [go_sem]
  have c3 : w1.cell? ⟨w.heap.size, 3, none⟩ = some (.int .i64 (0)) := by
    rw [hb1.cell (p := ⟨w.heap.size, 3, none⟩) (by show w.heap.size < _; simp <;> omega)]; simp [go_sem]
  have c4 : w1.cell? ⟨w.heap.size + 1, 0, none⟩ = some (.int .i64 (-128)) := by
    rw [hb1.cell (p := ⟨w.heap.size + 1, 0, none⟩) (by show w.heap.size + 1 < _; simp <;> omega)]; simp [go_sem]
  have c5 : w1.cell? ⟨w.heap.size + 1, 1, none⟩ = some (.int .i64 (0)) := by
    rw [hb1.cell (p := ⟨w.heap.size + 1, 1, none⟩) (by show w.heap.size + 1 < _; simp <;> omega)]; simp [go_sem]
  have c6 : w1.cell? ⟨w.heap.size + 1, 2, none⟩ = some (.int .i64 (128)) := by
    rw [hb1.cell (p := ⟨w.heap.size + 1, 2, none⟩) (by show w.heap.size + 1 < _; simp <;> omega)]; simp [go_sem]
  have c7 : w1.cell? ⟨w.heap.size + 1, 3, none⟩ = some (.int .i64 (0)) := by
    rw [hb1.cell (p := ⟨w.heap.size + 1, 3, none⟩) (by show w.heap.size + 1 < _; simp <;> omega)]; simp [go_sem]
  have c8 : w1.cell? ⟨w.heap.size + 1 + 1, 0, none⟩ = some (.int .i64 (0)) := by
    rw [hb1.cell (p := ⟨w.heap.size + 1 + 1, 0, none⟩) (by show w.heap.size + 1 + 1 < _; simp <;> omega)]; simp [go_sem]
  have c9 : w1.cell? ⟨w.heap.size + 1 + 1, 1, none⟩ = some (.int .i64 (0)) := by
    rw [hb1.cell (p := ⟨w.heap.size + 1 + 1, 1, none⟩) (by show w.heap.size + 1 + 1 < _; simp <;> omega)]; simp [go_sem]
  have c10 : w1.cell? ⟨w.heap.size + 1 + 1, 2, none⟩ = some (.int .i64 (0)) := by
    rw [hb1.cell (p := ⟨w.heap.size + 1 + 1, 2, none⟩) (by show w.heap.size + 1 + 1 < _; simp <;> omega)]; simp [go_sem]
  have c11 : w1.cell? ⟨w.heap.size + 1 + 1, 3, none⟩ = some (.int .i64 (0)) := by
    rw [hb1.cell (p := ⟨w.heap.size + 1 + 1, 3, none⟩) (by show w.heap.size + 1 + 1 < _; simp <;> omega)]; simp [go_sem]
  have f0 : w1.frozen? ⟨w.heap.size + 1 + 1, 0, none⟩ = false := by
    rw [hb1.frozen (p := ⟨w.heap.size + 1 + 1, 0, none⟩) (by show w.heap.size + 1 + 1 < _; simp)]; simp [go_sem]
  have f1 : w1.frozen? ⟨w.heap.size + 1 + 1, 1, none⟩ = false := by
    rw [hb1.frozen (p := ⟨w.heap.size + 1 + 1, 1, none⟩) (by show w.heap.size + 1 + 1 < _; simp)]; simp [go_sem]
  have f2 : w1.frozen? ⟨w.heap.size + 1 + 1, 2, none⟩ = false := by
    rw [hb1.frozen (p := ⟨w.heap.size + 1 + 1, 2, none⟩) (by show w.heap.size + 1 + 1 < _; simp)]; simp [go_sem]
  have f3 : w1.frozen? ⟨w.heap.size + 1 + 1, 3, none⟩ = false := by
    rw [hb1.frozen (p := ⟨w.heap.size + 1 + 1, 3, none⟩) (by show w.heap.size + 1 + 1 < _; simp)]; simp [go_sem]
  have hs1 := hb1.size
  simp at hs1
  have HB1 : Hid (Below w.heap.size w w1) := by
    refine Below.trans ?_ (hb1.mono (by simp; omega))
    refine below_drewN ?_ _
    (repeat (first | exact Below.refl _ _ | assumption | refine Below.drew ?_ | (refine Below.alloc ?_ (by simp <;> omega) _) | (refine Below.setCell ?_ (by simp <;> omega) _)))
  have hT : Lay w1.heap.size w1.heap.size [(⟨w.heap.size, 0, none⟩, .int .i64 (128)), (⟨w.heap.size, 1, none⟩, .int .i64 (0)), (⟨w.heap.size, 2, none⟩, .int .i64 (128)), (⟨w.heap.size, 3, none⟩, .int .i64 (0)), (⟨w.heap.size + 1, 0, none⟩, .int .i64 (-128)), (⟨w.heap.size + 1, 1, none⟩, .int .i64 (0)), (⟨w.heap.size + 1, 2, none⟩, .int .i64 (128)), (⟨w.heap.size + 1, 3, none⟩, .int .i64 (0)), (⟨w.heap.size + 1 + 1, 0, none⟩, .int .i64 (0)), (⟨w.heap.size + 1 + 1, 1, none⟩, .int .i64 (0)), (⟨w.heap.size + 1 + 1, 2, none⟩, .int .i64 (0)), (⟨w.heap.size + 1 + 1, 3, none⟩, .int .i64 (0))] w1 w1 := ⟨by simp [c0, c1, c2, c3, c4, c5, c6, c7, c8, c9, c10, c11], by simp; omega, Nat.le_refl _, Below.refl _ _, Nat.le_refl _⟩
  clear c0 c1 c2 c3 c4 c5 c6 c7 c8 c9 c10 c11 hb1
  go_upto_region 7 with fail
  (refine wp_region_class (Lay w1.heap.size w1.heap.size _ w1) (hT.next (Below.refl _ _).drew) (by kernel_rfl) (by kernel_rfl) ?_; repeat (refine wpQuiet_step (fun qK9 qH9 => ?_); go_simp; first | (refine qH9 _ ?_; clear qH9 qK9) | (apply Exists.intro; refine ⟨?_, qH9 _ ?_⟩; (first | (intros; rfl) | ((intro wx hC; ((have qk9 := Lay.cells hC; simp only [List.forall_mem_cons, List.not_mem_nil, false_implies, implies_true, and_true] at qk9; repeat (obtain ⟨qk8, qk9⟩ := qk9)); go_simp; first | done | rfl)))); clear qH9 qK9)))
  refine wpQuiet_nil ?_
  intro wy hT
  have f0 := (hT.be.frozen (p := ⟨w.heap.size + 1 + 1, 0, none⟩) (by show w.heap.size + 1 + 1 < _; omega)).trans f0
  have f1 := (hT.be.frozen (p := ⟨w.heap.size + 1 + 1, 1, none⟩) (by show w.heap.size + 1 + 1 < _; omega)).trans f1
  have f2 := (hT.be.frozen (p := ⟨w.heap.size + 1 + 1, 2, none⟩) (by show w.heap.size + 1 + 1 < _; omega)).trans f2
  have f3 := (hT.be.frozen (p := ⟨w.heap.size + 1 + 1, 3, none⟩) (by show w.heap.size + 1 + 1 < _; omega)).trans f3
  (have qk9 := Lay.cells hT; simp only [List.forall_mem_cons, List.not_mem_nil, false_implies, implies_true, and_true] at qk9; repeat (obtain ⟨qk8, qk9⟩ := qk9))
  have hbe := hT.be
  have hsy := hT.lt
  go_upto_region 13 with fail
  go_wp2_with fail
  refine (OU _).out.mono ?_
  rintro e w2 ⟨rfl, hb2⟩
  have HB2 : Hid (Below w.heap.size w w2) := (HB1.out.trans (hbe.mono (by omega))).trans (((Below.refl wy.heap.size wy).alloc (Nat.le_refl _) _).trans (hb2.mono (by simp)) |>.mono (by omega))
  have hsz2 := hb2.size
  simp at hsz2
  have r0 := hT.cells (⟨w.heap.size + 1 + 1, 0, none⟩, .int .i64 0) (by simp)
  have r1 := hT.cells (⟨w.heap.size + 1 + 1, 1, none⟩, .int .i64 0) (by simp)
  have r2 := hT.cells (⟨w.heap.size + 1 + 1, 2, none⟩, .int .i64 0) (by simp)
  have r3 := hT.cells (⟨w.heap.size + 1 + 1, 3, none⟩, .int .i64 0) (by simp)
  have hba := (Below.refl wy.heap.size wy).alloc (Nat.le_refl _) (.cells #[.int .i64 0, .int .i64 0, .int .i64 128, .int .i64 0] 30)
  have r0 := (hb2.cell (p := ⟨w.heap.size + 1 + 1, 0, none⟩) (by show w.heap.size + 1 + 1 < _; simp; omega)).trans ((hba.cell (p := ⟨w.heap.size + 1 + 1, 0, none⟩) (by show w.heap.size + 1 + 1 < _; omega)).trans r0)
  have f0 := (hb2.frozen (p := ⟨w.heap.size + 1 + 1, 0, none⟩) (by show w.heap.size + 1 + 1 < _; simp; omega)).trans ((hba.frozen (p := ⟨w.heap.size + 1 + 1, 0, none⟩) (by show w.heap.size + 1 + 1 < _; omega)).trans f0)
  have r1 := (hb2.cell (p := ⟨w.heap.size + 1 + 1, 1, none⟩) (by show w.heap.size + 1 + 1 < _; simp; omega)).trans ((hba.cell (p := ⟨w.heap.size + 1 + 1, 1, none⟩) (by show w.heap.size + 1 + 1 < _; omega)).trans r1)
  have f1 := (hb2.frozen (p := ⟨w.heap.size + 1 + 1, 1, none⟩) (by show w.heap.size + 1 + 1 < _; simp; omega)).trans ((hba.frozen (p := ⟨w.heap.size + 1 + 1, 1, none⟩) (by show w.heap.size + 1 + 1 < _; omega)).trans f1)
  have r2 := (hb2.cell (p := ⟨w.heap.size + 1 + 1, 2, none⟩) (by show w.heap.size + 1 + 1 < _; simp; omega)).trans ((hba.cell (p := ⟨w.heap.size + 1 + 1, 2, none⟩) (by show w.heap.size + 1 + 1 < _; omega)).trans r2)
  have f2 := (hb2.frozen (p := ⟨w.heap.size + 1 + 1, 2, none⟩) (by show w.heap.size + 1 + 1 < _; simp; omega)).trans ((hba.frozen (p := ⟨w.heap.size + 1 + 1, 2, none⟩) (by show w.heap.size + 1 + 1 < _; omega)).trans f2)
  have r3 := (hb2.cell (p := ⟨w.heap.size + 1 + 1, 3, none⟩) (by show w.heap.size + 1 + 1 < _; simp; omega)).trans ((hba.cell (p := ⟨w.heap.size + 1 + 1, 3, none⟩) (by show w.heap.size + 1 + 1 < _; omega)).trans r3)
  have f3 := (hb2.frozen (p := ⟨w.heap.size + 1 + 1, 3, none⟩) (by show w.heap.size + 1 + 1 < _; simp; omega)).trans ((hba.frozen (p := ⟨w.heap.size + 1 + 1, 3, none⟩) (by show w.heap.size + 1 + 1 < _; omega)).trans f3)
  have d0 : w2.cell? ⟨wy.heap.size, 0, none⟩ = some (.int .i64 (0)) := by
    rw [hb2.cell (p := ⟨wy.heap.size, 0, none⟩) (by show wy.heap.size < _; simp <;> omega)]; simp [go_sem]
  have g0 : w2.frozen? ⟨wy.heap.size, 0, none⟩ = false := by
    rw [hb2.frozen (p := ⟨wy.heap.size, 0, none⟩) (by show wy.heap.size < _; simp <;> omega)]; simp [go_sem]
  have d1 : w2.cell? ⟨wy.heap.size, 1, none⟩ = some (.int .i64 (0)) := by
    rw [hb2.cell (p := ⟨wy.heap.size, 1, none⟩) (by show wy.heap.size < _; simp <;> omega)]; simp [go_sem]
  have g1 : w2.frozen? ⟨wy.heap.size, 1, none⟩ = false := by
    rw [hb2.frozen (p := ⟨wy.heap.size, 1, none⟩) (by show wy.heap.size < _; simp <;> omega)]; simp [go_sem]
  have d2 : w2.cell? ⟨wy.heap.size, 2, none⟩ = some (.int .i64 (128)) := by
    rw [hb2.cell (p := ⟨wy.heap.size, 2, none⟩) (by show wy.heap.size < _; simp <;> omega)]; simp [go_sem]
  have g2 : w2.frozen? ⟨wy.heap.size, 2, none⟩ = false := by
    rw [hb2.frozen (p := ⟨wy.heap.size, 2, none⟩) (by show wy.heap.size < _; simp <;> omega)]; simp [go_sem]
  have d3 : w2.cell? ⟨wy.heap.size, 3, none⟩ = some (.int .i64 (0)) := by
    rw [hb2.cell (p := ⟨wy.heap.size, 3, none⟩) (by show wy.heap.size < _; simp <;> omega)]; simp [go_sem]
  have g3 : w2.frozen? ⟨wy.heap.size, 3, none⟩ = false := by
    rw [hb2.frozen (p := ⟨wy.heap.size, 3, none⟩) (by show wy.heap.size < _; simp <;> omega)]; simp [go_sem]
  have hlt2 : wy.heap.size < w2.heap.size := by omega
  have hne : w.heap.size + 1 + 1 ≠ wy.heap.size := by omega
  have hle := hT.le
  clear hT hba hbe
  go_wp2_with fail
  refine (OW _).out.mono ?_
  rintro e w3 ⟨rfl, hb3⟩
  have hbs := (Below.refl wy.heap.size w2).setCell (p := ⟨wy.heap.size, 0, none⟩) (Nat.le_refl _) (.int .i64 0)
  have hs3 := hb3.size
  simp at hs3
  have r0 := (hb3.cell (p := ⟨w.heap.size + 1 + 1, 0, none⟩) (by show w.heap.size + 1 + 1 < _; simp; omega)).trans ((hbs.cell (p := ⟨w.heap.size + 1 + 1, 0, none⟩) (by show w.heap.size + 1 + 1 < _; omega)).trans r0)
  have f0 := (hb3.frozen (p := ⟨w.heap.size + 1 + 1, 0, none⟩) (by show w.heap.size + 1 + 1 < _; simp; omega)).trans ((hbs.frozen (p := ⟨w.heap.size + 1 + 1, 0, none⟩) (by show w.heap.size + 1 + 1 < _; omega)).trans f0)
  have r1 := (hb3.cell (p := ⟨w.heap.size + 1 + 1, 1, none⟩) (by show w.heap.size + 1 + 1 < _; simp; omega)).trans ((hbs.cell (p := ⟨w.heap.size + 1 + 1, 1, none⟩) (by show w.heap.size + 1 + 1 < _; omega)).trans r1)
  have f1 := (hb3.frozen (p := ⟨w.heap.size + 1 + 1, 1, none⟩) (by show w.heap.size + 1 + 1 < _; simp; omega)).trans ((hbs.frozen (p := ⟨w.heap.size + 1 + 1, 1, none⟩) (by show w.heap.size + 1 + 1 < _; omega)).trans f1)
  have r2 := (hb3.cell (p := ⟨w.heap.size + 1 + 1, 2, none⟩) (by show w.heap.size + 1 + 1 < _; simp; omega)).trans ((hbs.cell (p := ⟨w.heap.size + 1 + 1, 2, none⟩) (by show w.heap.size + 1 + 1 < _; omega)).trans r2)
  have f2 := (hb3.frozen (p := ⟨w.heap.size + 1 + 1, 2, none⟩) (by show w.heap.size + 1 + 1 < _; simp; omega)).trans ((hbs.frozen (p := ⟨w.heap.size + 1 + 1, 2, none⟩) (by show w.heap.size + 1 + 1 < _; omega)).trans f2)
  have r3 := (hb3.cell (p := ⟨w.heap.size + 1 + 1, 3, none⟩) (by show w.heap.size + 1 + 1 < _; simp; omega)).trans ((hbs.cell (p := ⟨w.heap.size + 1 + 1, 3, none⟩) (by show w.heap.size + 1 + 1 < _; omega)).trans r3)
  have f3 := (hb3.frozen (p := ⟨w.heap.size + 1 + 1, 3, none⟩) (by show w.heap.size + 1 + 1 < _; simp; omega)).trans ((hbs.frozen (p := ⟨w.heap.size + 1 + 1, 3, none⟩) (by show w.heap.size + 1 + 1 < _; omega)).trans f3)
  have d0 := (hb3.cell (p := ⟨wy.heap.size, 0, none⟩) (by show wy.heap.size < _; simp; omega)).trans (World.cell?_setCell_same _ _ _ d0)
  have g0 : w3.frozen? ⟨wy.heap.size, 0, none⟩ = false := (hb3.frozen (p := ⟨wy.heap.size, 0, none⟩) (by show wy.heap.size < _; simp; omega)).trans (by simp [go_sem, g0])
  have d1 := (hb3.cell (p := ⟨wy.heap.size, 1, none⟩) (by show wy.heap.size < _; simp; omega)).trans ((World.cell?_setCell_other _ _ _ _ (by simp)).trans d1)
  have g1 : w3.frozen? ⟨wy.heap.size, 1, none⟩ = false := (hb3.frozen (p := ⟨wy.heap.size, 1, none⟩) (by show wy.heap.size < _; simp; omega)).trans (by simp [go_sem, g1])
  have d2 := (hb3.cell (p := ⟨wy.heap.size, 2, none⟩) (by show wy.heap.size < _; simp; omega)).trans ((World.cell?_setCell_other _ _ _ _ (by simp)).trans d2)
  have g2 : w3.frozen? ⟨wy.heap.size, 2, none⟩ = false := (hb3.frozen (p := ⟨wy.heap.size, 2, none⟩) (by show wy.heap.size < _; simp; omega)).trans (by simp [go_sem, g2])
  have d3 := (hb3.cell (p := ⟨wy.heap.size, 3, none⟩) (by show wy.heap.size < _; simp; omega)).trans ((World.cell?_setCell_other _ _ _ _ (by simp)).trans d3)
  have g3 : w3.frozen? ⟨wy.heap.size, 3, none⟩ = false := (hb3.frozen (p := ⟨wy.heap.size, 3, none⟩) (by show wy.heap.size < _; simp; omega)).trans (by simp [go_sem, g3])
  have HB3 : Hid (Below w.heap.size w w3) := (HB2.out.trans (hbs.mono (by omega))).trans (hb3.mono (by simp; omega))
  have hlt3 : wy.heap.size < w3.heap.size := by omega
  clear hbs hb3 hb2
  go_wp2_with fail
  have z0 : (((((w3.setCell ⟨wy.heap.size, 1, none⟩ (.int .i64 128)).setCell ⟨w.heap.size + 1 + 1, 0, none⟩ (.int .i64 0)).setCell ⟨w.heap.size + 1 + 1, 1, none⟩ (.int .i64 128)).setCell ⟨w.heap.size + 1 + 1, 2, none⟩ (.int .i64 128)).setCell ⟨w.heap.size + 1 + 1, 3, none⟩ (.int .i64 0)).cell? ⟨w.heap.size + 1 + 1, 0, none⟩ = some (.int .i64 0) := ((World.cell?_setCell_other _ _ _ _ (by simp)).trans ((World.cell?_setCell_other _ _ _ _ (by simp)).trans ((World.cell?_setCell_other _ _ _ _ (by simp)).trans (World.cell?_setCell_same _ _ _ ((World.cell?_setCell_other _ _ _ _ (by simp <;> omega)).trans r0)))))
  have z1 : (((((w3.setCell ⟨wy.heap.size, 1, none⟩ (.int .i64 128)).setCell ⟨w.heap.size + 1 + 1, 0, none⟩ (.int .i64 0)).setCell ⟨w.heap.size + 1 + 1, 1, none⟩ (.int .i64 128)).setCell ⟨w.heap.size + 1 + 1, 2, none⟩ (.int .i64 128)).setCell ⟨w.heap.size + 1 + 1, 3, none⟩ (.int .i64 0)).cell? ⟨w.heap.size + 1 + 1, 1, none⟩ = some (.int .i64 128) := ((World.cell?_setCell_other _ _ _ _ (by simp)).trans ((World.cell?_setCell_other _ _ _ _ (by simp)).trans (World.cell?_setCell_same _ _ _ ((World.cell?_setCell_other _ _ _ _ (by simp)).trans ((World.cell?_setCell_other _ _ _ _ (by simp <;> omega)).trans r1)))))
  have z2 : (((((w3.setCell ⟨wy.heap.size, 1, none⟩ (.int .i64 128)).setCell ⟨w.heap.size + 1 + 1, 0, none⟩ (.int .i64 0)).setCell ⟨w.heap.size + 1 + 1, 1, none⟩ (.int .i64 128)).setCell ⟨w.heap.size + 1 + 1, 2, none⟩ (.int .i64 128)).setCell ⟨w.heap.size + 1 + 1, 3, none⟩ (.int .i64 0)).cell? ⟨w.heap.size + 1 + 1, 2, none⟩ = some (.int .i64 128) := ((World.cell?_setCell_other _ _ _ _ (by simp)).trans (World.cell?_setCell_same _ _ _ ((World.cell?_setCell_other _ _ _ _ (by simp)).trans ((World.cell?_setCell_other _ _ _ _ (by simp)).trans ((World.cell?_setCell_other _ _ _ _ (by simp <;> omega)).trans r2)))))
  have z3 : (((((w3.setCell ⟨wy.heap.size, 1, none⟩ (.int .i64 128)).setCell ⟨w.heap.size + 1 + 1, 0, none⟩ (.int .i64 0)).setCell ⟨w.heap.size + 1 + 1, 1, none⟩ (.int .i64 128)).setCell ⟨w.heap.size + 1 + 1, 2, none⟩ (.int .i64 128)).setCell ⟨w.heap.size + 1 + 1, 3, none⟩ (.int .i64 0)).cell? ⟨w.heap.size + 1 + 1, 3, none⟩ = some (.int .i64 0) := (World.cell?_setCell_same _ _ _ ((World.cell?_setCell_other _ _ _ _ (by simp)).trans ((World.cell?_setCell_other _ _ _ _ (by simp)).trans ((World.cell?_setCell_other _ _ _ _ (by simp)).trans ((World.cell?_setCell_other _ _ _ _ (by simp <;> omega)).trans r3)))))
  refine bodyPost_ret (v := .tuple #[.agg #[.int .i64 0, .int .i64 128, .int .i64 128, .int .i64 0], .bool true]) (by simp [results, Try.results16, go_sem, z0, z1, z2, z3]) rfl ⟨rfl, ?_⟩
  exact ((((HB3.out.setCell (by simp; omega) _).setCell (by simp; omega) _).setCell (by simp; omega) _).setCell (by simp; omega) _).setCell (by simp; omega) _
set_option maxHeartbeats 1000000 in
theorem awake_any (w : World) : Calls Try.prog 9 #[] w fun e w' => e = .returned (.bool true) ∧ Below w.heap.size w w' := by
  have M1 := fun w => Lib.hid (middle_aw w)
  have L1 := fun w => Lib.hid (length_aw w)
  have F1 := fun w => Lib.hid (flatP_any 128 4032 w (by omega) (by omega))
  go_enter Try.func9, Try.ntmps9
  go_wp2_with fail
  refine (M1 _).out.mono ?_
  rintro e w1 ⟨rfl, hb1⟩
  go_wp2_with fail
  refine (L1 _).out.mono ?_
  rintro e w2 ⟨rfl, hb2⟩
  go_wp2_with fail
  refine (F1 _).out.mono ?_
  rintro e w' ⟨rfl, rfl⟩
  go_wp2_with fail
  go_ret
  exact ⟨rfl, (hb1.alloc hb1.size _).trans (hb2.mono (by have := hb1.size; simp; omega))⟩
set_option maxHeartbeats 1000000 in
theorem law_flat (r s : Int) (w : World) (lr : -9223372036854775808 ≤ r) (hr : r ≤ 9223372036854775807) (ls : -9223372036854775808 ≤ s) (hs : s ≤ 9223372036854775807) :
    Calls Try.prog 4 #[.int .i64 r, .int .i64 s] w fun e w' => e = .returned (.bool true) ∧ Below w.heap.size w w' := by
  by_cases h : 1 ≤ r ∧ r ≤ 67108864 ∧ 0 ≤ s
  · obtain ⟨h1, h2, h3⟩ := h
    have F1 := fun w => Lib.hid (flatP_any r s w h1 h2)
    have F2 := fun w => Lib.hid (flatR_any r s w h1 h2)
    generalize decide (s ≤ 8 * r * 4 - 64) = b at *
    cases b
    all_goals
      go_enter Try.func4, Try.ntmps4
      go_wp2_with fail
      refine (awake_any _).mono ?_
      rintro e w1 ⟨rfl, hb1⟩
      go_wp2_with fail
      refine (F1 _).out.mono ?_
      rintro e w' ⟨rfl, rfl⟩
      go_wp2_with fail
      refine (F2 _).out.mono ?_
      rintro e w' ⟨rfl, rfl⟩
      go_wp2_with fail
      go_ret
      exact ⟨rfl, hb1⟩
  · by_cases h1 : 1 ≤ r
    · by_cases h2 : r ≤ 67108864
      · have h3 : s < 0 := by omega
        clear h
        go_enter Try.func4, Try.ntmps4
        go_wp2_with fail
        refine (awake_any _).mono ?_
        rintro e w1 ⟨rfl, hb1⟩
        go_wp2_with fail
        go_ret
        exact ⟨rfl, hb1⟩
      · clear h
        go_enter Try.func4, Try.ntmps4
        go_wp2_with fail
        refine (awake_any _).mono ?_
        rintro e w1 ⟨rfl, hb1⟩
        go_wp2_with fail
        go_ret
        exact ⟨rfl, hb1⟩
    · clear h
      go_enter Try.func4, Try.ntmps4
      go_wp2_with fail
      refine (awake_any _).mono ?_
      rintro e w1 ⟨rfl, hb1⟩
      go_wp2_with fail
      go_ret
      exact ⟨rfl, hb1⟩
end Go.Proofs.Ytiolnpkieooceaa
