/- Proved here: Plane and Space of the program and of the reference; CurvePlanes returns true for every argument; no conditions but that integers are ints. -/
import Derived.Test.YtiolnpkieooceaaKc1
import Derived.Test.YtiolnpkieooceaaLe
namespace Go.Proofs.Ytiolnpkieooceaa
open Go.RowKit
set_option linter.unusedVariables false
set_option linter.unusedSimpArgs false
theorem axes_17 (w : World)  : Calls Try.prog 32 #[.int .i64 17] w fun e w' => e = .returned (.tuple #[.int .i64 0, .int .i64 1, .int .i64 2, .bool true]) ∧ w = w' := by
  go_enter Try.func32, Try.ntmps32
  go_wp2_with fail
  exact bodyPost_ret (v := .tuple #[.int .i64 0, .int .i64 1, .int .i64 2, .bool true]) (by simp [results, Try.results32, go_sem]) rfl ⟨rfl, rfl⟩
set_option maxHeartbeats 1000000 in
theorem planeP_17 (p0 p1 p2 : Int) (w : World)  : Calls Try.prog 21 #[.agg #[.int .i64 p0, .int .i64 p1, .int .i64 p2], .int .i64 17] w fun e w' => e = .returned (.tuple #[.int .i64 p0, .int .i64 p1, .int .i64 p2]) ∧ Below w.heap.size w w' := by
  have hT : Lay w.heap.size (w.heap.size + 1) [(⟨w.heap.size, 0, none⟩, .int .i64 p0), (⟨w.heap.size, 1, none⟩, .int .i64 p1), (⟨w.heap.size, 2, none⟩, .int .i64 p2)] w (w.alloc (.cells #[.int .i64 p0, .int .i64 p1, .int .i64 p2] 23)) := by (refine ⟨by simp [List.forall_mem_cons, go_sem], by simp [List.forall_mem_cons] <;> omega, by simp, by (repeat (first | exact Below.refl _ _ | assumption | refine Below.drew ?_ | (refine Below.alloc ?_ (by simp <;> omega) _) | (refine Below.setCell ?_ (by simp <;> omega) _))), by omega⟩)
  have AX := fun w => Lib.hid (axes_17 w )
  go_enter Try.func21, Try.ntmps21
  go_wp2_with fail
  refine (AX _).out.mono ?_
  rintro e w' ⟨rfl, rfl⟩
  go_wp2_with fail
  go_upto_region 4 with fail
  (refine wp_region_class (Lay w.heap.size (w.heap.size + 1) _ w) (hT.next (Below.refl _ _).drew) (by kernel_rfl) (by kernel_rfl) ?_; repeat (refine wpQuiet_step (fun qK9 qH9 => ?_); go_simp; first | (refine qH9 _ ?_; clear qH9 qK9) | (apply Exists.intro; refine ⟨?_, qH9 _ ?_⟩; (first | (intros; rfl) | ((intro wx hC; ((have qk9 := Lay.cells hC; simp only [List.forall_mem_cons, List.not_mem_nil, false_implies, implies_true, and_true] at qk9; repeat (obtain ⟨qk8, qk9⟩ := qk9)); go_simp; first | done | rfl)))); clear qH9 qK9)))
  refine wpQuiet_nil ?_
  intro wy hT
  go_wp2_with fail
  go_ret3
  exact ⟨rfl, hT.be⟩
set_option maxHeartbeats 1000000 in
theorem planeR_17 (p0 p1 p2 : Int) (w : World)  : Calls Try.prog 22 #[.agg #[.int .i64 p0, .int .i64 p1, .int .i64 p2], .int .i64 17] w fun e w' => e = .returned (.tuple #[.int .i64 p0, .int .i64 p1, .int .i64 p2]) ∧ Below w.heap.size w w' := by
  have hT : Lay w.heap.size (w.heap.size + 1) [(⟨w.heap.size, 0, none⟩, .int .i64 p0), (⟨w.heap.size, 1, none⟩, .int .i64 p1), (⟨w.heap.size, 2, none⟩, .int .i64 p2)] w (w.alloc (.cells #[.int .i64 p0, .int .i64 p1, .int .i64 p2] 23)) := by (refine ⟨by simp [List.forall_mem_cons, go_sem], by simp [List.forall_mem_cons] <;> omega, by simp, by (repeat (first | exact Below.refl _ _ | assumption | refine Below.drew ?_ | (refine Below.alloc ?_ (by simp <;> omega) _) | (refine Below.setCell ?_ (by simp <;> omega) _))), by omega⟩)
  go_enter Try.func22, Try.ntmps22
  go_upto_region 3 with fail
  (refine wp_region_class (Lay w.heap.size (w.heap.size + 1) _ w) (hT.next (Below.refl _ _).drew) (by kernel_rfl) (by kernel_rfl) ?_; repeat (refine wpQuiet_step (fun qK9 qH9 => ?_); go_simp; first | (refine qH9 _ ?_; clear qH9 qK9) | (apply Exists.intro; refine ⟨?_, qH9 _ ?_⟩; (first | (intros; rfl) | ((intro wx hC; ((have qk9 := Lay.cells hC; simp only [List.forall_mem_cons, List.not_mem_nil, false_implies, implies_true, and_true] at qk9; repeat (obtain ⟨qk8, qk9⟩ := qk9)); go_simp; first | done | rfl)))); clear qH9 qK9)))
  refine wpQuiet_nil ?_
  intro wy hT
  go_wp2_with fail
  go_ret3
  exact ⟨rfl, hT.be⟩
set_option maxHeartbeats 1000000 in
theorem spaceP_17 (u v h : Int) (w : World)  : Calls Try.prog 23 #[.int .i64 u, .int .i64 v, .int .i64 h, .int .i64 17] w fun e w' => e = .returned (.agg #[.int .i64 u, .int .i64 v, .int .i64 h]) ∧ Below w.heap.size w w' := by
  have AX := fun w => Lib.hid (axes_17 w )
  go_enter Try.func23, Try.ntmps23
  go_wp2_with fail
  refine (AX _).out.mono ?_
  rintro e w' ⟨rfl, rfl⟩
  go_wp2_with fail
  refine bodyPost_ret (v := .agg #[.int .i64 u, .int .i64 v, .int .i64 h]) (by simp [results, Try.results23, go_sem]) rfl ⟨rfl, ?_⟩
  (repeat (first | exact Below.refl _ _ | assumption | refine Below.drew ?_ | (refine Below.alloc ?_ (by simp <;> omega) _) | (refine Below.setCell ?_ (by simp <;> omega) _)))
set_option maxHeartbeats 1000000 in
theorem spaceR_17 (u v h : Int) (w : World)  : Calls Try.prog 24 #[.int .i64 u, .int .i64 v, .int .i64 h, .int .i64 17] w fun e w' => e = .returned (.agg #[.int .i64 u, .int .i64 v, .int .i64 h]) ∧ Below w.heap.size w w' := by
  go_enter Try.func24, Try.ntmps24
  go_wp2_with fail
  refine bodyPost_ret (v := .agg #[.int .i64 u, .int .i64 v, .int .i64 h]) (by simp [results, Try.results24, go_sem]) rfl ⟨rfl, ?_⟩
  (repeat (first | exact Below.refl _ _ | assumption | refine Below.drew ?_ | (refine Below.alloc ?_ (by simp <;> omega) _) | (refine Below.setCell ?_ (by simp <;> omega) _)))
theorem axes_18 (w : World)  : Calls Try.prog 32 #[.int .i64 18] w fun e w' => e = .returned (.tuple #[.int .i64 2, .int .i64 0, .int .i64 1, .bool true]) ∧ w = w' := by
  go_enter Try.func32, Try.ntmps32
  go_wp2_with fail
  exact bodyPost_ret (v := .tuple #[.int .i64 2, .int .i64 0, .int .i64 1, .bool true]) (by simp [results, Try.results32, go_sem]) rfl ⟨rfl, rfl⟩
set_option maxHeartbeats 1000000 in
theorem planeP_18 (p0 p1 p2 : Int) (w : World)  : Calls Try.prog 21 #[.agg #[.int .i64 p0, .int .i64 p1, .int .i64 p2], .int .i64 18] w fun e w' => e = .returned (.tuple #[.int .i64 p2, .int .i64 p0, .int .i64 p1]) ∧ Below w.heap.size w w' := by
  have hT : Lay w.heap.size (w.heap.size + 1) [(⟨w.heap.size, 0, none⟩, .int .i64 p0), (⟨w.heap.size, 1, none⟩, .int .i64 p1), (⟨w.heap.size, 2, none⟩, .int .i64 p2)] w (w.alloc (.cells #[.int .i64 p0, .int .i64 p1, .int .i64 p2] 23)) := by (refine ⟨by simp [List.forall_mem_cons, go_sem], by simp [List.forall_mem_cons] <;> omega, by simp, by (repeat (first | exact Below.refl _ _ | assumption | refine Below.drew ?_ | (refine Below.alloc ?_ (by simp <;> omega) _) | (refine Below.setCell ?_ (by simp <;> omega) _))), by omega⟩)
  have AX := fun w => Lib.hid (axes_18 w )
  go_enter Try.func21, Try.ntmps21
  go_wp2_with fail
  refine (AX _).out.mono ?_
  rintro e w' ⟨rfl, rfl⟩
  go_wp2_with fail
  go_upto_region 4 with fail
  (refine wp_region_class (Lay w.heap.size (w.heap.size + 1) _ w) (hT.next (Below.refl _ _).drew) (by kernel_rfl) (by kernel_rfl) ?_; repeat (refine wpQuiet_step (fun qK9 qH9 => ?_); go_simp; first | (refine qH9 _ ?_; clear qH9 qK9) | (apply Exists.intro; refine ⟨?_, qH9 _ ?_⟩; (first | (intros; rfl) | ((intro wx hC; ((have qk9 := Lay.cells hC; simp only [List.forall_mem_cons, List.not_mem_nil, false_implies, implies_true, and_true] at qk9; repeat (obtain ⟨qk8, qk9⟩ := qk9)); go_simp; first | done | rfl)))); clear qH9 qK9)))
  refine wpQuiet_nil ?_
  intro wy hT
  go_wp2_with fail
  go_ret3
  exact ⟨rfl, hT.be⟩
set_option maxHeartbeats 1000000 in
theorem planeR_18 (p0 p1 p2 : Int) (w : World)  : Calls Try.prog 22 #[.agg #[.int .i64 p0, .int .i64 p1, .int .i64 p2], .int .i64 18] w fun e w' => e = .returned (.tuple #[.int .i64 p2, .int .i64 p0, .int .i64 p1]) ∧ Below w.heap.size w w' := by
  have hT : Lay w.heap.size (w.heap.size + 1) [(⟨w.heap.size, 0, none⟩, .int .i64 p0), (⟨w.heap.size, 1, none⟩, .int .i64 p1), (⟨w.heap.size, 2, none⟩, .int .i64 p2)] w (w.alloc (.cells #[.int .i64 p0, .int .i64 p1, .int .i64 p2] 23)) := by (refine ⟨by simp [List.forall_mem_cons, go_sem], by simp [List.forall_mem_cons] <;> omega, by simp, by (repeat (first | exact Below.refl _ _ | assumption | refine Below.drew ?_ | (refine Below.alloc ?_ (by simp <;> omega) _) | (refine Below.setCell ?_ (by simp <;> omega) _))), by omega⟩)
  go_enter Try.func22, Try.ntmps22
  go_upto_region 5 with fail
  (refine wp_region_class (Lay w.heap.size (w.heap.size + 1) _ w) (hT.next (Below.refl _ _).drew) (by kernel_rfl) (by kernel_rfl) ?_; repeat (refine wpQuiet_step (fun qK9 qH9 => ?_); go_simp; first | (refine qH9 _ ?_; clear qH9 qK9) | (apply Exists.intro; refine ⟨?_, qH9 _ ?_⟩; (first | (intros; rfl) | ((intro wx hC; ((have qk9 := Lay.cells hC; simp only [List.forall_mem_cons, List.not_mem_nil, false_implies, implies_true, and_true] at qk9; repeat (obtain ⟨qk8, qk9⟩ := qk9)); go_simp; first | done | rfl)))); clear qH9 qK9)))
  refine wpQuiet_nil ?_
  intro wy hT
  go_wp2_with fail
  go_ret3
  exact ⟨rfl, hT.be⟩
set_option maxHeartbeats 1000000 in
theorem spaceP_18 (u v h : Int) (w : World)  : Calls Try.prog 23 #[.int .i64 u, .int .i64 v, .int .i64 h, .int .i64 18] w fun e w' => e = .returned (.agg #[.int .i64 v, .int .i64 h, .int .i64 u]) ∧ Below w.heap.size w w' := by
  have AX := fun w => Lib.hid (axes_18 w )
  go_enter Try.func23, Try.ntmps23
  go_wp2_with fail
  refine (AX _).out.mono ?_
  rintro e w' ⟨rfl, rfl⟩
  go_wp2_with fail
  refine bodyPost_ret (v := .agg #[.int .i64 v, .int .i64 h, .int .i64 u]) (by simp [results, Try.results23, go_sem]) rfl ⟨rfl, ?_⟩
  (repeat (first | exact Below.refl _ _ | assumption | refine Below.drew ?_ | (refine Below.alloc ?_ (by simp <;> omega) _) | (refine Below.setCell ?_ (by simp <;> omega) _)))
set_option maxHeartbeats 1000000 in
theorem spaceR_18 (u v h : Int) (w : World)  : Calls Try.prog 24 #[.int .i64 u, .int .i64 v, .int .i64 h, .int .i64 18] w fun e w' => e = .returned (.agg #[.int .i64 v, .int .i64 h, .int .i64 u]) ∧ Below w.heap.size w w' := by
  go_enter Try.func24, Try.ntmps24
  go_wp2_with fail
  refine bodyPost_ret (v := .agg #[.int .i64 v, .int .i64 h, .int .i64 u]) (by simp [results, Try.results24, go_sem]) rfl ⟨rfl, ?_⟩
  (repeat (first | exact Below.refl _ _ | assumption | refine Below.drew ?_ | (refine Below.alloc ?_ (by simp <;> omega) _) | (refine Below.setCell ?_ (by simp <;> omega) _)))
theorem axes_19 (w : World)  : Calls Try.prog 32 #[.int .i64 19] w fun e w' => e = .returned (.tuple #[.int .i64 1, .int .i64 2, .int .i64 0, .bool true]) ∧ w = w' := by
  go_enter Try.func32, Try.ntmps32
  go_wp2_with fail
  exact bodyPost_ret (v := .tuple #[.int .i64 1, .int .i64 2, .int .i64 0, .bool true]) (by simp [results, Try.results32, go_sem]) rfl ⟨rfl, rfl⟩
set_option maxHeartbeats 1000000 in
theorem planeP_19 (p0 p1 p2 : Int) (w : World)  : Calls Try.prog 21 #[.agg #[.int .i64 p0, .int .i64 p1, .int .i64 p2], .int .i64 19] w fun e w' => e = .returned (.tuple #[.int .i64 p1, .int .i64 p2, .int .i64 p0]) ∧ Below w.heap.size w w' := by
  have hT : Lay w.heap.size (w.heap.size + 1) [(⟨w.heap.size, 0, none⟩, .int .i64 p0), (⟨w.heap.size, 1, none⟩, .int .i64 p1), (⟨w.heap.size, 2, none⟩, .int .i64 p2)] w (w.alloc (.cells #[.int .i64 p0, .int .i64 p1, .int .i64 p2] 23)) := by (refine ⟨by simp [List.forall_mem_cons, go_sem], by simp [List.forall_mem_cons] <;> omega, by simp, by (repeat (first | exact Below.refl _ _ | assumption | refine Below.drew ?_ | (refine Below.alloc ?_ (by simp <;> omega) _) | (refine Below.setCell ?_ (by simp <;> omega) _))), by omega⟩)
  have AX := fun w => Lib.hid (axes_19 w )
  go_enter Try.func21, Try.ntmps21
  go_wp2_with fail
  refine (AX _).out.mono ?_
  rintro e w' ⟨rfl, rfl⟩
  go_wp2_with fail
  go_upto_region 4 with fail
  (refine wp_region_class (Lay w.heap.size (w.heap.size + 1) _ w) (hT.next (Below.refl _ _).drew) (by kernel_rfl) (by kernel_rfl) ?_; repeat (refine wpQuiet_step (fun qK9 qH9 => ?_); go_simp; first | (refine qH9 _ ?_; clear qH9 qK9) | (apply Exists.intro; refine ⟨?_, qH9 _ ?_⟩; (first | (intros; rfl) | ((intro wx hC; ((have qk9 := Lay.cells hC; simp only [List.forall_mem_cons, List.not_mem_nil, false_implies, implies_true, and_true] at qk9; repeat (obtain ⟨qk8, qk9⟩ := qk9)); go_simp; first | done | rfl)))); clear qH9 qK9)))
  refine wpQuiet_nil ?_
  intro wy hT
  go_wp2_with fail
  go_ret3
  exact ⟨rfl, hT.be⟩
set_option maxHeartbeats 1000000 in
theorem planeR_19 (p0 p1 p2 : Int) (w : World)  : Calls Try.prog 22 #[.agg #[.int .i64 p0, .int .i64 p1, .int .i64 p2], .int .i64 19] w fun e w' => e = .returned (.tuple #[.int .i64 p1, .int .i64 p2, .int .i64 p0]) ∧ Below w.heap.size w w' := by
  have hT : Lay w.heap.size (w.heap.size + 1) [(⟨w.heap.size, 0, none⟩, .int .i64 p0), (⟨w.heap.size, 1, none⟩, .int .i64 p1), (⟨w.heap.size, 2, none⟩, .int .i64 p2)] w (w.alloc (.cells #[.int .i64 p0, .int .i64 p1, .int .i64 p2] 23)) := by (refine ⟨by simp [List.forall_mem_cons, go_sem], by simp [List.forall_mem_cons] <;> omega, by simp, by (repeat (first | exact Below.refl _ _ | assumption | refine Below.drew ?_ | (refine Below.alloc ?_ (by simp <;> omega) _) | (refine Below.setCell ?_ (by simp <;> omega) _))), by omega⟩)
  go_enter Try.func22, Try.ntmps22
  go_upto_region 7 with fail
  (refine wp_region_class (Lay w.heap.size (w.heap.size + 1) _ w) (hT.next (Below.refl _ _).drew) (by kernel_rfl) (by kernel_rfl) ?_; repeat (refine wpQuiet_step (fun qK9 qH9 => ?_); go_simp; first | (refine qH9 _ ?_; clear qH9 qK9) | (apply Exists.intro; refine ⟨?_, qH9 _ ?_⟩; (first | (intros; rfl) | ((intro wx hC; ((have qk9 := Lay.cells hC; simp only [List.forall_mem_cons, List.not_mem_nil, false_implies, implies_true, and_true] at qk9; repeat (obtain ⟨qk8, qk9⟩ := qk9)); go_simp; first | done | rfl)))); clear qH9 qK9)))
  refine wpQuiet_nil ?_
  intro wy hT
  go_wp2_with fail
  go_ret3
  exact ⟨rfl, hT.be⟩
set_option maxHeartbeats 1000000 in
theorem spaceP_19 (u v h : Int) (w : World)  : Calls Try.prog 23 #[.int .i64 u, .int .i64 v, .int .i64 h, .int .i64 19] w fun e w' => e = .returned (.agg #[.int .i64 h, .int .i64 u, .int .i64 v]) ∧ Below w.heap.size w w' := by
  have AX := fun w => Lib.hid (axes_19 w )
  go_enter Try.func23, Try.ntmps23
  go_wp2_with fail
  refine (AX _).out.mono ?_
  rintro e w' ⟨rfl, rfl⟩
  go_wp2_with fail
  refine bodyPost_ret (v := .agg #[.int .i64 h, .int .i64 u, .int .i64 v]) (by simp [results, Try.results23, go_sem]) rfl ⟨rfl, ?_⟩
  (repeat (first | exact Below.refl _ _ | assumption | refine Below.drew ?_ | (refine Below.alloc ?_ (by simp <;> omega) _) | (refine Below.setCell ?_ (by simp <;> omega) _)))
set_option maxHeartbeats 1000000 in
theorem spaceR_19 (u v h : Int) (w : World)  : Calls Try.prog 24 #[.int .i64 u, .int .i64 v, .int .i64 h, .int .i64 19] w fun e w' => e = .returned (.agg #[.int .i64 h, .int .i64 u, .int .i64 v]) ∧ Below w.heap.size w w' := by
  go_enter Try.func24, Try.ntmps24
  go_wp2_with fail
  refine bodyPost_ret (v := .agg #[.int .i64 h, .int .i64 u, .int .i64 v]) (by simp [results, Try.results24, go_sem]) rfl ⟨rfl, ?_⟩
  (repeat (first | exact Below.refl _ _ | assumption | refine Below.drew ?_ | (refine Below.alloc ?_ (by simp <;> omega) _) | (refine Below.setCell ?_ (by simp <;> omega) _)))
theorem axes_no (k : Int) (w : World) (h17 : k ≠ 17) (h18 : k ≠ 18) (h19 : k ≠ 19) : Calls Try.prog 32 #[.int .i64 k] w fun e w' => e = .returned (.tuple #[.int .i64 0, .int .i64 0, .int .i64 0, .bool false]) ∧ w = w' := by
  go_enter Try.func32, Try.ntmps32
  go_wp2_with fail
  exact bodyPost_ret (v := .tuple #[.int .i64 0, .int .i64 0, .int .i64 0, .bool false]) (by simp [results, Try.results32, go_sem]) rfl ⟨rfl, rfl⟩
set_option maxHeartbeats 1000000 in
theorem planeP_no (p0 p1 p2 : Int) (k : Int) (w : World) (h17 : k ≠ 17) (h18 : k ≠ 18) (h19 : k ≠ 19) : Calls Try.prog 21 #[.agg #[.int .i64 p0, .int .i64 p1, .int .i64 p2], .int .i64 k] w fun e w' => e = .returned (.tuple #[.int .i64 0, .int .i64 0, .int .i64 0]) ∧ Below w.heap.size w w' := by
  have hT : Lay w.heap.size (w.heap.size + 1) [(⟨w.heap.size, 0, none⟩, .int .i64 p0), (⟨w.heap.size, 1, none⟩, .int .i64 p1), (⟨w.heap.size, 2, none⟩, .int .i64 p2)] w (w.alloc (.cells #[.int .i64 p0, .int .i64 p1, .int .i64 p2] 23)) := by (refine ⟨by simp [List.forall_mem_cons, go_sem], by simp [List.forall_mem_cons] <;> omega, by simp, by (repeat (first | exact Below.refl _ _ | assumption | refine Below.drew ?_ | (refine Below.alloc ?_ (by simp <;> omega) _) | (refine Below.setCell ?_ (by simp <;> omega) _))), by omega⟩)
  have AX := fun w => Lib.hid (axes_no k w h17 h18 h19)
  go_enter Try.func21, Try.ntmps21
  go_wp2_with fail
  refine (AX _).out.mono ?_
  rintro e w' ⟨rfl, rfl⟩
  go_wp2_with fail
  go_ret3
  exact ⟨rfl, hT.be⟩
set_option maxHeartbeats 1000000 in
theorem planeR_no (p0 p1 p2 : Int) (k : Int) (w : World) (h17 : k ≠ 17) (h18 : k ≠ 18) (h19 : k ≠ 19) : Calls Try.prog 22 #[.agg #[.int .i64 p0, .int .i64 p1, .int .i64 p2], .int .i64 k] w fun e w' => e = .returned (.tuple #[.int .i64 0, .int .i64 0, .int .i64 0]) ∧ Below w.heap.size w w' := by
  have hT : Lay w.heap.size (w.heap.size + 1) [(⟨w.heap.size, 0, none⟩, .int .i64 p0), (⟨w.heap.size, 1, none⟩, .int .i64 p1), (⟨w.heap.size, 2, none⟩, .int .i64 p2)] w (w.alloc (.cells #[.int .i64 p0, .int .i64 p1, .int .i64 p2] 23)) := by (refine ⟨by simp [List.forall_mem_cons, go_sem], by simp [List.forall_mem_cons] <;> omega, by simp, by (repeat (first | exact Below.refl _ _ | assumption | refine Below.drew ?_ | (refine Below.alloc ?_ (by simp <;> omega) _) | (refine Below.setCell ?_ (by simp <;> omega) _))), by omega⟩)
  go_enter Try.func22, Try.ntmps22
  go_wp2_with fail
  go_ret3
  exact ⟨rfl, hT.be⟩
set_option maxHeartbeats 1000000 in
theorem spaceP_no (u v h : Int) (k : Int) (w : World) (h17 : k ≠ 17) (h18 : k ≠ 18) (h19 : k ≠ 19) : Calls Try.prog 23 #[.int .i64 u, .int .i64 v, .int .i64 h, .int .i64 k] w fun e w' => e = .returned (.agg #[.int .i64 0, .int .i64 0, .int .i64 0]) ∧ Below w.heap.size w w' := by
  have AX := fun w => Lib.hid (axes_no k w h17 h18 h19)
  go_enter Try.func23, Try.ntmps23
  go_wp2_with fail
  refine (AX _).out.mono ?_
  rintro e w' ⟨rfl, rfl⟩
  go_wp2_with fail
  refine bodyPost_ret (v := .agg #[.int .i64 0, .int .i64 0, .int .i64 0]) (by simp [results, Try.results23, go_sem]) rfl ⟨rfl, ?_⟩
  (repeat (first | exact Below.refl _ _ | assumption | refine Below.drew ?_ | (refine Below.alloc ?_ (by simp <;> omega) _) | (refine Below.setCell ?_ (by simp <;> omega) _)))
set_option maxHeartbeats 1000000 in
theorem spaceR_no (u v h : Int) (k : Int) (w : World) (h17 : k ≠ 17) (h18 : k ≠ 18) (h19 : k ≠ 19) : Calls Try.prog 24 #[.int .i64 u, .int .i64 v, .int .i64 h, .int .i64 k] w fun e w' => e = .returned (.agg #[.int .i64 0, .int .i64 0, .int .i64 0]) ∧ Below w.heap.size w w' := by
  go_enter Try.func24, Try.ntmps24
  go_wp2_with fail
  refine bodyPost_ret (v := .agg #[.int .i64 0, .int .i64 0, .int .i64 0]) (by simp [results, Try.results24, go_sem]) rfl ⟨rfl, ?_⟩
  (repeat (first | exact Below.refl _ _ | assumption | refine Below.drew ?_ | (refine Below.alloc ?_ (by simp <;> omega) _) | (refine Below.setCell ?_ (by simp <;> omega) _)))
set_option maxHeartbeats 4000000 in
set_option maxRecDepth 20000 in
theorem law_planes_17 (p0 p1 p2 : Int) (w : World)  :
    Calls Try.prog 8 #[.agg #[.int .i64 p0, .int .i64 p1, .int .i64 p2], .int .i64 17] w fun e w' => e = .returned (.bool true) ∧ Below w.heap.size w w' := by
  have S0 := fun w => Lib.hid (Small_any p0 p1 p2 w)
  cases hA : smB 33554432 p0 p1 p2
  · rw [hA] at S0
    clear hA
    go_enter Try.func8, Try.ntmps8
    go_wp2_with fail
    refine (awake_any _).mono ?_
    rintro e w1 ⟨rfl, hb1⟩
    have hT : Lay w.heap.size (w.heap.size + 1) [(⟨w.heap.size, 0, none⟩, .int .i64 p0), (⟨w.heap.size, 1, none⟩, .int .i64 p1), (⟨w.heap.size, 2, none⟩, .int .i64 p2)] w w1 := by
      refine Lay.next (w := w.alloc (.cells #[.int .i64 p0, .int .i64 p1, .int .i64 p2] 23)) ?_ hb1
      (refine ⟨by simp [List.forall_mem_cons, go_sem], by simp [List.forall_mem_cons] <;> omega, by simp, by (repeat (first | exact Below.refl _ _ | assumption | refine Below.drew ?_ | (refine Below.alloc ?_ (by simp <;> omega) _) | (refine Below.setCell ?_ (by simp <;> omega) _))), by omega⟩)
    clear hb1
    (have qk9 := Lay.cells hT; simp only [List.forall_mem_cons, List.not_mem_nil, false_implies, implies_true, and_true] at qk9; repeat (obtain ⟨qk8, qk9⟩ := qk9))
    go_wp2_with fail
    refine (S0 _).out.mono ?_
    rintro e w2 ⟨rfl, hb2⟩
    have hT := hT.next hb2
    clear hb2
    (have qk9 := Lay.cells hT; simp only [List.forall_mem_cons, List.not_mem_nil, false_implies, implies_true, and_true] at qk9; repeat (obtain ⟨qk8, qk9⟩ := qk9))
    go_wp2_with fail
    go_ret
    exact ⟨rfl, hT.be⟩
  · rw [hA] at S0
    clear hA
    have PA := fun w => Lib.hid (planeP_17 p0 p1 p2 w )
    have PB := fun w => Lib.hid (planeR_17 p0 p1 p2 w )
    have SA := fun w => Lib.hid (spaceP_17 p0 p1 p2 w )
    have SB := fun w => Lib.hid (spaceR_17 p0 p1 p2 w )
    go_enter Try.func8, Try.ntmps8
    go_wp2_with fail
    refine (awake_any _).mono ?_
    rintro e w1 ⟨rfl, hb1⟩
    have hT : Lay w.heap.size (w.heap.size + 1) [(⟨w.heap.size, 0, none⟩, .int .i64 p0), (⟨w.heap.size, 1, none⟩, .int .i64 p1), (⟨w.heap.size, 2, none⟩, .int .i64 p2)] w w1 := by
      refine Lay.next (w := w.alloc (.cells #[.int .i64 p0, .int .i64 p1, .int .i64 p2] 23)) ?_ hb1
      (refine ⟨by simp [List.forall_mem_cons, go_sem], by simp [List.forall_mem_cons] <;> omega, by simp, by (repeat (first | exact Below.refl _ _ | assumption | refine Below.drew ?_ | (refine Below.alloc ?_ (by simp <;> omega) _) | (refine Below.setCell ?_ (by simp <;> omega) _))), by omega⟩)
    clear hb1
    (have qk9 := Lay.cells hT; simp only [List.forall_mem_cons, List.not_mem_nil, false_implies, implies_true, and_true] at qk9; repeat (obtain ⟨qk8, qk9⟩ := qk9))
    go_wp2_with fail
    refine (S0 _).out.mono ?_
    rintro e w2 ⟨rfl, hb2⟩
    have hT := hT.next hb2
    clear hb2
    (have qk9 := Lay.cells hT; simp only [List.forall_mem_cons, List.not_mem_nil, false_implies, implies_true, and_true] at qk9; repeat (obtain ⟨qk8, qk9⟩ := qk9))
    go_wp2_with fail
    refine (PA _).out.mono ?_
    rintro e w3 ⟨rfl, hb3⟩
    have hT := hT.next hb3
    clear hb3
    (have qk9 := Lay.cells hT; simp only [List.forall_mem_cons, List.not_mem_nil, false_implies, implies_true, and_true] at qk9; repeat (obtain ⟨qk8, qk9⟩ := qk9))
    go_wp2_with fail
    refine (PB _).out.mono ?_
    rintro e w4 ⟨rfl, hb4⟩
    have hT := hT.next hb4
    clear hb4
    go_wp2_with fail
    go_loopw [36] (fun t wr => ((t = .int .i64 0 ∨ t = .int .i64 1) ∨ (t = .int .i64 2 ∨ t = .int .i64 3)) ∧ Lay w.heap.size (w.heap.size + 1) [(⟨w.heap.size, 0, none⟩, .int .i64 p0), (⟨w.heap.size, 1, none⟩, .int .i64 p1), (⟨w.heap.size, 2, none⟩, .int .i64 p2)] w wr) (fun t _ => 3 - (intOf t).toNat)
    case atStart => exact ⟨Or.inl (Or.inl rfl), hT⟩
    case round =>
    clear hT
    obtain ⟨hd, hT⟩ := hrel
    rcases hd with (rfl | rfl) | (rfl | rfl)
    · have I0 : ∀ w, (Instr.index 22 (.agg #[.int .i64 17, .int .i64 18, .int .i64 19]) (.int .i64 0)).run Try.prog w = .ok (.int .i64 17) w := fun _ => by kernel_rfl
      have QA := fun w => Lib.hid (planeP_17 p0 p1 p2 w)
      have QB := fun w => Lib.hid (spaceP_17 p0 p1 p2 w)
      (have qk9 := Lay.cells hT; simp only [List.forall_mem_cons, List.not_mem_nil, false_implies, implies_true, and_true] at qk9; repeat (obtain ⟨qk8, qk9⟩ := qk9))
      go_wp2_with fail
      refine (QA _).out.mono ?_
      rintro e w5 ⟨rfl, hb5⟩
      have hT := hT.next hb5
      clear hb5
      go_upto_region 11 with fail
      (refine wp_region_class (Lay w.heap.size (w.heap.size + 1) _ w) (hT.next (Below.refl _ _).drew) (by kernel_rfl) (by kernel_rfl) ?_; repeat (refine wpQuiet_step (fun qK9 qH9 => ?_); go_simp; first | (refine qH9 _ ?_; clear qH9 qK9) | (apply Exists.intro; refine ⟨?_, qH9 _ ?_⟩; (first | (intros; rfl) | (first | (intro wx hC; ((have qk9 := Lay.cells hC; simp only [List.forall_mem_cons, List.not_mem_nil, false_implies, implies_true, and_true] at qk9; repeat (obtain ⟨qk8, qk9⟩ := qk9)); go_simp; first | done | rfl)) | (intro wx hC; exact Calls.lays (QB wx).out (fun _ => hC.next)))); clear qH9 qK9)))
      refine wpQuiet_nil ?_
      intro wy hT
      go_wp2_with fail
      go_roundw
      case rel => exact ⟨Or.inl (Or.inr rfl), hT⟩
      case measure => simp [intOf]
    · have I0 : ∀ w, (Instr.index 22 (.agg #[.int .i64 17, .int .i64 18, .int .i64 19]) (.int .i64 1)).run Try.prog w = .ok (.int .i64 18) w := fun _ => by kernel_rfl
      have QA := fun w => Lib.hid (planeP_18 p0 p1 p2 w)
      have QB := fun w => Lib.hid (spaceP_18 p2 p0 p1 w)
      (have qk9 := Lay.cells hT; simp only [List.forall_mem_cons, List.not_mem_nil, false_implies, implies_true, and_true] at qk9; repeat (obtain ⟨qk8, qk9⟩ := qk9))
      go_wp2_with fail
      refine (QA _).out.mono ?_
      rintro e w5 ⟨rfl, hb5⟩
      have hT := hT.next hb5
      clear hb5
      go_upto_region 11 with fail
      (refine wp_region_class (Lay w.heap.size (w.heap.size + 1) _ w) (hT.next (Below.refl _ _).drew) (by kernel_rfl) (by kernel_rfl) ?_; repeat (refine wpQuiet_step (fun qK9 qH9 => ?_); go_simp; first | (refine qH9 _ ?_; clear qH9 qK9) | (apply Exists.intro; refine ⟨?_, qH9 _ ?_⟩; (first | (intros; rfl) | (first | (intro wx hC; ((have qk9 := Lay.cells hC; simp only [List.forall_mem_cons, List.not_mem_nil, false_implies, implies_true, and_true] at qk9; repeat (obtain ⟨qk8, qk9⟩ := qk9)); go_simp; first | done | rfl)) | (intro wx hC; exact Calls.lays (QB wx).out (fun _ => hC.next)))); clear qH9 qK9)))
      refine wpQuiet_nil ?_
      intro wy hT
      go_wp2_with fail
      go_roundw
      case rel => exact ⟨Or.inr (Or.inl rfl), hT⟩
      case measure => simp [intOf]
    · have I0 : ∀ w, (Instr.index 22 (.agg #[.int .i64 17, .int .i64 18, .int .i64 19]) (.int .i64 2)).run Try.prog w = .ok (.int .i64 19) w := fun _ => by kernel_rfl
      have QA := fun w => Lib.hid (planeP_19 p0 p1 p2 w)
      have QB := fun w => Lib.hid (spaceP_19 p1 p2 p0 w)
      (have qk9 := Lay.cells hT; simp only [List.forall_mem_cons, List.not_mem_nil, false_implies, implies_true, and_true] at qk9; repeat (obtain ⟨qk8, qk9⟩ := qk9))
      go_wp2_with fail
      refine (QA _).out.mono ?_
      rintro e w5 ⟨rfl, hb5⟩
      have hT := hT.next hb5
      clear hb5
      go_upto_region 11 with fail
      (refine wp_region_class (Lay w.heap.size (w.heap.size + 1) _ w) (hT.next (Below.refl _ _).drew) (by kernel_rfl) (by kernel_rfl) ?_; repeat (refine wpQuiet_step (fun qK9 qH9 => ?_); go_simp; first | (refine qH9 _ ?_; clear qH9 qK9) | (apply Exists.intro; refine ⟨?_, qH9 _ ?_⟩; (first | (intros; rfl) | (first | (intro wx hC; ((have qk9 := Lay.cells hC; simp only [List.forall_mem_cons, List.not_mem_nil, false_implies, implies_true, and_true] at qk9; repeat (obtain ⟨qk8, qk9⟩ := qk9)); go_simp; first | done | rfl)) | (intro wx hC; exact Calls.lays (QB wx).out (fun _ => hC.next)))); clear qH9 qK9)))
      refine wpQuiet_nil ?_
      intro wy hT
      go_wp2_with fail
      go_roundw
      case rel => exact ⟨Or.inr (Or.inr rfl), hT⟩
      case measure => simp [intOf]
    · go_upto_region 14 with fail
      (refine wp_region_class (Lay w.heap.size (w.heap.size + 1) _ w) (hT.next (Below.refl _ _).drew) (by kernel_rfl) (by kernel_rfl) ?_; repeat (refine wpQuiet_step (fun qK9 qH9 => ?_); go_simp; first | (refine qH9 _ ?_; clear qH9 qK9) | (apply Exists.intro; refine ⟨?_, qH9 _ ?_⟩; (first | (intros; rfl) | (first | (intro wx hC; ((have qk9 := Lay.cells hC; simp only [List.forall_mem_cons, List.not_mem_nil, false_implies, implies_true, and_true] at qk9; repeat (obtain ⟨qk8, qk9⟩ := qk9)); go_simp; first | done | rfl)) | (intro wx hC; exact Calls.lays (SA wx).out (fun _ => hC.next)) | (intro wx hC; exact Calls.lays (SB wx).out (fun _ => hC.next)))); clear qH9 qK9)))
      refine wpQuiet_nil ?_
      intro wy hT
      go_wp2_with fail
      go_ret
      exact ⟨rfl, hT.be⟩
set_option maxHeartbeats 4000000 in
set_option maxRecDepth 20000 in
theorem law_planes_18 (p0 p1 p2 : Int) (w : World)  :
    Calls Try.prog 8 #[.agg #[.int .i64 p0, .int .i64 p1, .int .i64 p2], .int .i64 18] w fun e w' => e = .returned (.bool true) ∧ Below w.heap.size w w' := by
  have S0 := fun w => Lib.hid (Small_any p0 p1 p2 w)
  cases hA : smB 33554432 p0 p1 p2
  · rw [hA] at S0
    clear hA
    go_enter Try.func8, Try.ntmps8
    go_wp2_with fail
    refine (awake_any _).mono ?_
    rintro e w1 ⟨rfl, hb1⟩
    have hT : Lay w.heap.size (w.heap.size + 1) [(⟨w.heap.size, 0, none⟩, .int .i64 p0), (⟨w.heap.size, 1, none⟩, .int .i64 p1), (⟨w.heap.size, 2, none⟩, .int .i64 p2)] w w1 := by
      refine Lay.next (w := w.alloc (.cells #[.int .i64 p0, .int .i64 p1, .int .i64 p2] 23)) ?_ hb1
      (refine ⟨by simp [List.forall_mem_cons, go_sem], by simp [List.forall_mem_cons] <;> omega, by simp, by (repeat (first | exact Below.refl _ _ | assumption | refine Below.drew ?_ | (refine Below.alloc ?_ (by simp <;> omega) _) | (refine Below.setCell ?_ (by simp <;> omega) _))), by omega⟩)
    clear hb1
    (have qk9 := Lay.cells hT; simp only [List.forall_mem_cons, List.not_mem_nil, false_implies, implies_true, and_true] at qk9; repeat (obtain ⟨qk8, qk9⟩ := qk9))
    go_wp2_with fail
    refine (S0 _).out.mono ?_
    rintro e w2 ⟨rfl, hb2⟩
    have hT := hT.next hb2
    clear hb2
    (have qk9 := Lay.cells hT; simp only [List.forall_mem_cons, List.not_mem_nil, false_implies, implies_true, and_true] at qk9; repeat (obtain ⟨qk8, qk9⟩ := qk9))
    go_wp2_with fail
    go_ret
    exact ⟨rfl, hT.be⟩
  · rw [hA] at S0
    clear hA
    have PA := fun w => Lib.hid (planeP_18 p0 p1 p2 w )
    have PB := fun w => Lib.hid (planeR_18 p0 p1 p2 w )
    have SA := fun w => Lib.hid (spaceP_18 p0 p1 p2 w )
    have SB := fun w => Lib.hid (spaceR_18 p0 p1 p2 w )
    go_enter Try.func8, Try.ntmps8
    go_wp2_with fail
    refine (awake_any _).mono ?_
    rintro e w1 ⟨rfl, hb1⟩
    have hT : Lay w.heap.size (w.heap.size + 1) [(⟨w.heap.size, 0, none⟩, .int .i64 p0), (⟨w.heap.size, 1, none⟩, .int .i64 p1), (⟨w.heap.size, 2, none⟩, .int .i64 p2)] w w1 := by
      refine Lay.next (w := w.alloc (.cells #[.int .i64 p0, .int .i64 p1, .int .i64 p2] 23)) ?_ hb1
      (refine ⟨by simp [List.forall_mem_cons, go_sem], by simp [List.forall_mem_cons] <;> omega, by simp, by (repeat (first | exact Below.refl _ _ | assumption | refine Below.drew ?_ | (refine Below.alloc ?_ (by simp <;> omega) _) | (refine Below.setCell ?_ (by simp <;> omega) _))), by omega⟩)
    clear hb1
    (have qk9 := Lay.cells hT; simp only [List.forall_mem_cons, List.not_mem_nil, false_implies, implies_true, and_true] at qk9; repeat (obtain ⟨qk8, qk9⟩ := qk9))
    go_wp2_with fail
    refine (S0 _).out.mono ?_
    rintro e w2 ⟨rfl, hb2⟩
    have hT := hT.next hb2
    clear hb2
    (have qk9 := Lay.cells hT; simp only [List.forall_mem_cons, List.not_mem_nil, false_implies, implies_true, and_true] at qk9; repeat (obtain ⟨qk8, qk9⟩ := qk9))
    go_wp2_with fail
    refine (PA _).out.mono ?_
    rintro e w3 ⟨rfl, hb3⟩
    have hT := hT.next hb3
    clear hb3
    (have qk9 := Lay.cells hT; simp only [List.forall_mem_cons, List.not_mem_nil, false_implies, implies_true, and_true] at qk9; repeat (obtain ⟨qk8, qk9⟩ := qk9))
    go_wp2_with fail
    refine (PB _).out.mono ?_
    rintro e w4 ⟨rfl, hb4⟩
    have hT := hT.next hb4
    clear hb4
    go_wp2_with fail
    go_loopw [36] (fun t wr => ((t = .int .i64 0 ∨ t = .int .i64 1) ∨ (t = .int .i64 2 ∨ t = .int .i64 3)) ∧ Lay w.heap.size (w.heap.size + 1) [(⟨w.heap.size, 0, none⟩, .int .i64 p0), (⟨w.heap.size, 1, none⟩, .int .i64 p1), (⟨w.heap.size, 2, none⟩, .int .i64 p2)] w wr) (fun t _ => 3 - (intOf t).toNat)
    case atStart => exact ⟨Or.inl (Or.inl rfl), hT⟩
    case round =>
    clear hT
    obtain ⟨hd, hT⟩ := hrel
    rcases hd with (rfl | rfl) | (rfl | rfl)
    · have I0 : ∀ w, (Instr.index 22 (.agg #[.int .i64 17, .int .i64 18, .int .i64 19]) (.int .i64 0)).run Try.prog w = .ok (.int .i64 17) w := fun _ => by kernel_rfl
      have QA := fun w => Lib.hid (planeP_17 p0 p1 p2 w)
      have QB := fun w => Lib.hid (spaceP_17 p0 p1 p2 w)
      (have qk9 := Lay.cells hT; simp only [List.forall_mem_cons, List.not_mem_nil, false_implies, implies_true, and_true] at qk9; repeat (obtain ⟨qk8, qk9⟩ := qk9))
      go_wp2_with fail
      refine (QA _).out.mono ?_
      rintro e w5 ⟨rfl, hb5⟩
      have hT := hT.next hb5
      clear hb5
      go_upto_region 11 with fail
      (refine wp_region_class (Lay w.heap.size (w.heap.size + 1) _ w) (hT.next (Below.refl _ _).drew) (by kernel_rfl) (by kernel_rfl) ?_; repeat (refine wpQuiet_step (fun qK9 qH9 => ?_); go_simp; first | (refine qH9 _ ?_; clear qH9 qK9) | (apply Exists.intro; refine ⟨?_, qH9 _ ?_⟩; (first | (intros; rfl) | (first | (intro wx hC; ((have qk9 := Lay.cells hC; simp only [List.forall_mem_cons, List.not_mem_nil, false_implies, implies_true, and_true] at qk9; repeat (obtain ⟨qk8, qk9⟩ := qk9)); go_simp; first | done | rfl)) | (intro wx hC; exact Calls.lays (QB wx).out (fun _ => hC.next)))); clear qH9 qK9)))
      refine wpQuiet_nil ?_
      intro wy hT
      go_wp2_with fail
      go_roundw
      case rel => exact ⟨Or.inl (Or.inr rfl), hT⟩
      case measure => simp [intOf]
    · have I0 : ∀ w, (Instr.index 22 (.agg #[.int .i64 17, .int .i64 18, .int .i64 19]) (.int .i64 1)).run Try.prog w = .ok (.int .i64 18) w := fun _ => by kernel_rfl
      have QA := fun w => Lib.hid (planeP_18 p0 p1 p2 w)
      have QB := fun w => Lib.hid (spaceP_18 p2 p0 p1 w)
      (have qk9 := Lay.cells hT; simp only [List.forall_mem_cons, List.not_mem_nil, false_implies, implies_true, and_true] at qk9; repeat (obtain ⟨qk8, qk9⟩ := qk9))
      go_wp2_with fail
      refine (QA _).out.mono ?_
      rintro e w5 ⟨rfl, hb5⟩
      have hT := hT.next hb5
      clear hb5
      go_upto_region 11 with fail
      (refine wp_region_class (Lay w.heap.size (w.heap.size + 1) _ w) (hT.next (Below.refl _ _).drew) (by kernel_rfl) (by kernel_rfl) ?_; repeat (refine wpQuiet_step (fun qK9 qH9 => ?_); go_simp; first | (refine qH9 _ ?_; clear qH9 qK9) | (apply Exists.intro; refine ⟨?_, qH9 _ ?_⟩; (first | (intros; rfl) | (first | (intro wx hC; ((have qk9 := Lay.cells hC; simp only [List.forall_mem_cons, List.not_mem_nil, false_implies, implies_true, and_true] at qk9; repeat (obtain ⟨qk8, qk9⟩ := qk9)); go_simp; first | done | rfl)) | (intro wx hC; exact Calls.lays (QB wx).out (fun _ => hC.next)))); clear qH9 qK9)))
      refine wpQuiet_nil ?_
      intro wy hT
      go_wp2_with fail
      go_roundw
      case rel => exact ⟨Or.inr (Or.inl rfl), hT⟩
      case measure => simp [intOf]
    · have I0 : ∀ w, (Instr.index 22 (.agg #[.int .i64 17, .int .i64 18, .int .i64 19]) (.int .i64 2)).run Try.prog w = .ok (.int .i64 19) w := fun _ => by kernel_rfl
      have QA := fun w => Lib.hid (planeP_19 p0 p1 p2 w)
      have QB := fun w => Lib.hid (spaceP_19 p1 p2 p0 w)
      (have qk9 := Lay.cells hT; simp only [List.forall_mem_cons, List.not_mem_nil, false_implies, implies_true, and_true] at qk9; repeat (obtain ⟨qk8, qk9⟩ := qk9))
      go_wp2_with fail
      refine (QA _).out.mono ?_
      rintro e w5 ⟨rfl, hb5⟩
      have hT := hT.next hb5
      clear hb5
      go_upto_region 11 with fail
      (refine wp_region_class (Lay w.heap.size (w.heap.size + 1) _ w) (hT.next (Below.refl _ _).drew) (by kernel_rfl) (by kernel_rfl) ?_; repeat (refine wpQuiet_step (fun qK9 qH9 => ?_); go_simp; first | (refine qH9 _ ?_; clear qH9 qK9) | (apply Exists.intro; refine ⟨?_, qH9 _ ?_⟩; (first | (intros; rfl) | (first | (intro wx hC; ((have qk9 := Lay.cells hC; simp only [List.forall_mem_cons, List.not_mem_nil, false_implies, implies_true, and_true] at qk9; repeat (obtain ⟨qk8, qk9⟩ := qk9)); go_simp; first | done | rfl)) | (intro wx hC; exact Calls.lays (QB wx).out (fun _ => hC.next)))); clear qH9 qK9)))
      refine wpQuiet_nil ?_
      intro wy hT
      go_wp2_with fail
      go_roundw
      case rel => exact ⟨Or.inr (Or.inr rfl), hT⟩
      case measure => simp [intOf]
    · go_upto_region 14 with fail
      (refine wp_region_class (Lay w.heap.size (w.heap.size + 1) _ w) (hT.next (Below.refl _ _).drew) (by kernel_rfl) (by kernel_rfl) ?_; repeat (refine wpQuiet_step (fun qK9 qH9 => ?_); go_simp; first | (refine qH9 _ ?_; clear qH9 qK9) | (apply Exists.intro; refine ⟨?_, qH9 _ ?_⟩; (first | (intros; rfl) | (first | (intro wx hC; ((have qk9 := Lay.cells hC; simp only [List.forall_mem_cons, List.not_mem_nil, false_implies, implies_true, and_true] at qk9; repeat (obtain ⟨qk8, qk9⟩ := qk9)); go_simp; first | done | rfl)) | (intro wx hC; exact Calls.lays (SA wx).out (fun _ => hC.next)) | (intro wx hC; exact Calls.lays (SB wx).out (fun _ => hC.next)))); clear qH9 qK9)))
      refine wpQuiet_nil ?_
      intro wy hT
      go_wp2_with fail
      go_ret
      exact ⟨rfl, hT.be⟩
set_option maxHeartbeats 4000000 in
set_option maxRecDepth 20000 in
theorem law_planes_19 (p0 p1 p2 : Int) (w : World)  :
    Calls Try.prog 8 #[.agg #[.int .i64 p0, .int .i64 p1, .int .i64 p2], .int .i64 19] w fun e w' => e = .returned (.bool true) ∧ Below w.heap.size w w' := by
  have S0 := fun w => Lib.hid (Small_any p0 p1 p2 w)
  cases hA : smB 33554432 p0 p1 p2
  · rw [hA] at S0
    clear hA
    go_enter Try.func8, Try.ntmps8
    go_wp2_with fail
    refine (awake_any _).mono ?_
    rintro e w1 ⟨rfl, hb1⟩
    have hT : Lay w.heap.size (w.heap.size + 1) [(⟨w.heap.size, 0, none⟩, .int .i64 p0), (⟨w.heap.size, 1, none⟩, .int .i64 p1), (⟨w.heap.size, 2, none⟩, .int .i64 p2)] w w1 := by
      refine Lay.next (w := w.alloc (.cells #[.int .i64 p0, .int .i64 p1, .int .i64 p2] 23)) ?_ hb1
      (refine ⟨by simp [List.forall_mem_cons, go_sem], by simp [List.forall_mem_cons] <;> omega, by simp, by (repeat (first | exact Below.refl _ _ | assumption | refine Below.drew ?_ | (refine Below.alloc ?_ (by simp <;> omega) _) | (refine Below.setCell ?_ (by simp <;> omega) _))), by omega⟩)
    clear hb1
    (have qk9 := Lay.cells hT; simp only [List.forall_mem_cons, List.not_mem_nil, false_implies, implies_true, and_true] at qk9; repeat (obtain ⟨qk8, qk9⟩ := qk9))
    go_wp2_with fail
    refine (S0 _).out.mono ?_
    rintro e w2 ⟨rfl, hb2⟩
    have hT := hT.next hb2
    clear hb2
    (have qk9 := Lay.cells hT; simp only [List.forall_mem_cons, List.not_mem_nil, false_implies, implies_true, and_true] at qk9; repeat (obtain ⟨qk8, qk9⟩ := qk9))
    go_wp2_with fail
    go_ret
    exact ⟨rfl, hT.be⟩
  · rw [hA] at S0
    clear hA
    have PA := fun w => Lib.hid (planeP_19 p0 p1 p2 w )
    have PB := fun w => Lib.hid (planeR_19 p0 p1 p2 w )
    have SA := fun w => Lib.hid (spaceP_19 p0 p1 p2 w )
    have SB := fun w => Lib.hid (spaceR_19 p0 p1 p2 w )
    go_enter Try.func8, Try.ntmps8
    go_wp2_with fail
    refine (awake_any _).mono ?_
    rintro e w1 ⟨rfl, hb1⟩
    have hT : Lay w.heap.size (w.heap.size + 1) [(⟨w.heap.size, 0, none⟩, .int .i64 p0), (⟨w.heap.size, 1, none⟩, .int .i64 p1), (⟨w.heap.size, 2, none⟩, .int .i64 p2)] w w1 := by
      refine Lay.next (w := w.alloc (.cells #[.int .i64 p0, .int .i64 p1, .int .i64 p2] 23)) ?_ hb1
      (refine ⟨by simp [List.forall_mem_cons, go_sem], by simp [List.forall_mem_cons] <;> omega, by simp, by (repeat (first | exact Below.refl _ _ | assumption | refine Below.drew ?_ | (refine Below.alloc ?_ (by simp <;> omega) _) | (refine Below.setCell ?_ (by simp <;> omega) _))), by omega⟩)
    clear hb1
    (have qk9 := Lay.cells hT; simp only [List.forall_mem_cons, List.not_mem_nil, false_implies, implies_true, and_true] at qk9; repeat (obtain ⟨qk8, qk9⟩ := qk9))
    go_wp2_with fail
    refine (S0 _).out.mono ?_
    rintro e w2 ⟨rfl, hb2⟩
    have hT := hT.next hb2
    clear hb2
    (have qk9 := Lay.cells hT; simp only [List.forall_mem_cons, List.not_mem_nil, false_implies, implies_true, and_true] at qk9; repeat (obtain ⟨qk8, qk9⟩ := qk9))
    go_wp2_with fail
    refine (PA _).out.mono ?_
    rintro e w3 ⟨rfl, hb3⟩
    have hT := hT.next hb3
    clear hb3
    (have qk9 := Lay.cells hT; simp only [List.forall_mem_cons, List.not_mem_nil, false_implies, implies_true, and_true] at qk9; repeat (obtain ⟨qk8, qk9⟩ := qk9))
    go_wp2_with fail
    refine (PB _).out.mono ?_
    rintro e w4 ⟨rfl, hb4⟩
    have hT := hT.next hb4
    clear hb4
    go_wp2_with fail
    go_loopw [36] (fun t wr => ((t = .int .i64 0 ∨ t = .int .i64 1) ∨ (t = .int .i64 2 ∨ t = .int .i64 3)) ∧ Lay w.heap.size (w.heap.size + 1) [(⟨w.heap.size, 0, none⟩, .int .i64 p0), (⟨w.heap.size, 1, none⟩, .int .i64 p1), (⟨w.heap.size, 2, none⟩, .int .i64 p2)] w wr) (fun t _ => 3 - (intOf t).toNat)
    case atStart => exact ⟨Or.inl (Or.inl rfl), hT⟩
    case round =>
    clear hT
    obtain ⟨hd, hT⟩ := hrel
    rcases hd with (rfl | rfl) | (rfl | rfl)
    · have I0 : ∀ w, (Instr.index 22 (.agg #[.int .i64 17, .int .i64 18, .int .i64 19]) (.int .i64 0)).run Try.prog w = .ok (.int .i64 17) w := fun _ => by kernel_rfl
      have QA := fun w => Lib.hid (planeP_17 p0 p1 p2 w)
      have QB := fun w => Lib.hid (spaceP_17 p0 p1 p2 w)
      (have qk9 := Lay.cells hT; simp only [List.forall_mem_cons, List.not_mem_nil, false_implies, implies_true, and_true] at qk9; repeat (obtain ⟨qk8, qk9⟩ := qk9))
      go_wp2_with fail
      refine (QA _).out.mono ?_
      rintro e w5 ⟨rfl, hb5⟩
      have hT := hT.next hb5
      clear hb5
      go_upto_region 11 with fail
      (refine wp_region_class (Lay w.heap.size (w.heap.size + 1) _ w) (hT.next (Below.refl _ _).drew) (by kernel_rfl) (by kernel_rfl) ?_; repeat (refine wpQuiet_step (fun qK9 qH9 => ?_); go_simp; first | (refine qH9 _ ?_; clear qH9 qK9) | (apply Exists.intro; refine ⟨?_, qH9 _ ?_⟩; (first | (intros; rfl) | (first | (intro wx hC; ((have qk9 := Lay.cells hC; simp only [List.forall_mem_cons, List.not_mem_nil, false_implies, implies_true, and_true] at qk9; repeat (obtain ⟨qk8, qk9⟩ := qk9)); go_simp; first | done | rfl)) | (intro wx hC; exact Calls.lays (QB wx).out (fun _ => hC.next)))); clear qH9 qK9)))
      refine wpQuiet_nil ?_
      intro wy hT
      go_wp2_with fail
      go_roundw
      case rel => exact ⟨Or.inl (Or.inr rfl), hT⟩
      case measure => simp [intOf]
    · have I0 : ∀ w, (Instr.index 22 (.agg #[.int .i64 17, .int .i64 18, .int .i64 19]) (.int .i64 1)).run Try.prog w = .ok (.int .i64 18) w := fun _ => by kernel_rfl
      have QA := fun w => Lib.hid (planeP_18 p0 p1 p2 w)
      have QB := fun w => Lib.hid (spaceP_18 p2 p0 p1 w)
      (have qk9 := Lay.cells hT; simp only [List.forall_mem_cons, List.not_mem_nil, false_implies, implies_true, and_true] at qk9; repeat (obtain ⟨qk8, qk9⟩ := qk9))
      go_wp2_with fail
      refine (QA _).out.mono ?_
      rintro e w5 ⟨rfl, hb5⟩
      have hT := hT.next hb5
      clear hb5
      go_upto_region 11 with fail
      (refine wp_region_class (Lay w.heap.size (w.heap.size + 1) _ w) (hT.next (Below.refl _ _).drew) (by kernel_rfl) (by kernel_rfl) ?_; repeat (refine wpQuiet_step (fun qK9 qH9 => ?_); go_simp; first | (refine qH9 _ ?_; clear qH9 qK9) | (apply Exists.intro; refine ⟨?_, qH9 _ ?_⟩; (first | (intros; rfl) | (first | (intro wx hC; ((have qk9 := Lay.cells hC; simp only [List.forall_mem_cons, List.not_mem_nil, false_implies, implies_true, and_true] at qk9; repeat (obtain ⟨qk8, qk9⟩ := qk9)); go_simp; first | done | rfl)) | (intro wx hC; exact Calls.lays (QB wx).out (fun _ => hC.next)))); clear qH9 qK9)))
      refine wpQuiet_nil ?_
      intro wy hT
      go_wp2_with fail
      go_roundw
      case rel => exact ⟨Or.inr (Or.inl rfl), hT⟩
      case measure => simp [intOf]
    · have I0 : ∀ w, (Instr.index 22 (.agg #[.int .i64 17, .int .i64 18, .int .i64 19]) (.int .i64 2)).run Try.prog w = .ok (.int .i64 19) w := fun _ => by kernel_rfl
      have QA := fun w => Lib.hid (planeP_19 p0 p1 p2 w)
      have QB := fun w => Lib.hid (spaceP_19 p1 p2 p0 w)
      (have qk9 := Lay.cells hT; simp only [List.forall_mem_cons, List.not_mem_nil, false_implies, implies_true, and_true] at qk9; repeat (obtain ⟨qk8, qk9⟩ := qk9))
      go_wp2_with fail
      refine (QA _).out.mono ?_
      rintro e w5 ⟨rfl, hb5⟩
      have hT := hT.next hb5
      clear hb5
      go_upto_region 11 with fail
      (refine wp_region_class (Lay w.heap.size (w.heap.size + 1) _ w) (hT.next (Below.refl _ _).drew) (by kernel_rfl) (by kernel_rfl) ?_; repeat (refine wpQuiet_step (fun qK9 qH9 => ?_); go_simp; first | (refine qH9 _ ?_; clear qH9 qK9) | (apply Exists.intro; refine ⟨?_, qH9 _ ?_⟩; (first | (intros; rfl) | (first | (intro wx hC; ((have qk9 := Lay.cells hC; simp only [List.forall_mem_cons, List.not_mem_nil, false_implies, implies_true, and_true] at qk9; repeat (obtain ⟨qk8, qk9⟩ := qk9)); go_simp; first | done | rfl)) | (intro wx hC; exact Calls.lays (QB wx).out (fun _ => hC.next)))); clear qH9 qK9)))
      refine wpQuiet_nil ?_
      intro wy hT
      go_wp2_with fail
      go_roundw
      case rel => exact ⟨Or.inr (Or.inr rfl), hT⟩
      case measure => simp [intOf]
    · go_upto_region 14 with fail
      (refine wp_region_class (Lay w.heap.size (w.heap.size + 1) _ w) (hT.next (Below.refl _ _).drew) (by kernel_rfl) (by kernel_rfl) ?_; repeat (refine wpQuiet_step (fun qK9 qH9 => ?_); go_simp; first | (refine qH9 _ ?_; clear qH9 qK9) | (apply Exists.intro; refine ⟨?_, qH9 _ ?_⟩; (first | (intros; rfl) | (first | (intro wx hC; ((have qk9 := Lay.cells hC; simp only [List.forall_mem_cons, List.not_mem_nil, false_implies, implies_true, and_true] at qk9; repeat (obtain ⟨qk8, qk9⟩ := qk9)); go_simp; first | done | rfl)) | (intro wx hC; exact Calls.lays (SA wx).out (fun _ => hC.next)) | (intro wx hC; exact Calls.lays (SB wx).out (fun _ => hC.next)))); clear qH9 qK9)))
      refine wpQuiet_nil ?_
      intro wy hT
      go_wp2_with fail
      go_ret
      exact ⟨rfl, hT.be⟩
set_option maxHeartbeats 4000000 in
set_option maxRecDepth 20000 in
theorem law_planes_no (p0 p1 p2 : Int) (k : Int) (w : World) (h17 : k ≠ 17) (h18 : k ≠ 18) (h19 : k ≠ 19) :
    Calls Try.prog 8 #[.agg #[.int .i64 p0, .int .i64 p1, .int .i64 p2], .int .i64 k] w fun e w' => e = .returned (.bool true) ∧ Below w.heap.size w w' := by
  have S0 := fun w => Lib.hid (Small_any p0 p1 p2 w)
  cases hA : smB 33554432 p0 p1 p2
  · rw [hA] at S0
    clear hA
    go_enter Try.func8, Try.ntmps8
    go_wp2_with fail
    refine (awake_any _).mono ?_
    rintro e w1 ⟨rfl, hb1⟩
    have hT : Lay w.heap.size (w.heap.size + 1) [(⟨w.heap.size, 0, none⟩, .int .i64 p0), (⟨w.heap.size, 1, none⟩, .int .i64 p1), (⟨w.heap.size, 2, none⟩, .int .i64 p2)] w w1 := by
      refine Lay.next (w := w.alloc (.cells #[.int .i64 p0, .int .i64 p1, .int .i64 p2] 23)) ?_ hb1
      (refine ⟨by simp [List.forall_mem_cons, go_sem], by simp [List.forall_mem_cons] <;> omega, by simp, by (repeat (first | exact Below.refl _ _ | assumption | refine Below.drew ?_ | (refine Below.alloc ?_ (by simp <;> omega) _) | (refine Below.setCell ?_ (by simp <;> omega) _))), by omega⟩)
    clear hb1
    (have qk9 := Lay.cells hT; simp only [List.forall_mem_cons, List.not_mem_nil, false_implies, implies_true, and_true] at qk9; repeat (obtain ⟨qk8, qk9⟩ := qk9))
    go_wp2_with fail
    refine (S0 _).out.mono ?_
    rintro e w2 ⟨rfl, hb2⟩
    have hT := hT.next hb2
    clear hb2
    (have qk9 := Lay.cells hT; simp only [List.forall_mem_cons, List.not_mem_nil, false_implies, implies_true, and_true] at qk9; repeat (obtain ⟨qk8, qk9⟩ := qk9))
    go_wp2_with fail
    go_ret
    exact ⟨rfl, hT.be⟩
  · rw [hA] at S0
    clear hA
    have PA := fun w => Lib.hid (planeP_no p0 p1 p2 k w h17 h18 h19)
    have PB := fun w => Lib.hid (planeR_no p0 p1 p2 k w h17 h18 h19)
    have SA := fun w => Lib.hid (spaceP_no p0 p1 p2 k w h17 h18 h19)
    have SB := fun w => Lib.hid (spaceR_no p0 p1 p2 k w h17 h18 h19)
    go_enter Try.func8, Try.ntmps8
    go_wp2_with fail
    refine (awake_any _).mono ?_
    rintro e w1 ⟨rfl, hb1⟩
    have hT : Lay w.heap.size (w.heap.size + 1) [(⟨w.heap.size, 0, none⟩, .int .i64 p0), (⟨w.heap.size, 1, none⟩, .int .i64 p1), (⟨w.heap.size, 2, none⟩, .int .i64 p2)] w w1 := by
      refine Lay.next (w := w.alloc (.cells #[.int .i64 p0, .int .i64 p1, .int .i64 p2] 23)) ?_ hb1
      (refine ⟨by simp [List.forall_mem_cons, go_sem], by simp [List.forall_mem_cons] <;> omega, by simp, by (repeat (first | exact Below.refl _ _ | assumption | refine Below.drew ?_ | (refine Below.alloc ?_ (by simp <;> omega) _) | (refine Below.setCell ?_ (by simp <;> omega) _))), by omega⟩)
    clear hb1
    (have qk9 := Lay.cells hT; simp only [List.forall_mem_cons, List.not_mem_nil, false_implies, implies_true, and_true] at qk9; repeat (obtain ⟨qk8, qk9⟩ := qk9))
    go_wp2_with fail
    refine (S0 _).out.mono ?_
    rintro e w2 ⟨rfl, hb2⟩
    have hT := hT.next hb2
    clear hb2
    (have qk9 := Lay.cells hT; simp only [List.forall_mem_cons, List.not_mem_nil, false_implies, implies_true, and_true] at qk9; repeat (obtain ⟨qk8, qk9⟩ := qk9))
    go_wp2_with fail
    refine (PA _).out.mono ?_
    rintro e w3 ⟨rfl, hb3⟩
    have hT := hT.next hb3
    clear hb3
    (have qk9 := Lay.cells hT; simp only [List.forall_mem_cons, List.not_mem_nil, false_implies, implies_true, and_true] at qk9; repeat (obtain ⟨qk8, qk9⟩ := qk9))
    go_wp2_with fail
    refine (PB _).out.mono ?_
    rintro e w4 ⟨rfl, hb4⟩
    have hT := hT.next hb4
    clear hb4
    go_wp2_with fail
    go_loopw [36] (fun t wr => ((t = .int .i64 0 ∨ t = .int .i64 1) ∨ (t = .int .i64 2 ∨ t = .int .i64 3)) ∧ Lay w.heap.size (w.heap.size + 1) [(⟨w.heap.size, 0, none⟩, .int .i64 p0), (⟨w.heap.size, 1, none⟩, .int .i64 p1), (⟨w.heap.size, 2, none⟩, .int .i64 p2)] w wr) (fun t _ => 3 - (intOf t).toNat)
    case atStart => exact ⟨Or.inl (Or.inl rfl), hT⟩
    case round =>
    clear hT
    obtain ⟨hd, hT⟩ := hrel
    rcases hd with (rfl | rfl) | (rfl | rfl)
    · have I0 : ∀ w, (Instr.index 22 (.agg #[.int .i64 17, .int .i64 18, .int .i64 19]) (.int .i64 0)).run Try.prog w = .ok (.int .i64 17) w := fun _ => by kernel_rfl
      have QA := fun w => Lib.hid (planeP_17 p0 p1 p2 w)
      have QB := fun w => Lib.hid (spaceP_17 p0 p1 p2 w)
      (have qk9 := Lay.cells hT; simp only [List.forall_mem_cons, List.not_mem_nil, false_implies, implies_true, and_true] at qk9; repeat (obtain ⟨qk8, qk9⟩ := qk9))
      go_wp2_with fail
      refine (QA _).out.mono ?_
      rintro e w5 ⟨rfl, hb5⟩
      have hT := hT.next hb5
      clear hb5
      go_upto_region 11 with fail
      (refine wp_region_class (Lay w.heap.size (w.heap.size + 1) _ w) (hT.next (Below.refl _ _).drew) (by kernel_rfl) (by kernel_rfl) ?_; repeat (refine wpQuiet_step (fun qK9 qH9 => ?_); go_simp; first | (refine qH9 _ ?_; clear qH9 qK9) | (apply Exists.intro; refine ⟨?_, qH9 _ ?_⟩; (first | (intros; rfl) | (first | (intro wx hC; ((have qk9 := Lay.cells hC; simp only [List.forall_mem_cons, List.not_mem_nil, false_implies, implies_true, and_true] at qk9; repeat (obtain ⟨qk8, qk9⟩ := qk9)); go_simp; first | done | rfl)) | (intro wx hC; exact Calls.lays (QB wx).out (fun _ => hC.next)))); clear qH9 qK9)))
      refine wpQuiet_nil ?_
      intro wy hT
      go_wp2_with fail
      go_roundw
      case rel => exact ⟨Or.inl (Or.inr rfl), hT⟩
      case measure => simp [intOf]
    · have I0 : ∀ w, (Instr.index 22 (.agg #[.int .i64 17, .int .i64 18, .int .i64 19]) (.int .i64 1)).run Try.prog w = .ok (.int .i64 18) w := fun _ => by kernel_rfl
      have QA := fun w => Lib.hid (planeP_18 p0 p1 p2 w)
      have QB := fun w => Lib.hid (spaceP_18 p2 p0 p1 w)
      (have qk9 := Lay.cells hT; simp only [List.forall_mem_cons, List.not_mem_nil, false_implies, implies_true, and_true] at qk9; repeat (obtain ⟨qk8, qk9⟩ := qk9))
      go_wp2_with fail
      refine (QA _).out.mono ?_
      rintro e w5 ⟨rfl, hb5⟩
      have hT := hT.next hb5
      clear hb5
      go_upto_region 11 with fail
      (refine wp_region_class (Lay w.heap.size (w.heap.size + 1) _ w) (hT.next (Below.refl _ _).drew) (by kernel_rfl) (by kernel_rfl) ?_; repeat (refine wpQuiet_step (fun qK9 qH9 => ?_); go_simp; first | (refine qH9 _ ?_; clear qH9 qK9) | (apply Exists.intro; refine ⟨?_, qH9 _ ?_⟩; (first | (intros; rfl) | (first | (intro wx hC; ((have qk9 := Lay.cells hC; simp only [List.forall_mem_cons, List.not_mem_nil, false_implies, implies_true, and_true] at qk9; repeat (obtain ⟨qk8, qk9⟩ := qk9)); go_simp; first | done | rfl)) | (intro wx hC; exact Calls.lays (QB wx).out (fun _ => hC.next)))); clear qH9 qK9)))
      refine wpQuiet_nil ?_
      intro wy hT
      go_wp2_with fail
      go_roundw
      case rel => exact ⟨Or.inr (Or.inl rfl), hT⟩
      case measure => simp [intOf]
    · have I0 : ∀ w, (Instr.index 22 (.agg #[.int .i64 17, .int .i64 18, .int .i64 19]) (.int .i64 2)).run Try.prog w = .ok (.int .i64 19) w := fun _ => by kernel_rfl
      have QA := fun w => Lib.hid (planeP_19 p0 p1 p2 w)
      have QB := fun w => Lib.hid (spaceP_19 p1 p2 p0 w)
      (have qk9 := Lay.cells hT; simp only [List.forall_mem_cons, List.not_mem_nil, false_implies, implies_true, and_true] at qk9; repeat (obtain ⟨qk8, qk9⟩ := qk9))
      go_wp2_with fail
      refine (QA _).out.mono ?_
      rintro e w5 ⟨rfl, hb5⟩
      have hT := hT.next hb5
      clear hb5
      go_upto_region 11 with fail
      (refine wp_region_class (Lay w.heap.size (w.heap.size + 1) _ w) (hT.next (Below.refl _ _).drew) (by kernel_rfl) (by kernel_rfl) ?_; repeat (refine wpQuiet_step (fun qK9 qH9 => ?_); go_simp; first | (refine qH9 _ ?_; clear qH9 qK9) | (apply Exists.intro; refine ⟨?_, qH9 _ ?_⟩; (first | (intros; rfl) | (first | (intro wx hC; ((have qk9 := Lay.cells hC; simp only [List.forall_mem_cons, List.not_mem_nil, false_implies, implies_true, and_true] at qk9; repeat (obtain ⟨qk8, qk9⟩ := qk9)); go_simp; first | done | rfl)) | (intro wx hC; exact Calls.lays (QB wx).out (fun _ => hC.next)))); clear qH9 qK9)))
      refine wpQuiet_nil ?_
      intro wy hT
      go_wp2_with fail
      go_roundw
      case rel => exact ⟨Or.inr (Or.inr rfl), hT⟩
      case measure => simp [intOf]
    · go_upto_region 14 with fail
      (refine wp_region_class (Lay w.heap.size (w.heap.size + 1) _ w) (hT.next (Below.refl _ _).drew) (by kernel_rfl) (by kernel_rfl) ?_; repeat (refine wpQuiet_step (fun qK9 qH9 => ?_); go_simp; first | (refine qH9 _ ?_; clear qH9 qK9) | (apply Exists.intro; refine ⟨?_, qH9 _ ?_⟩; (first | (intros; rfl) | (first | (intro wx hC; ((have qk9 := Lay.cells hC; simp only [List.forall_mem_cons, List.not_mem_nil, false_implies, implies_true, and_true] at qk9; repeat (obtain ⟨qk8, qk9⟩ := qk9)); go_simp; first | done | rfl)) | (intro wx hC; exact Calls.lays (SA wx).out (fun _ => hC.next)) | (intro wx hC; exact Calls.lays (SB wx).out (fun _ => hC.next)))); clear qH9 qK9)))
      refine wpQuiet_nil ?_
      intro wy hT
      go_wp2_with fail
      go_ret
      exact ⟨rfl, hT.be⟩
theorem law_planes (p0 p1 p2 k : Int) (w : World) (lp0 : -9223372036854775808 ≤ p0) (up0 : p0 ≤ 9223372036854775807) (lp1 : -9223372036854775808 ≤ p1) (up1 : p1 ≤ 9223372036854775807) (lp2 : -9223372036854775808 ≤ p2) (up2 : p2 ≤ 9223372036854775807) (lk : -9223372036854775808 ≤ k) (uk : k ≤ 9223372036854775807) : Calls Try.prog 8 #[.agg #[.int .i64 p0, .int .i64 p1, .int .i64 p2], .int .i64 k] w fun e w' => e = .returned (.bool true) ∧ Below w.heap.size w w' := by
  by_cases h17 : k = 17
  · subst h17; exact law_planes_17 p0 p1 p2 w
  by_cases h18 : k = 18
  · subst h18; exact law_planes_18 p0 p1 p2 w
  by_cases h19 : k = 19
  · subst h19; exact law_planes_19 p0 p1 p2 w
  · exact law_planes_no p0 p1 p2 k w h17 h18 h19
end Go.Proofs.Ytiolnpkieooceaa
