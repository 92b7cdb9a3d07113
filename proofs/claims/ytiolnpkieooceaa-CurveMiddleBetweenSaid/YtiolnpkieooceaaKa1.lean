/- Proved here: curve's Flat, dot, cross and Length, and the reference's Flat; ranges of the arguments as stated. -/
import Derived.Test.YtiolnpkieooceaaYo3
import Derived.Deep.QuietTactic
namespace Go.Proofs.Ytiolnpkieooceaa
open Go.RowKit
set_option linter.unusedVariables false
set_option linter.unusedSimpArgs false
theorem flatP_any (r s : Int) (w : World) (h1 : 1 ≤ r) (h2 : r ≤ 67108864) :
    Calls Try.prog 13 #[.int .i64 r, .int .i64 s] w fun e w' => e = .returned (.bool (decide (s ≤ 8 * r * 4 - 64))) ∧ w = w' := by
  go_enter Try.func13, Try.ntmps13
  go_wp2_with fail
  go_ret
  exact ⟨rfl, rfl⟩
theorem flatR_any (r s : Int) (w : World) (h1 : 1 ≤ r) (h2 : r ≤ 67108864) :
    Calls Try.prog 14 #[.int .i64 r, .int .i64 s] w fun e w' => e = .returned (.bool (decide (s ≤ 8 * r * 4 - 64))) ∧ w = w' := by
  go_enter Try.func14, Try.ntmps14
  go_wp2_with fail
  go_ret
  exact ⟨rfl, rfl⟩
set_option maxHeartbeats 1000000 in
theorem dot_aw (w : World) : Calls Try.prog 27 #[.agg #[.int .i64 128, .int .i64 0, .int .i64 128, .int .i64 0], .agg #[.int .i64 (-128), .int .i64 0, .int .i64 128, .int .i64 0]] w fun e w' => e = .returned (.int .i64 (-16384)) ∧ Below w.heap.size w w' := by
  go_enter Try.func27, Try.ntmps27
  go_wp2_with fail
  go_ret
  exact ⟨rfl, (((Below.refl _ _).alloc (Nat.le_refl _) _).alloc (by simp) _)⟩
theorem aw_u : ovV 0 128 65536 2 = 0 ∧ ovO 0 128 65536 2 = true := by decide +kernel
theorem aw_w : ovV 256 128 65536 2 = 128 ∧ ovO 256 128 65536 2 = true := by decide +kernel
theorem aw_l : sqV 26 1 = 6 ∧ sqO 26 1 = true := by decide +kernel
set_option maxHeartbeats 2000000 in
set_option maxRecDepth 20000 in
theorem length_aw (w : World) : Calls Try.prog 11 #[.agg #[.int .i64 0, .int .i64 0, .int .i64 0], .agg #[.int .i64 3, .int .i64 4, .int .i64 1]] w fun e w' => e = .returned (.int .i64 6) ∧ Below w.heap.size w w' := by
  have SQ := fun w => Lib.hid (sqrt_any 26 1 w (by omega))
  rw [aw_l.1, aw_l.2] at SQ
  go_enter Try.func11, Try.ntmps11
  go_wp2_with fail
  go_loopw [5, 9] (fun s t wr => (((t = .int .i64 0 ∧ s = .int .i64 0) ∨ (t = .int .i64 1 ∧ s = .int .i64 9)) ∨ ((t = .int .i64 2 ∧ s = .int .i64 25) ∨ (t = .int .i64 3 ∧ s = .int .i64 26))) ∧ Lay w.heap.size (w.heap.size + 2) [(⟨w.heap.size, 0, none⟩, .int .i64 0), (⟨w.heap.size, 1, none⟩, .int .i64 0), (⟨w.heap.size, 2, none⟩, .int .i64 0), (⟨w.heap.size + 1, 0, none⟩, .int .i64 3), (⟨w.heap.size + 1, 1, none⟩, .int .i64 4), (⟨w.heap.size + 1, 2, none⟩, .int .i64 1)] w wr) (fun _ t _ => 3 - (intOf t).toNat)
  case atStart => exact ⟨Or.inl (Or.inl ⟨rfl, rfl⟩), by (refine ⟨by simp [List.forall_mem_cons, go_sem], by simp [List.forall_mem_cons] <;> omega, by simp, by (repeat (first | exact Below.refl _ _ | assumption | refine Below.drew ?_ | (refine Below.alloc ?_ (by simp <;> omega) _) | (refine Below.setCell ?_ (by simp <;> omega) _))), by omega⟩)⟩
  case round =>
  obtain ⟨hd, hT⟩ := hrel
  rcases hd with (⟨rfl, rfl⟩ | ⟨rfl, rfl⟩) | (⟨rfl, rfl⟩ | ⟨rfl, rfl⟩)
  · go_upto_region 5 with fail
    (refine wp_region_class (Lay w.heap.size (w.heap.size + 2) _ w) (hT.next (Below.refl _ _).drew) (by kernel_rfl) (by kernel_rfl) ?_; repeat (refine wpQuiet_step (fun qK9 qH9 => ?_); go_simp; first | (refine qH9 _ ?_; clear qH9 qK9) | (apply Exists.intro; refine ⟨?_, qH9 _ ?_⟩; (first | (intros; rfl) | ((intro wx hC; ((have qk9 := Lay.cells hC; simp only [List.forall_mem_cons, List.not_mem_nil, false_implies, implies_true, and_true] at qk9; repeat (obtain ⟨qk8, qk9⟩ := qk9)); go_simp; first | done | rfl)))); clear qH9 qK9)))
    refine wpQuiet_nil ?_
    intro wy hT
    go_wp2_with fail
    go_roundw
    case rel => exact ⟨Or.inl (Or.inr ⟨rfl, rfl⟩), hT⟩
    case measure => simp [intOf]
  · go_upto_region 5 with fail
    (refine wp_region_class (Lay w.heap.size (w.heap.size + 2) _ w) (hT.next (Below.refl _ _).drew) (by kernel_rfl) (by kernel_rfl) ?_; repeat (refine wpQuiet_step (fun qK9 qH9 => ?_); go_simp; first | (refine qH9 _ ?_; clear qH9 qK9) | (apply Exists.intro; refine ⟨?_, qH9 _ ?_⟩; (first | (intros; rfl) | ((intro wx hC; ((have qk9 := Lay.cells hC; simp only [List.forall_mem_cons, List.not_mem_nil, false_implies, implies_true, and_true] at qk9; repeat (obtain ⟨qk8, qk9⟩ := qk9)); go_simp; first | done | rfl)))); clear qH9 qK9)))
    refine wpQuiet_nil ?_
    intro wy hT
    go_wp2_with fail
    go_roundw
    case rel => exact ⟨Or.inr (Or.inl ⟨rfl, rfl⟩), hT⟩
    case measure => simp [intOf]
  · go_upto_region 5 with fail
    (refine wp_region_class (Lay w.heap.size (w.heap.size + 2) _ w) (hT.next (Below.refl _ _).drew) (by kernel_rfl) (by kernel_rfl) ?_; repeat (refine wpQuiet_step (fun qK9 qH9 => ?_); go_simp; first | (refine qH9 _ ?_; clear qH9 qK9) | (apply Exists.intro; refine ⟨?_, qH9 _ ?_⟩; (first | (intros; rfl) | ((intro wx hC; ((have qk9 := Lay.cells hC; simp only [List.forall_mem_cons, List.not_mem_nil, false_implies, implies_true, and_true] at qk9; repeat (obtain ⟨qk8, qk9⟩ := qk9)); go_simp; first | done | rfl)))); clear qH9 qK9)))
    refine wpQuiet_nil ?_
    intro wy hT
    go_wp2_with fail
    go_roundw
    case rel => exact ⟨Or.inr (Or.inr ⟨rfl, rfl⟩), hT⟩
    case measure => simp [intOf]
  · go_wp2_with fail
    refine (SQ _).out.mono ?_
    rintro e w2 ⟨rfl, hb2⟩
    have hT := hT.next hb2
    go_wp2_with fail
    go_ret
    exact ⟨rfl, hT.be⟩
end Go.Proofs.Ytiolnpkieooceaa
