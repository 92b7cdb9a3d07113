/- Proved here: Corner of both where the reach is 0; the points of a corner, of both; ranges as stated. -/
import Derived.Test.YtdjopepipcnmdaaBk3
namespace Go.Proofs.Ytdjopepipcnmdaa
open Go.RowKit
set_option linter.unusedVariables false
set_option linter.unusedSimpArgs false
theorem row_one (w : World) (c0 c1 c2 : Int) (T : TypeId) : Row w.heap.size (3 * 1) (3 * 1) (fun j => .int .i64 (cp c0 c1 c2 (j % 3))) (w.alloc (.cells #[.int .i64 c0, .int .i64 c1, .int .i64 c2] T)) := by
  have k : ∀ j, j < 3 → j = 0 ∨ j = 1 ∨ j = 2 := by omega
  refine ⟨fun j hj => ?_, fun j hj => ?_, fun j hj => ?_, by simp⟩
  · rcases k j hj with rfl | rfl | rfl <;> simp [go_sem, cp]
  · rcases k j hj with rfl | rfl | rfl <;> simp [go_sem]
  · rcases k j hj with rfl | rfl | rfl <;> simp [go_sem]

set_option maxHeartbeats 2000000 in
theorem cornerP_none (a0 a1 a2 c0 c1 c2 b0 b1 b2 tol : Int) (w : World)
    (RC : ∀ w, Hid (Calls Try.prog 18 #[.agg #[.int .i64 a0, .int .i64 a1, .int .i64 a2], .agg #[.int .i64 c0, .int .i64 c1, .int .i64 c2], .agg #[.int .i64 b0, .int .i64 b1, .int .i64 b2], .int .i64 tol] w fun e w' => e = .returned (.int .i64 0) ∧ Below w.heap.size w w')) :
    Calls Try.prog 23 #[.agg #[.int .i64 a0, .int .i64 a1, .int .i64 a2], .agg #[.int .i64 c0, .int .i64 c1, .int .i64 c2], .agg #[.int .i64 b0, .int .i64 b1, .int .i64 b2], .int .i64 tol] w (PostPts 1 (fun _ k => cp c0 c1 c2 k) w) := by
  have hT : Lf w.heap.size (w.heap.size + 1 + 1 + 1) [(⟨w.heap.size, 0, none⟩, .int .i64 a0), (⟨w.heap.size, 1, none⟩, .int .i64 a1), (⟨w.heap.size, 2, none⟩, .int .i64 a2), (⟨w.heap.size + 1, 0, none⟩, .int .i64 c0), (⟨w.heap.size + 1, 1, none⟩, .int .i64 c1), (⟨w.heap.size + 1, 2, none⟩, .int .i64 c2), (⟨w.heap.size + 1 + 1, 0, none⟩, .int .i64 b0), (⟨w.heap.size + 1 + 1, 1, none⟩, .int .i64 b1), (⟨w.heap.size + 1 + 1, 2, none⟩, .int .i64 b2)] w (((w.alloc (.cells #[.int .i64 a0, .int .i64 a1, .int .i64 a2] 23)).alloc (.cells #[.int .i64 c0, .int .i64 c1, .int .i64 c2] 23)).alloc (.cells #[.int .i64 b0, .int .i64 b1, .int .i64 b2] 23)) := ⟨by simp [List.forall_mem_cons, go_sem], by simp [List.forall_mem_cons, go_sem], by simp [List.forall_mem_cons] <;> omega, by simp, by (repeat (first | exact Below.refl _ _ | assumption | refine Below.drew ?_ | (refine Below.alloc ?_ (by simp <;> omega) _) | (refine Below.setCell ?_ (by simp <;> omega) _))), by omega⟩
  go_enter Try.func23, Try.ntmps23
  go_wp2_with fail
  refine (RC _).out.mono ?_
  rintro e w1 ⟨rfl, hb1⟩
  have hT := hT.next hb1
  clear RC hb1
  have kc := hT.cells
  have kf := hT.frz
  simp only [List.forall_mem_cons, List.not_mem_nil, false_implies, implies_true, and_true] at kc kf
  obtain ⟨yc0, yc1, yc2, yc3, yc4, yc5, yc6, yc7, yc8⟩ := kc
  obtain ⟨yf0, yf1, yf2, yf3, yf4, yf5, yf6, yf7, yf8⟩ := kf
  go_wp2_with fail
  go_ret
  exact ⟨w1.heap.size, 1, rfl, Nat.le_trans hT.le hT.lt, row_one w1 c0 c1 c2 _, hT.be.alloc (Nat.le_trans hT.le hT.lt) _⟩
set_option maxHeartbeats 2000000 in
theorem cornerR_none (a0 a1 a2 c0 c1 c2 b0 b1 b2 tol : Int) (w : World)
    (RC : ∀ w, Hid (Calls Try.prog 19 #[.agg #[.int .i64 a0, .int .i64 a1, .int .i64 a2], .agg #[.int .i64 c0, .int .i64 c1, .int .i64 c2], .agg #[.int .i64 b0, .int .i64 b1, .int .i64 b2], .int .i64 tol] w fun e w' => e = .returned (.int .i64 0) ∧ Below w.heap.size w w')) :
    Calls Try.prog 24 #[.agg #[.int .i64 a0, .int .i64 a1, .int .i64 a2], .agg #[.int .i64 c0, .int .i64 c1, .int .i64 c2], .agg #[.int .i64 b0, .int .i64 b1, .int .i64 b2], .int .i64 tol] w (PostPts 1 (fun _ k => cp c0 c1 c2 k) w) := by
  have hT : Lf w.heap.size (w.heap.size + 1 + 1 + 1) [(⟨w.heap.size, 0, none⟩, .int .i64 a0), (⟨w.heap.size, 1, none⟩, .int .i64 a1), (⟨w.heap.size, 2, none⟩, .int .i64 a2), (⟨w.heap.size + 1, 0, none⟩, .int .i64 c0), (⟨w.heap.size + 1, 1, none⟩, .int .i64 c1), (⟨w.heap.size + 1, 2, none⟩, .int .i64 c2), (⟨w.heap.size + 1 + 1, 0, none⟩, .int .i64 b0), (⟨w.heap.size + 1 + 1, 1, none⟩, .int .i64 b1), (⟨w.heap.size + 1 + 1, 2, none⟩, .int .i64 b2)] w (((w.alloc (.cells #[.int .i64 a0, .int .i64 a1, .int .i64 a2] 23)).alloc (.cells #[.int .i64 c0, .int .i64 c1, .int .i64 c2] 23)).alloc (.cells #[.int .i64 b0, .int .i64 b1, .int .i64 b2] 23)) := ⟨by simp [List.forall_mem_cons, go_sem], by simp [List.forall_mem_cons, go_sem], by simp [List.forall_mem_cons] <;> omega, by simp, by (repeat (first | exact Below.refl _ _ | assumption | refine Below.drew ?_ | (refine Below.alloc ?_ (by simp <;> omega) _) | (refine Below.setCell ?_ (by simp <;> omega) _))), by omega⟩
  go_enter Try.func24, Try.ntmps24
  go_wp2_with fail
  refine (RC _).out.mono ?_
  rintro e w1 ⟨rfl, hb1⟩
  have hT := hT.next hb1
  clear RC hb1
  have kc := hT.cells
  have kf := hT.frz
  simp only [List.forall_mem_cons, List.not_mem_nil, false_implies, implies_true, and_true] at kc kf
  obtain ⟨yc0, yc1, yc2, yc3, yc4, yc5, yc6, yc7, yc8⟩ := kc
  obtain ⟨yf0, yf1, yf2, yf3, yf4, yf5, yf6, yf7, yf8⟩ := kf
  go_wp2_with fail
  go_ret
  exact ⟨w1.heap.size, 1, rfl, Nat.le_trans hT.le hT.lt, row_one w1 c0 c1 c2 _, hT.be.alloc (Nat.le_trans hT.le hT.lt) _⟩
theorem rcG_perm (mo tol a0 a1 a2 c0 c1 c2 b0 b1 b2 : Int) : ∀ (k : Nat) (d : Int), (d = 0 ∨ pmB mo tol a0 a1 a2 c0 c1 c2 b0 b1 b2 d = true) → 0 ≤ d → d + 2 ^ k ≤ 33554433 →
    (rcG mo tol a0 a1 a2 c0 c1 c2 b0 b1 b2 k d = 0 ∨ pmB mo tol a0 a1 a2 c0 c1 c2 b0 b1 b2 (rcG mo tol a0 a1 a2 c0 c1 c2 b0 b1 b2 k d) = true) ∧ 0 ≤ rcG mo tol a0 a1 a2 c0 c1 c2 b0 b1 b2 k d ∧ rcG mo tol a0 a1 a2 c0 c1 c2 b0 b1 b2 k d ≤ 33554432
  | 0, d, h, h0, h1 => by unfold rcG; exact ⟨h, h0, by omega⟩
  | k + 1, d, h, h0, h1 => by
    have hp := Nat.pow_pos (n := k) (show 0 < 2 by decide)
    have e : (2 : Int) ^ (k + 1) = 2 * ((2 ^ k : Nat) : Int) := by rw [Int.pow_succ, Int.natCast_pow]; show _ * 2 = 2 * (2 : Int) ^ k; omega
    have e2 : (2 : Int) ^ k = ((2 ^ k : Nat) : Int) := by rw [Int.natCast_pow]; rfl
    unfold rcG
    split
    · rename_i hm
      exact rcG_perm mo tol a0 a1 a2 c0 c1 c2 b0 b1 b2 k _ (Or.inr hm) (by omega) (by rw [e2]; omega)
    · exact rcG_perm mo tol a0 a1 a2 c0 c1 c2 b0 b1 b2 k _ h h0 (by rw [e2]; omega)
/-- what is known of a reach that is not 0 -/
theorem rcI_facts {a0 a1 a2 c0 c1 c2 b0 b1 b2 tol : Int} (h : rcI a0 a1 a2 c0 c1 c2 b0 b1 b2 tol ≠ 0) :
    16 ≤ rcI a0 a1 a2 c0 c1 c2 b0 b1 b2 tol ∧ rcI a0 a1 a2 c0 c1 c2 b0 b1 b2 tol ≤ 33554432 ∧ rcI a0 a1 a2 c0 c1 c2 b0 b1 b2 tol ≤ moI a0 a1 a2 c0 c1 c2 b0 b1 b2 ∧ bnE a0 a1 a2 c0 c1 c2 b0 b1 b2 (rcI a0 a1 a2 c0 c1 c2 b0 b1 b2 tol) ≤ 16 * tol * tol := by
  have k := rcG_perm (moI a0 a1 a2 c0 c1 c2 b0 b1 b2) tol a0 a1 a2 c0 c1 c2 b0 b1 b2 25 0 (Or.inl rfl) (by decide) (by decide)
  unfold rcI at h ⊢
  split at h
  · exact absurd rfl h
  · rename_i hlt
    rw [if_neg hlt]
    generalize rcG (moI a0 a1 a2 c0 c1 c2 b0 b1 b2) tol a0 a1 a2 c0 c1 c2 b0 b1 b2 25 0 = d at *
    rcases k.1 with h0 | hp
    · exact absurd h0 h
    · unfold pmB at hp
      rw [Bool.and_eq_true, decide_eq_true_eq, decide_eq_true_eq] at hp
      exact ⟨by omega, k.2.2, hp.1, hp.2⟩
end Go.Proofs.Ytdjopepipcnmdaa