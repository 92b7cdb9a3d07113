/- Proved here: Square and Bend of the reference at wider arguments; the number of pieces of a blend, of the program and of the reference. -/
import Derived.Test.YtdjopepipcnmdaaBd5
namespace Go.Proofs.Ytdjopepipcnmdaa
open Go.RowKit
set_option linter.unusedVariables false
set_option linter.unusedSimpArgs false
set_option maxHeartbeats 4000000 in
set_option maxRecDepth 20000 in
theorem squareW_any (a0 a1 a2 b0 b1 b2 : Int) (w : World) (h0 : -268435456 ≤ a0 - b0 ∧ a0 - b0 ≤ 268435456) (h1 : -268435456 ≤ a1 - b1 ∧ a1 - b1 ≤ 268435456) (h2 : -268435456 ≤ a2 - b2 ∧ a2 - b2 ≤ 268435456) :
    Calls Try.prog 16 #[.agg #[.int .i64 a0, .int .i64 a1, .int .i64 a2], .agg #[.int .i64 b0, .int .i64 b1, .int .i64 b2]] w fun e w' => e = .returned (.int .i64 (sqD a0 a1 a2 b0 b1 b2)) ∧ Below w.heap.size w w' := by
  obtain ⟨m0, n0⟩ := sq_bdB h0.1 h0.2
  obtain ⟨m1, n1⟩ := sq_bdB h1.1 h1.2
  obtain ⟨m2, n2⟩ := sq_bdB h2.1 h2.2
  obtain ⟨l0, u0⟩ := h0
  obtain ⟨l1, u1⟩ := h1
  obtain ⟨l2, u2⟩ := h2
  have HS : Hid (sqD a0 a1 a2 b0 b1 b2 = (a0 - b0) * (a0 - b0) + (a1 - b1) * (a1 - b1) + (a2 - b2) * (a2 - b2)) := rfl
  have E0 := Lib.hid (wr_in (n := a0 - b0) (by omega) (by omega))
  have E1 := Lib.hid (wr_in (n := a1 - b1) (by omega) (by omega))
  have E2 := Lib.hid (wr_in (n := a2 - b2) (by omega) (by omega))
  have P0 := Lib.hid (wr_in (n := (a0 - b0) * (a0 - b0)) (by omega) (by omega))
  have P1 := Lib.hid (wr_in (n := (a1 - b1) * (a1 - b1)) (by omega) (by omega))
  have P2 := Lib.hid (wr_in (n := (a2 - b2) * (a2 - b2)) (by omega) (by omega))
  have T1 := Lib.hid (wr_in (n := (a0 - b0) * (a0 - b0) + (a1 - b1) * (a1 - b1)) (by omega) (by omega))
  have T2 := Lib.hid (wr_in (n := (a0 - b0) * (a0 - b0) + (a1 - b1) * (a1 - b1) + (a2 - b2) * (a2 - b2)) (by omega) (by omega))
  generalize sqD a0 a1 a2 b0 b1 b2 = D at *
  go_enter Try.func16, Try.ntmps16
  go_wp2_with fail
  go_loopw [5, 7] (fun s t wr => (((t = .int .i64 0 ∧ s = .int .i64 0) ∨ (t = .int .i64 1 ∧ s = .int .i64 ((a0 - b0) * (a0 - b0)))) ∨ ((t = .int .i64 2 ∧ s = .int .i64 ((a0 - b0) * (a0 - b0) + (a1 - b1) * (a1 - b1))) ∨ (t = .int .i64 3 ∧ s = .int .i64 ((a0 - b0) * (a0 - b0) + (a1 - b1) * (a1 - b1) + (a2 - b2) * (a2 - b2))))) ∧ Lay w.heap.size (w.heap.size + 2) [(⟨w.heap.size, 0, none⟩, .int .i64 a0), (⟨w.heap.size, 1, none⟩, .int .i64 a1), (⟨w.heap.size, 2, none⟩, .int .i64 a2), (⟨w.heap.size + 1, 0, none⟩, .int .i64 b0), (⟨w.heap.size + 1, 1, none⟩, .int .i64 b1), (⟨w.heap.size + 1, 2, none⟩, .int .i64 b2)] w wr) (fun _ t _ => 3 - (intOf t).toNat)
  case atStart => exact ⟨Or.inl (Or.inl ⟨rfl, rfl⟩), by (refine ⟨by simp [List.forall_mem_cons, go_sem], by simp [List.forall_mem_cons] <;> omega, by simp, by (repeat (first | exact Below.refl _ _ | assumption | refine Below.drew ?_ | (refine Below.alloc ?_ (by simp <;> omega) _) | (refine Below.setCell ?_ (by simp <;> omega) _))), by omega⟩)⟩
  case round =>
  obtain ⟨hd, hT⟩ := hrel
  rcases hd with (⟨rfl, rfl⟩ | ⟨rfl, rfl⟩) | (⟨rfl, rfl⟩ | ⟨rfl, rfl⟩)
  · go_upto_region 5 with fail
    (refine wp_region_class (Lay w.heap.size (w.heap.size + 2) _ w) (hT.next (Below.refl _ _).drew) (by kernel_rfl) (by kernel_rfl) ?_; repeat (refine wpQuiet_step (fun qK9 qH9 => ?_); go_simp; first | (refine qH9 _ ?_; clear qH9 qK9) | (apply Exists.intro; refine ⟨?_, qH9 _ ?_⟩; (first | (intros; rfl) | ((intro wx hC; ((have qk9 := (hC).cells; simp only [List.forall_mem_cons, List.not_mem_nil, false_implies, implies_true, and_true] at qk9; repeat (obtain ⟨qk8, qk9⟩ := qk9)); go_simp; first | done | rfl)))); clear qH9 qK9)))
    refine wpQuiet_nil ?_
    intro wy hT
    go_wp2_with fail
    go_roundw
    case rel => exact ⟨Or.inl (Or.inr ⟨rfl, by rw [E0.out, P0.out, P0.out]⟩), hT⟩
    case measure => simp [intOf]
  · go_upto_region 5 with fail
    (refine wp_region_class (Lay w.heap.size (w.heap.size + 2) _ w) (hT.next (Below.refl _ _).drew) (by kernel_rfl) (by kernel_rfl) ?_; repeat (refine wpQuiet_step (fun qK9 qH9 => ?_); go_simp; first | (refine qH9 _ ?_; clear qH9 qK9) | (apply Exists.intro; refine ⟨?_, qH9 _ ?_⟩; (first | (intros; rfl) | ((intro wx hC; ((have qk9 := (hC).cells; simp only [List.forall_mem_cons, List.not_mem_nil, false_implies, implies_true, and_true] at qk9; repeat (obtain ⟨qk8, qk9⟩ := qk9)); go_simp; first | done | rfl)))); clear qH9 qK9)))
    refine wpQuiet_nil ?_
    intro wy hT
    go_wp2_with fail
    go_roundw
    case rel => exact ⟨Or.inr (Or.inl ⟨rfl, by rw [E1.out, P1.out, T1.out]⟩), hT⟩
    case measure => simp [intOf]
  · go_upto_region 5 with fail
    (refine wp_region_class (Lay w.heap.size (w.heap.size + 2) _ w) (hT.next (Below.refl _ _).drew) (by kernel_rfl) (by kernel_rfl) ?_; repeat (refine wpQuiet_step (fun qK9 qH9 => ?_); go_simp; first | (refine qH9 _ ?_; clear qH9 qK9) | (apply Exists.intro; refine ⟨?_, qH9 _ ?_⟩; (first | (intros; rfl) | ((intro wx hC; ((have qk9 := (hC).cells; simp only [List.forall_mem_cons, List.not_mem_nil, false_implies, implies_true, and_true] at qk9; repeat (obtain ⟨qk8, qk9⟩ := qk9)); go_simp; first | done | rfl)))); clear qH9 qK9)))
    refine wpQuiet_nil ?_
    intro wy hT
    go_wp2_with fail
    go_roundw
    case rel => exact ⟨Or.inr (Or.inr ⟨rfl, by rw [E2.out, P2.out, T2.out]⟩), hT⟩
    case measure => simp [intOf]
  · go_wp2_with fail
    go_ret
    exact ⟨by rw [HS.out]; rfl, hT.be⟩
set_option maxHeartbeats 4000000 in
theorem bendRW_any (p0 p1 p2 c0 c1 c2 q0 q1 q2 : Int) (w : World) (hp0 : -67108864 ≤ p0 - c0 ∧ p0 - c0 ≤ 67108864) (hq0 : -67108864 ≤ q0 - c0 ∧ q0 - c0 ≤ 67108864) (hp1 : -67108864 ≤ p1 - c1 ∧ p1 - c1 ≤ 67108864) (hq1 : -67108864 ≤ q1 - c1 ∧ q1 - c1 ≤ 67108864) (hp2 : -67108864 ≤ p2 - c2 ∧ p2 - c2 ≤ 67108864) (hq2 : -67108864 ≤ q2 - c2 ∧ q2 - c2 ≤ 67108864) (hs0 : -134217728 ≤ p0 - c0 + (q0 - c0) ∧ p0 - c0 + (q0 - c0) ≤ 134217728) (hs1 : -134217728 ≤ p1 - c1 + (q1 - c1) ∧ p1 - c1 + (q1 - c1) ≤ 134217728) (hs2 : -134217728 ≤ p2 - c2 + (q2 - c2) ∧ p2 - c2 + (q2 - c2) ≤ 134217728) :
    Calls Try.prog 27 #[.agg #[.int .i64 p0, .int .i64 p1, .int .i64 p2], .agg #[.int .i64 c0, .int .i64 c1, .int .i64 c2], .agg #[.int .i64 q0, .int .i64 q1, .int .i64 q2]] w fun e w' => e = .returned (.int .i64 (bnD p0 p1 p2 c0 c1 c2 q0 q1 q2)) ∧ Below w.heap.size w w' := by
  have HD : Hid (sqD (p0 - c0 + (q0 - c0)) (p1 - c1 + (q1 - c1)) (p2 - c2 + (q2 - c2)) 0 0 0 = bnD p0 p1 p2 c0 c1 c2 q0 q1 q2) := by
    show sqD _ _ _ 0 0 0 = bnD p0 p1 p2 c0 c1 c2 q0 q1 q2
    unfold sqD bnD
    rw [show p0 - c0 + (q0 - c0) - 0 = p0 + q0 - 2 * c0 by omega, show p1 - c1 + (q1 - c1) - 0 = p1 + q1 - 2 * c1 by omega, show p2 - c2 + (q2 - c2) - 0 = p2 + q2 - 2 * c2 by omega]
  have M1 := fun w => Lib.hid (minusR_any p0 p1 p2 c0 c1 c2 w (by omega) (by omega) (by omega))
  have M2 := fun w => Lib.hid (minusR_any q0 q1 q2 c0 c1 c2 w (by omega) (by omega) (by omega))
  have AD := fun w => Lib.hid (addR_any (p0 - c0) (p1 - c1) (p2 - c2) (q0 - c0) (q1 - c1) (q2 - c2) w (by omega) (by omega) (by omega))
  have SQ : ∀ w, Hid (Calls Try.prog 16 #[.agg #[.int .i64 (p0 - c0 + (q0 - c0)), .int .i64 (p1 - c1 + (q1 - c1)), .int .i64 (p2 - c2 + (q2 - c2))], .agg #[.int .i64 0, .int .i64 0, .int .i64 0]] w fun e w' => e = .returned (.int .i64 (bnD p0 p1 p2 c0 c1 c2 q0 q1 q2)) ∧ Below w.heap.size w w') := by
    intro w
    have h := squareW_any (p0 - c0 + (q0 - c0)) (p1 - c1 + (q1 - c1)) (p2 - c2 + (q2 - c2)) 0 0 0 w (by omega) (by omega) (by omega)
    rw [HD.out] at h
    exact h
  clear HD hp0 hq0 hs0 hp1 hq1 hs1 hp2 hq2 hs2
  generalize bnD p0 p1 p2 c0 c1 c2 q0 q1 q2 = D at *
  have hT : Lf w.heap.size (w.heap.size + 1 + 1 + 1) [(⟨w.heap.size, 0, none⟩, .int .i64 p0), (⟨w.heap.size, 1, none⟩, .int .i64 p1), (⟨w.heap.size, 2, none⟩, .int .i64 p2), (⟨w.heap.size + 1, 0, none⟩, .int .i64 c0), (⟨w.heap.size + 1, 1, none⟩, .int .i64 c1), (⟨w.heap.size + 1, 2, none⟩, .int .i64 c2), (⟨w.heap.size + 1 + 1, 0, none⟩, .int .i64 q0), (⟨w.heap.size + 1 + 1, 1, none⟩, .int .i64 q1), (⟨w.heap.size + 1 + 1, 2, none⟩, .int .i64 q2)] w (((w.alloc (.cells #[.int .i64 p0, .int .i64 p1, .int .i64 p2] 23)).alloc (.cells #[.int .i64 c0, .int .i64 c1, .int .i64 c2] 23)).alloc (.cells #[.int .i64 q0, .int .i64 q1, .int .i64 q2] 23)) := ⟨by simp [List.forall_mem_cons, go_sem], by simp [List.forall_mem_cons, go_sem], by simp [List.forall_mem_cons] <;> omega, by simp, by (repeat (first | exact Below.refl _ _ | assumption | refine Below.drew ?_ | (refine Below.alloc ?_ (by simp <;> omega) _) | (refine Below.setCell ?_ (by simp <;> omega) _))), by omega⟩
  go_enter Try.func27, Try.ntmps27
  go_upto_region 1 with fail
  (refine wp_region_class (Lf w.heap.size (w.heap.size + 1 + 1 + 1) [(⟨w.heap.size, 0, none⟩, .int .i64 p0), (⟨w.heap.size, 1, none⟩, .int .i64 p1), (⟨w.heap.size, 2, none⟩, .int .i64 p2), (⟨w.heap.size + 1, 0, none⟩, .int .i64 c0), (⟨w.heap.size + 1, 1, none⟩, .int .i64 c1), (⟨w.heap.size + 1, 2, none⟩, .int .i64 c2), (⟨w.heap.size + 1 + 1, 0, none⟩, .int .i64 q0), (⟨w.heap.size + 1 + 1, 1, none⟩, .int .i64 q1), (⟨w.heap.size + 1 + 1, 2, none⟩, .int .i64 q2)] w) (hT.next (Below.refl _ _).drew) (by kernel_rfl) (by kernel_rfl) ?_; repeat (refine wpQuiet_step (fun qK9 qH9 => ?_); go_simp; first | (refine qH9 _ ?_; clear qH9 qK9) | (apply Exists.intro; refine ⟨?_, qH9 _ ?_⟩; (first | (intros; rfl) | (first | (intro wx hC; ((have qk9 := (hC).cells; simp only [List.forall_mem_cons, List.not_mem_nil, false_implies, implies_true, and_true] at qk9; repeat (obtain ⟨qk8, qk9⟩ := qk9)); go_simp; first | done | rfl)) | (intro wx hC; with_reducible exact Calls.lays (M1 wx).out (fun _ => hC.next)) | (intro wx hC; with_reducible exact Calls.lays (M2 wx).out (fun _ => hC.next)) | (intro wx hC; with_reducible exact Calls.lays (AD wx).out (fun _ => hC.next)) | (intro wx hC; with_reducible exact Calls.lays (SQ wx).out (fun _ => hC.next)))); clear qH9 qK9)))
  refine wpQuiet_nil ?_
  clear hT
  intro wy hT
  go_wp2_with fail
  go_ret
  exact ⟨rfl, hT.be⟩
def pcV (D : Int) : Int := if D ≤ 4096 then 2 else if D ≤ 65536 then 4 else if D ≤ 1048576 then 8 else if D ≤ 16777216 then 16 else if D ≤ 268435456 then 32 else 64
set_option maxHeartbeats 4000000 in
set_option maxRecDepth 20000 in
theorem piecesP_any (p0 p1 p2 c0 c1 c2 q0 q1 q2 : Int) (w : World) (hp0 : -67108864 ≤ p0 ∧ p0 ≤ 67108864) (hq0 : -67108864 ≤ q0 ∧ q0 ≤ 67108864) (hc0 : -33554432 ≤ c0 ∧ c0 ≤ 33554432) (gp0 : -67108864 ≤ p0 - c0 ∧ p0 - c0 ≤ 67108864) (gq0 : -67108864 ≤ q0 - c0 ∧ q0 - c0 ≤ 67108864) (hp1 : -67108864 ≤ p1 ∧ p1 ≤ 67108864) (hq1 : -67108864 ≤ q1 ∧ q1 ≤ 67108864) (hc1 : -33554432 ≤ c1 ∧ c1 ≤ 33554432) (gp1 : -67108864 ≤ p1 - c1 ∧ p1 - c1 ≤ 67108864) (gq1 : -67108864 ≤ q1 - c1 ∧ q1 - c1 ≤ 67108864) (hp2 : -67108864 ≤ p2 ∧ p2 ≤ 67108864) (hq2 : -67108864 ≤ q2 ∧ q2 ≤ 67108864) (hc2 : -33554432 ≤ c2 ∧ c2 ≤ 33554432) (gp2 : -67108864 ≤ p2 - c2 ∧ p2 - c2 ≤ 67108864) (gq2 : -67108864 ≤ q2 - c2 ∧ q2 - c2 ≤ 67108864) :
    Calls Try.prog 20 #[.agg #[.int .i64 p0, .int .i64 p1, .int .i64 p2], .agg #[.int .i64 c0, .int .i64 c1, .int .i64 c2], .agg #[.int .i64 q0, .int .i64 q1, .int .i64 q2]] w fun e w' => e = .returned (.int .i64 (pcV (bnD p0 p1 p2 c0 c1 c2 q0 q1 q2))) ∧ Below w.heap.size w w' := by
  have BN := fun w => Lib.hid (bendP_any p0 p1 p2 c0 c1 c2 q0 q1 q2 w (by omega) (by omega) (by omega) (by omega) (by omega) (by omega) (by omega) (by omega) (by omega))
  clear hp0 hq0 hc0 gp0 gq0 hp1 hq1 hc1 gp1 gq1 hp2 hq2 hc2 gp2 gq2
  generalize bnD p0 p1 p2 c0 c1 c2 q0 q1 q2 = D at *
  have HV : Hid (pcV D = if D ≤ 4096 then 2 else if D ≤ 65536 then 4 else if D ≤ 1048576 then 8 else if D ≤ 16777216 then 16 else if D ≤ 268435456 then 32 else 64) := rfl
  generalize pcV D = V at *
  have hT : Lf w.heap.size (w.heap.size + 1 + 1 + 1) [(⟨w.heap.size, 0, none⟩, .int .i64 p0), (⟨w.heap.size, 1, none⟩, .int .i64 p1), (⟨w.heap.size, 2, none⟩, .int .i64 p2), (⟨w.heap.size + 1, 0, none⟩, .int .i64 c0), (⟨w.heap.size + 1, 1, none⟩, .int .i64 c1), (⟨w.heap.size + 1, 2, none⟩, .int .i64 c2), (⟨w.heap.size + 1 + 1, 0, none⟩, .int .i64 q0), (⟨w.heap.size + 1 + 1, 1, none⟩, .int .i64 q1), (⟨w.heap.size + 1 + 1, 2, none⟩, .int .i64 q2)] w (((w.alloc (.cells #[.int .i64 p0, .int .i64 p1, .int .i64 p2] 23)).alloc (.cells #[.int .i64 c0, .int .i64 c1, .int .i64 c2] 23)).alloc (.cells #[.int .i64 q0, .int .i64 q1, .int .i64 q2] 23)) := ⟨by simp [List.forall_mem_cons, go_sem], by simp [List.forall_mem_cons, go_sem], by simp [List.forall_mem_cons] <;> omega, by simp, by (repeat (first | exact Below.refl _ _ | assumption | refine Below.drew ?_ | (refine Below.alloc ?_ (by simp <;> omega) _) | (refine Below.setCell ?_ (by simp <;> omega) _))), by omega⟩
  go_enter Try.func20, Try.ntmps20
  go_wp2_with fail
  go_loopw [7] (fun s wr => ((s = .int .i64 2) ∨ (s = .int .i64 4 ∧ 4096 < D) ∨ (s = .int .i64 8 ∧ 65536 < D) ∨ (s = .int .i64 16 ∧ 1048576 < D) ∨ (s = .int .i64 32 ∧ 16777216 < D) ∨ (s = .int .i64 64 ∧ 268435456 < D)) ∧ Lf w.heap.size (w.heap.size + 1 + 1 + 1) [(⟨w.heap.size, 0, none⟩, .int .i64 p0), (⟨w.heap.size, 1, none⟩, .int .i64 p1), (⟨w.heap.size, 2, none⟩, .int .i64 p2), (⟨w.heap.size + 1, 0, none⟩, .int .i64 c0), (⟨w.heap.size + 1, 1, none⟩, .int .i64 c1), (⟨w.heap.size + 1, 2, none⟩, .int .i64 c2), (⟨w.heap.size + 1 + 1, 0, none⟩, .int .i64 q0), (⟨w.heap.size + 1 + 1, 1, none⟩, .int .i64 q1), (⟨w.heap.size + 1 + 1, 2, none⟩, .int .i64 q2)] w wr) (fun s _ => 64 - (intOf s).toNat)
  case atStart => exact ⟨Or.inl rfl, hT⟩
  case round =>
  clear hT
  obtain ⟨hd, hT⟩ := hrel
  rcases hd with rfl | ⟨rfl, hk⟩ | ⟨rfl, hk⟩ | ⟨rfl, hk⟩ | ⟨rfl, hk⟩ | ⟨rfl, hk⟩
  · by_cases hm : D ≤ 4096
    · have HF : Hid (V = 2) := by show V = 2; rw [HV.out]; (repeat' split) <;> omega
      have hm2 : ¬ 4096 < D := by omega
      clear HV
      have kc := hT.cells
      have kf := hT.frz
      simp only [List.forall_mem_cons, List.not_mem_nil, false_implies, implies_true, and_true] at kc kf
      obtain ⟨yc0, yc1, yc2, yc3, yc4, yc5, yc6, yc7, yc8⟩ := kc
      obtain ⟨yf0, yf1, yf2, yf3, yf4, yf5, yf6, yf7, yf8⟩ := kf
      go_wp2_with fail
      refine (BN _).out.mono ?_
      rintro e w1 ⟨rfl, hb1⟩
      have hT := hT.next hb1
      go_wp2_with fail
      go_ret
      exact ⟨by rw [HF.out]; rfl, hT.be⟩
    · have hm2 : 4096 < D := by omega
      have HK := Lib.hid hm2
      have kc := hT.cells
      have kf := hT.frz
      simp only [List.forall_mem_cons, List.not_mem_nil, false_implies, implies_true, and_true] at kc kf
      obtain ⟨yc0, yc1, yc2, yc3, yc4, yc5, yc6, yc7, yc8⟩ := kc
      obtain ⟨yf0, yf1, yf2, yf3, yf4, yf5, yf6, yf7, yf8⟩ := kf
      go_wp2_with fail
      refine (BN _).out.mono ?_
      rintro e w1 ⟨rfl, hb1⟩
      have hT := hT.next hb1
      go_wp2_with fail
      go_roundw
      case rel => exact ⟨Or.inr (Or.inl ⟨rfl, HK.out⟩), hT⟩
      case measure => simp [intOf]
  · by_cases hm : D ≤ 65536
    · have HF : Hid (V = 4) := by show V = 4; rw [HV.out]; (repeat' split) <;> omega
      have hm2 : ¬ 65536 < D := by omega
      clear HV hk
      have kc := hT.cells
      have kf := hT.frz
      simp only [List.forall_mem_cons, List.not_mem_nil, false_implies, implies_true, and_true] at kc kf
      obtain ⟨yc0, yc1, yc2, yc3, yc4, yc5, yc6, yc7, yc8⟩ := kc
      obtain ⟨yf0, yf1, yf2, yf3, yf4, yf5, yf6, yf7, yf8⟩ := kf
      go_wp2_with fail
      refine (BN _).out.mono ?_
      rintro e w1 ⟨rfl, hb1⟩
      have hT := hT.next hb1
      go_wp2_with fail
      go_ret
      exact ⟨by rw [HF.out]; rfl, hT.be⟩
    · have hm2 : 65536 < D := by omega
      have HK := Lib.hid hm2
      have kc := hT.cells
      have kf := hT.frz
      simp only [List.forall_mem_cons, List.not_mem_nil, false_implies, implies_true, and_true] at kc kf
      obtain ⟨yc0, yc1, yc2, yc3, yc4, yc5, yc6, yc7, yc8⟩ := kc
      obtain ⟨yf0, yf1, yf2, yf3, yf4, yf5, yf6, yf7, yf8⟩ := kf
      go_wp2_with fail
      refine (BN _).out.mono ?_
      rintro e w1 ⟨rfl, hb1⟩
      have hT := hT.next hb1
      go_wp2_with fail
      go_roundw
      case rel => exact ⟨Or.inr (Or.inr (Or.inl ⟨rfl, HK.out⟩)), hT⟩
      case measure => simp [intOf]
  · by_cases hm : D ≤ 1048576
    · have HF : Hid (V = 8) := by show V = 8; rw [HV.out]; (repeat' split) <;> omega
      have hm2 : ¬ 1048576 < D := by omega
      clear HV hk
      have kc := hT.cells
      have kf := hT.frz
      simp only [List.forall_mem_cons, List.not_mem_nil, false_implies, implies_true, and_true] at kc kf
      obtain ⟨yc0, yc1, yc2, yc3, yc4, yc5, yc6, yc7, yc8⟩ := kc
      obtain ⟨yf0, yf1, yf2, yf3, yf4, yf5, yf6, yf7, yf8⟩ := kf
      go_wp2_with fail
      refine (BN _).out.mono ?_
      rintro e w1 ⟨rfl, hb1⟩
      have hT := hT.next hb1
      go_wp2_with fail
      go_ret
      exact ⟨by rw [HF.out]; rfl, hT.be⟩
    · have hm2 : 1048576 < D := by omega
      have HK := Lib.hid hm2
      have kc := hT.cells
      have kf := hT.frz
      simp only [List.forall_mem_cons, List.not_mem_nil, false_implies, implies_true, and_true] at kc kf
      obtain ⟨yc0, yc1, yc2, yc3, yc4, yc5, yc6, yc7, yc8⟩ := kc
      obtain ⟨yf0, yf1, yf2, yf3, yf4, yf5, yf6, yf7, yf8⟩ := kf
      go_wp2_with fail
      refine (BN _).out.mono ?_
      rintro e w1 ⟨rfl, hb1⟩
      have hT := hT.next hb1
      go_wp2_with fail
      go_roundw
      case rel => exact ⟨Or.inr (Or.inr (Or.inr (Or.inl ⟨rfl, HK.out⟩))), hT⟩
      case measure => simp [intOf]
  · by_cases hm : D ≤ 16777216
    · have HF : Hid (V = 16) := by show V = 16; rw [HV.out]; (repeat' split) <;> omega
      have hm2 : ¬ 16777216 < D := by omega
      clear HV hk
      have kc := hT.cells
      have kf := hT.frz
      simp only [List.forall_mem_cons, List.not_mem_nil, false_implies, implies_true, and_true] at kc kf
      obtain ⟨yc0, yc1, yc2, yc3, yc4, yc5, yc6, yc7, yc8⟩ := kc
      obtain ⟨yf0, yf1, yf2, yf3, yf4, yf5, yf6, yf7, yf8⟩ := kf
      go_wp2_with fail
      refine (BN _).out.mono ?_
      rintro e w1 ⟨rfl, hb1⟩
      have hT := hT.next hb1
      go_wp2_with fail
      go_ret
      exact ⟨by rw [HF.out]; rfl, hT.be⟩
    · have hm2 : 16777216 < D := by omega
      have HK := Lib.hid hm2
      have kc := hT.cells
      have kf := hT.frz
      simp only [List.forall_mem_cons, List.not_mem_nil, false_implies, implies_true, and_true] at kc kf
      obtain ⟨yc0, yc1, yc2, yc3, yc4, yc5, yc6, yc7, yc8⟩ := kc
      obtain ⟨yf0, yf1, yf2, yf3, yf4, yf5, yf6, yf7, yf8⟩ := kf
      go_wp2_with fail
      refine (BN _).out.mono ?_
      rintro e w1 ⟨rfl, hb1⟩
      have hT := hT.next hb1
      go_wp2_with fail
      go_roundw
      case rel => exact ⟨Or.inr (Or.inr (Or.inr (Or.inr (Or.inl ⟨rfl, HK.out⟩)))), hT⟩
      case measure => simp [intOf]
  · by_cases hm : D ≤ 268435456
    · have HF : Hid (V = 32) := by show V = 32; rw [HV.out]; (repeat' split) <;> omega
      have hm2 : ¬ 268435456 < D := by omega
      clear HV hk
      have kc := hT.cells
      have kf := hT.frz
      simp only [List.forall_mem_cons, List.not_mem_nil, false_implies, implies_true, and_true] at kc kf
      obtain ⟨yc0, yc1, yc2, yc3, yc4, yc5, yc6, yc7, yc8⟩ := kc
      obtain ⟨yf0, yf1, yf2, yf3, yf4, yf5, yf6, yf7, yf8⟩ := kf
      go_wp2_with fail
      refine (BN _).out.mono ?_
      rintro e w1 ⟨rfl, hb1⟩
      have hT := hT.next hb1
      go_wp2_with fail
      go_ret
      exact ⟨by rw [HF.out]; rfl, hT.be⟩
    · have hm2 : 268435456 < D := by omega
      have HK := Lib.hid hm2
      have kc := hT.cells
      have kf := hT.frz
      simp only [List.forall_mem_cons, List.not_mem_nil, false_implies, implies_true, and_true] at kc kf
      obtain ⟨yc0, yc1, yc2, yc3, yc4, yc5, yc6, yc7, yc8⟩ := kc
      obtain ⟨yf0, yf1, yf2, yf3, yf4, yf5, yf6, yf7, yf8⟩ := kf
      go_wp2_with fail
      refine (BN _).out.mono ?_
      rintro e w1 ⟨rfl, hb1⟩
      have hT := hT.next hb1
      go_wp2_with fail
      go_roundw
      case rel => exact ⟨Or.inr (Or.inr (Or.inr (Or.inr (Or.inr (⟨rfl, HK.out⟩))))), hT⟩
      case measure => simp [intOf]
  · have HF : Hid (V = 64) := by show V = 64; rw [HV.out]; (repeat' split) <;> omega
    clear HV hk
    go_wp2_with fail
    go_ret
    exact ⟨by rw [HF.out]; rfl, hT.be⟩
set_option maxHeartbeats 4000000 in
set_option maxRecDepth 20000 in
theorem piecesR_any (p0 p1 p2 c0 c1 c2 q0 q1 q2 : Int) (w : World) (hp0 : -67108864 ≤ p0 ∧ p0 ≤ 67108864) (hq0 : -67108864 ≤ q0 ∧ q0 ≤ 67108864) (hc0 : -33554432 ≤ c0 ∧ c0 ≤ 33554432) (gp0 : -67108864 ≤ p0 - c0 ∧ p0 - c0 ≤ 67108864) (gq0 : -67108864 ≤ q0 - c0 ∧ q0 - c0 ≤ 67108864) (hp1 : -67108864 ≤ p1 ∧ p1 ≤ 67108864) (hq1 : -67108864 ≤ q1 ∧ q1 ≤ 67108864) (hc1 : -33554432 ≤ c1 ∧ c1 ≤ 33554432) (gp1 : -67108864 ≤ p1 - c1 ∧ p1 - c1 ≤ 67108864) (gq1 : -67108864 ≤ q1 - c1 ∧ q1 - c1 ≤ 67108864) (hp2 : -67108864 ≤ p2 ∧ p2 ≤ 67108864) (hq2 : -67108864 ≤ q2 ∧ q2 ≤ 67108864) (hc2 : -33554432 ≤ c2 ∧ c2 ≤ 33554432) (gp2 : -67108864 ≤ p2 - c2 ∧ p2 - c2 ≤ 67108864) (gq2 : -67108864 ≤ q2 - c2 ∧ q2 - c2 ≤ 67108864) :
    Calls Try.prog 21 #[.agg #[.int .i64 p0, .int .i64 p1, .int .i64 p2], .agg #[.int .i64 c0, .int .i64 c1, .int .i64 c2], .agg #[.int .i64 q0, .int .i64 q1, .int .i64 q2]] w fun e w' => e = .returned (.int .i64 (pcV (bnD p0 p1 p2 c0 c1 c2 q0 q1 q2))) ∧ Below w.heap.size w w' := by
  have BN := fun w => Lib.hid (bendRW_any p0 p1 p2 c0 c1 c2 q0 q1 q2 w (by omega) (by omega) (by omega) (by omega) (by omega) (by omega) (by omega) (by omega) (by omega))
  clear hp0 hq0 hc0 gp0 gq0 hp1 hq1 hc1 gp1 gq1 hp2 hq2 hc2 gp2 gq2
  generalize bnD p0 p1 p2 c0 c1 c2 q0 q1 q2 = D at *
  have HV : Hid (pcV D = if D ≤ 4096 then 2 else if D ≤ 65536 then 4 else if D ≤ 1048576 then 8 else if D ≤ 16777216 then 16 else if D ≤ 268435456 then 32 else 64) := rfl
  generalize pcV D = V at *
  have hT : Lf w.heap.size (w.heap.size + 1 + 1 + 1) [(⟨w.heap.size, 0, none⟩, .int .i64 p0), (⟨w.heap.size, 1, none⟩, .int .i64 p1), (⟨w.heap.size, 2, none⟩, .int .i64 p2), (⟨w.heap.size + 1, 0, none⟩, .int .i64 c0), (⟨w.heap.size + 1, 1, none⟩, .int .i64 c1), (⟨w.heap.size + 1, 2, none⟩, .int .i64 c2), (⟨w.heap.size + 1 + 1, 0, none⟩, .int .i64 q0), (⟨w.heap.size + 1 + 1, 1, none⟩, .int .i64 q1), (⟨w.heap.size + 1 + 1, 2, none⟩, .int .i64 q2)] w (((w.alloc (.cells #[.int .i64 p0, .int .i64 p1, .int .i64 p2] 23)).alloc (.cells #[.int .i64 c0, .int .i64 c1, .int .i64 c2] 23)).alloc (.cells #[.int .i64 q0, .int .i64 q1, .int .i64 q2] 23)) := ⟨by simp [List.forall_mem_cons, go_sem], by simp [List.forall_mem_cons, go_sem], by simp [List.forall_mem_cons] <;> omega, by simp, by (repeat (first | exact Below.refl _ _ | assumption | refine Below.drew ?_ | (refine Below.alloc ?_ (by simp <;> omega) _) | (refine Below.setCell ?_ (by simp <;> omega) _))), by omega⟩
  go_enter Try.func21, Try.ntmps21
  go_wp2_with fail
  go_loopw [7] (fun s wr => ((s = .int .i64 2) ∨ (s = .int .i64 4 ∧ 4096 < D) ∨ (s = .int .i64 8 ∧ 65536 < D) ∨ (s = .int .i64 16 ∧ 1048576 < D) ∨ (s = .int .i64 32 ∧ 16777216 < D) ∨ (s = .int .i64 64 ∧ 268435456 < D)) ∧ Lf w.heap.size (w.heap.size + 1 + 1 + 1) [(⟨w.heap.size, 0, none⟩, .int .i64 p0), (⟨w.heap.size, 1, none⟩, .int .i64 p1), (⟨w.heap.size, 2, none⟩, .int .i64 p2), (⟨w.heap.size + 1, 0, none⟩, .int .i64 c0), (⟨w.heap.size + 1, 1, none⟩, .int .i64 c1), (⟨w.heap.size + 1, 2, none⟩, .int .i64 c2), (⟨w.heap.size + 1 + 1, 0, none⟩, .int .i64 q0), (⟨w.heap.size + 1 + 1, 1, none⟩, .int .i64 q1), (⟨w.heap.size + 1 + 1, 2, none⟩, .int .i64 q2)] w wr) (fun s _ => 64 - (intOf s).toNat)
  case atStart => exact ⟨Or.inl rfl, hT⟩
  case round =>
  clear hT
  obtain ⟨hd, hT⟩ := hrel
  rcases hd with rfl | ⟨rfl, hk⟩ | ⟨rfl, hk⟩ | ⟨rfl, hk⟩ | ⟨rfl, hk⟩ | ⟨rfl, hk⟩
  · by_cases hm : D ≤ 4096
    · have HF : Hid (V = 2) := by show V = 2; rw [HV.out]; (repeat' split) <;> omega
      have hm2 : ¬ 4096 < D := by omega
      clear HV
      have kc := hT.cells
      have kf := hT.frz
      simp only [List.forall_mem_cons, List.not_mem_nil, false_implies, implies_true, and_true] at kc kf
      obtain ⟨yc0, yc1, yc2, yc3, yc4, yc5, yc6, yc7, yc8⟩ := kc
      obtain ⟨yf0, yf1, yf2, yf3, yf4, yf5, yf6, yf7, yf8⟩ := kf
      go_wp2_with fail
      refine (BN _).out.mono ?_
      rintro e w1 ⟨rfl, hb1⟩
      have hT := hT.next hb1
      go_wp2_with fail
      go_ret
      exact ⟨by rw [HF.out]; rfl, hT.be⟩
    · have hm2 : 4096 < D := by omega
      have HK := Lib.hid hm2
      have kc := hT.cells
      have kf := hT.frz
      simp only [List.forall_mem_cons, List.not_mem_nil, false_implies, implies_true, and_true] at kc kf
      obtain ⟨yc0, yc1, yc2, yc3, yc4, yc5, yc6, yc7, yc8⟩ := kc
      obtain ⟨yf0, yf1, yf2, yf3, yf4, yf5, yf6, yf7, yf8⟩ := kf
      go_wp2_with fail
      refine (BN _).out.mono ?_
      rintro e w1 ⟨rfl, hb1⟩
      have hT := hT.next hb1
      go_wp2_with fail
      go_roundw
      case rel => exact ⟨Or.inr (Or.inl ⟨rfl, HK.out⟩), hT⟩
      case measure => simp [intOf]
  · by_cases hm : D ≤ 65536
    · have HF : Hid (V = 4) := by show V = 4; rw [HV.out]; (repeat' split) <;> omega
      have hm2 : ¬ 65536 < D := by omega
      clear HV hk
      have kc := hT.cells
      have kf := hT.frz
      simp only [List.forall_mem_cons, List.not_mem_nil, false_implies, implies_true, and_true] at kc kf
      obtain ⟨yc0, yc1, yc2, yc3, yc4, yc5, yc6, yc7, yc8⟩ := kc
      obtain ⟨yf0, yf1, yf2, yf3, yf4, yf5, yf6, yf7, yf8⟩ := kf
      go_wp2_with fail
      refine (BN _).out.mono ?_
      rintro e w1 ⟨rfl, hb1⟩
      have hT := hT.next hb1
      go_wp2_with fail
      go_ret
      exact ⟨by rw [HF.out]; rfl, hT.be⟩
    · have hm2 : 65536 < D := by omega
      have HK := Lib.hid hm2
      have kc := hT.cells
      have kf := hT.frz
      simp only [List.forall_mem_cons, List.not_mem_nil, false_implies, implies_true, and_true] at kc kf
      obtain ⟨yc0, yc1, yc2, yc3, yc4, yc5, yc6, yc7, yc8⟩ := kc
      obtain ⟨yf0, yf1, yf2, yf3, yf4, yf5, yf6, yf7, yf8⟩ := kf
      go_wp2_with fail
      refine (BN _).out.mono ?_
      rintro e w1 ⟨rfl, hb1⟩
      have hT := hT.next hb1
      go_wp2_with fail
      go_roundw
      case rel => exact ⟨Or.inr (Or.inr (Or.inl ⟨rfl, HK.out⟩)), hT⟩
      case measure => simp [intOf]
  · by_cases hm : D ≤ 1048576
    · have HF : Hid (V = 8) := by show V = 8; rw [HV.out]; (repeat' split) <;> omega
      have hm2 : ¬ 1048576 < D := by omega
      clear HV hk
      have kc := hT.cells
      have kf := hT.frz
      simp only [List.forall_mem_cons, List.not_mem_nil, false_implies, implies_true, and_true] at kc kf
      obtain ⟨yc0, yc1, yc2, yc3, yc4, yc5, yc6, yc7, yc8⟩ := kc
      obtain ⟨yf0, yf1, yf2, yf3, yf4, yf5, yf6, yf7, yf8⟩ := kf
      go_wp2_with fail
      refine (BN _).out.mono ?_
      rintro e w1 ⟨rfl, hb1⟩
      have hT := hT.next hb1
      go_wp2_with fail
      go_ret
      exact ⟨by rw [HF.out]; rfl, hT.be⟩
    · have hm2 : 1048576 < D := by omega
      have HK := Lib.hid hm2
      have kc := hT.cells
      have kf := hT.frz
      simp only [List.forall_mem_cons, List.not_mem_nil, false_implies, implies_true, and_true] at kc kf
      obtain ⟨yc0, yc1, yc2, yc3, yc4, yc5, yc6, yc7, yc8⟩ := kc
      obtain ⟨yf0, yf1, yf2, yf3, yf4, yf5, yf6, yf7, yf8⟩ := kf
      go_wp2_with fail
      refine (BN _).out.mono ?_
      rintro e w1 ⟨rfl, hb1⟩
      have hT := hT.next hb1
      go_wp2_with fail
      go_roundw
      case rel => exact ⟨Or.inr (Or.inr (Or.inr (Or.inl ⟨rfl, HK.out⟩))), hT⟩
      case measure => simp [intOf]
  · by_cases hm : D ≤ 16777216
    · have HF : Hid (V = 16) := by show V = 16; rw [HV.out]; (repeat' split) <;> omega
      have hm2 : ¬ 16777216 < D := by omega
      clear HV hk
      have kc := hT.cells
      have kf := hT.frz
      simp only [List.forall_mem_cons, List.not_mem_nil, false_implies, implies_true, and_true] at kc kf
      obtain ⟨yc0, yc1, yc2, yc3, yc4, yc5, yc6, yc7, yc8⟩ := kc
      obtain ⟨yf0, yf1, yf2, yf3, yf4, yf5, yf6, yf7, yf8⟩ := kf
      go_wp2_with fail
      refine (BN _).out.mono ?_
      rintro e w1 ⟨rfl, hb1⟩
      have hT := hT.next hb1
      go_wp2_with fail
      go_ret
      exact ⟨by rw [HF.out]; rfl, hT.be⟩
    · have hm2 : 16777216 < D := by omega
      have HK := Lib.hid hm2
      have kc := hT.cells
      have kf := hT.frz
      simp only [List.forall_mem_cons, List.not_mem_nil, false_implies, implies_true, and_true] at kc kf
      obtain ⟨yc0, yc1, yc2, yc3, yc4, yc5, yc6, yc7, yc8⟩ := kc
      obtain ⟨yf0, yf1, yf2, yf3, yf4, yf5, yf6, yf7, yf8⟩ := kf
      go_wp2_with fail
      refine (BN _).out.mono ?_
      rintro e w1 ⟨rfl, hb1⟩
      have hT := hT.next hb1
      go_wp2_with fail
      go_roundw
      case rel => exact ⟨Or.inr (Or.inr (Or.inr (Or.inr (Or.inl ⟨rfl, HK.out⟩)))), hT⟩
      case measure => simp [intOf]
  · by_cases hm : D ≤ 268435456
    · have HF : Hid (V = 32) := by show V = 32; rw [HV.out]; (repeat' split) <;> omega
      have hm2 : ¬ 268435456 < D := by omega
      clear HV hk
      have kc := hT.cells
      have kf := hT.frz
      simp only [List.forall_mem_cons, List.not_mem_nil, false_implies, implies_true, and_true] at kc kf
      obtain ⟨yc0, yc1, yc2, yc3, yc4, yc5, yc6, yc7, yc8⟩ := kc
      obtain ⟨yf0, yf1, yf2, yf3, yf4, yf5, yf6, yf7, yf8⟩ := kf
      go_wp2_with fail
      refine (BN _).out.mono ?_
      rintro e w1 ⟨rfl, hb1⟩
      have hT := hT.next hb1
      go_wp2_with fail
      go_ret
      exact ⟨by rw [HF.out]; rfl, hT.be⟩
    · have hm2 : 268435456 < D := by omega
      have HK := Lib.hid hm2
      have kc := hT.cells
      have kf := hT.frz
      simp only [List.forall_mem_cons, List.not_mem_nil, false_implies, implies_true, and_true] at kc kf
      obtain ⟨yc0, yc1, yc2, yc3, yc4, yc5, yc6, yc7, yc8⟩ := kc
      obtain ⟨yf0, yf1, yf2, yf3, yf4, yf5, yf6, yf7, yf8⟩ := kf
      go_wp2_with fail
      refine (BN _).out.mono ?_
      rintro e w1 ⟨rfl, hb1⟩
      have hT := hT.next hb1
      go_wp2_with fail
      go_roundw
      case rel => exact ⟨Or.inr (Or.inr (Or.inr (Or.inr (Or.inr (⟨rfl, HK.out⟩))))), hT⟩
      case measure => simp [intOf]
  · have HF : Hid (V = 64) := by show V = 64; rw [HV.out]; (repeat' split) <;> omega
    clear HV hk
    go_wp2_with fail
    go_ret
    exact ⟨by rw [HF.out]; rfl, hT.be⟩
end Go.Proofs.Ytdjopepipcnmdaa
