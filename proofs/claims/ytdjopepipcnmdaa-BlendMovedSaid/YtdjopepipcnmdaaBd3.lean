/- Proved here: the program's bend and Reach; the sanity check of the laws of chapter 24; ranges as stated. -/
import Derived.Test.YtdjopepipcnmdaaBc2
namespace Go.Proofs.Ytdjopepipcnmdaa
open Go.RowKit
set_option linter.unusedVariables false
set_option linter.unusedSimpArgs false
def bnD (p0 p1 p2 c0 c1 c2 q0 q1 q2 : Int) : Int := (p0 + q0 - 2 * c0) * (p0 + q0 - 2 * c0) + (p1 + q1 - 2 * c1) * (p1 + q1 - 2 * c1) + (p2 + q2 - 2 * c2) * (p2 + q2 - 2 * c2)
theorem sq_bdB {x : Int} (h1 : -268435456 ≤ x) (h2 : x ≤ 268435456) : 0 ≤ x * x ∧ x * x ≤ 72057594037927936 := by
  have e : (x * x).natAbs ≤ 268435456 * 268435456 := by rw [Int.natAbs_mul]; exact Nat.mul_le_mul (by omega) (by omega)
  have h := sq_nn x
  omega
set_option maxHeartbeats 4000000 in
set_option maxRecDepth 20000 in
theorem bendP_any (p0 p1 p2 c0 c1 c2 q0 q1 q2 : Int) (w : World) (hp0 : -100000000 ≤ p0 ∧ p0 ≤ 100000000) (hq0 : -100000000 ≤ q0 ∧ q0 ≤ 100000000) (hc0 : -33554432 ≤ c0 ∧ c0 ≤ 33554432) (hp1 : -100000000 ≤ p1 ∧ p1 ≤ 100000000) (hq1 : -100000000 ≤ q1 ∧ q1 ≤ 100000000) (hc1 : -33554432 ≤ c1 ∧ c1 ≤ 33554432) (hp2 : -100000000 ≤ p2 ∧ p2 ≤ 100000000) (hq2 : -100000000 ≤ q2 ∧ q2 ≤ 100000000) (hc2 : -33554432 ≤ c2 ∧ c2 ≤ 33554432) :
    Calls Try.prog 33 #[.agg #[.int .i64 p0, .int .i64 p1, .int .i64 p2], .agg #[.int .i64 c0, .int .i64 c1, .int .i64 c2], .agg #[.int .i64 q0, .int .i64 q1, .int .i64 q2]] w fun e w' => e = .returned (.int .i64 (bnD p0 p1 p2 c0 c1 c2 q0 q1 q2)) ∧ Below w.heap.size w w' := by
  have HS : Hid (bnD p0 p1 p2 c0 c1 c2 q0 q1 q2 = (p0 + q0 - 2 * c0) * (p0 + q0 - 2 * c0) + (p1 + q1 - 2 * c1) * (p1 + q1 - 2 * c1) + (p2 + q2 - 2 * c2) * (p2 + q2 - 2 * c2)) := rfl
  obtain ⟨m0, t0⟩ := sq_bdB (x := (p0 + q0 - 2 * c0)) (by omega) (by omega)
  have A0 := Lib.hid (wr_in (n := p0 + q0) (by omega) (by omega))
  have D0 := Lib.hid (wr_in (n := 2 * c0) (by omega) (by omega))
  have E0 := Lib.hid (wr_in (n := (p0 + q0 - 2 * c0)) (by omega) (by omega))
  obtain ⟨m1, t1⟩ := sq_bdB (x := (p1 + q1 - 2 * c1)) (by omega) (by omega)
  have A1 := Lib.hid (wr_in (n := p1 + q1) (by omega) (by omega))
  have D1 := Lib.hid (wr_in (n := 2 * c1) (by omega) (by omega))
  have E1 := Lib.hid (wr_in (n := (p1 + q1 - 2 * c1)) (by omega) (by omega))
  obtain ⟨m2, t2⟩ := sq_bdB (x := (p2 + q2 - 2 * c2)) (by omega) (by omega)
  have A2 := Lib.hid (wr_in (n := p2 + q2) (by omega) (by omega))
  have D2 := Lib.hid (wr_in (n := 2 * c2) (by omega) (by omega))
  have E2 := Lib.hid (wr_in (n := (p2 + q2 - 2 * c2)) (by omega) (by omega))
  clear hp0 hp1 hp2 hq0 hq1 hq2 hc0 hc1 hc2
  generalize bnD p0 p1 p2 c0 c1 c2 q0 q1 q2 = D at *
  have hT : Lf w.heap.size (w.heap.size + 1 + 1 + 1) [(⟨w.heap.size, 0, none⟩, .int .i64 p0), (⟨w.heap.size, 1, none⟩, .int .i64 p1), (⟨w.heap.size, 2, none⟩, .int .i64 p2), (⟨w.heap.size + 1, 0, none⟩, .int .i64 c0), (⟨w.heap.size + 1, 1, none⟩, .int .i64 c1), (⟨w.heap.size + 1, 2, none⟩, .int .i64 c2), (⟨w.heap.size + 1 + 1, 0, none⟩, .int .i64 q0), (⟨w.heap.size + 1 + 1, 1, none⟩, .int .i64 q1), (⟨w.heap.size + 1 + 1, 2, none⟩, .int .i64 q2)] w (((w.alloc (.cells #[.int .i64 p0, .int .i64 p1, .int .i64 p2] 23)).alloc (.cells #[.int .i64 c0, .int .i64 c1, .int .i64 c2] 23)).alloc (.cells #[.int .i64 q0, .int .i64 q1, .int .i64 q2] 23)) := ⟨by simp [List.forall_mem_cons, go_sem], by simp [List.forall_mem_cons, go_sem], by simp [List.forall_mem_cons] <;> omega, by simp, by (repeat (first | exact Below.refl _ _ | assumption | refine Below.drew ?_ | (refine Below.alloc ?_ (by simp <;> omega) _) | (refine Below.setCell ?_ (by simp <;> omega) _))), by omega⟩
  go_enter Try.func33, Try.ntmps33
  go_wp2_with fail
  go_loopw [7, 10] (fun s t wr => (((t = .int .i64 0 ∧ s = .int .i64 0) ∨ (t = .int .i64 1 ∧ s = .int .i64 ((p0 + q0 - 2 * c0) * (p0 + q0 - 2 * c0)))) ∨ ((t = .int .i64 2 ∧ s = .int .i64 ((p0 + q0 - 2 * c0) * (p0 + q0 - 2 * c0) + (p1 + q1 - 2 * c1) * (p1 + q1 - 2 * c1))) ∨ (t = .int .i64 3 ∧ s = .int .i64 D))) ∧ Lf w.heap.size (w.heap.size + 1 + 1 + 1) [(⟨w.heap.size, 0, none⟩, .int .i64 p0), (⟨w.heap.size, 1, none⟩, .int .i64 p1), (⟨w.heap.size, 2, none⟩, .int .i64 p2), (⟨w.heap.size + 1, 0, none⟩, .int .i64 c0), (⟨w.heap.size + 1, 1, none⟩, .int .i64 c1), (⟨w.heap.size + 1, 2, none⟩, .int .i64 c2), (⟨w.heap.size + 1 + 1, 0, none⟩, .int .i64 q0), (⟨w.heap.size + 1 + 1, 1, none⟩, .int .i64 q1), (⟨w.heap.size + 1 + 1, 2, none⟩, .int .i64 q2)] w wr) (fun _ t _ => 3 - (intOf t).toNat)
  case atStart => exact ⟨Or.inl (Or.inl ⟨rfl, rfl⟩), hT⟩
  case round =>
  clear hT
  obtain ⟨hd, hT⟩ := hrel
  rcases hd with (⟨rfl, rfl⟩ | ⟨rfl, rfl⟩) | (⟨rfl, rfl⟩ | ⟨rfl, rfl⟩)
  · go_upto_region 5 with fail
    (refine wp_region_class (Lf w.heap.size (w.heap.size + 1 + 1 + 1) [(⟨w.heap.size, 0, none⟩, .int .i64 p0), (⟨w.heap.size, 1, none⟩, .int .i64 p1), (⟨w.heap.size, 2, none⟩, .int .i64 p2), (⟨w.heap.size + 1, 0, none⟩, .int .i64 c0), (⟨w.heap.size + 1, 1, none⟩, .int .i64 c1), (⟨w.heap.size + 1, 2, none⟩, .int .i64 c2), (⟨w.heap.size + 1 + 1, 0, none⟩, .int .i64 q0), (⟨w.heap.size + 1 + 1, 1, none⟩, .int .i64 q1), (⟨w.heap.size + 1 + 1, 2, none⟩, .int .i64 q2)] w) (hT.next (Below.refl _ _).drew) (by kernel_rfl) (by kernel_rfl) ?_; repeat (refine wpQuiet_step (fun qK9 qH9 => ?_); go_simp; first | (refine qH9 _ ?_; clear qH9 qK9) | (apply Exists.intro; refine ⟨?_, qH9 _ ?_⟩; (first | (intros; rfl) | ((intro wx hC; ((have qk9 := (hC).cells; simp only [List.forall_mem_cons, List.not_mem_nil, false_implies, implies_true, and_true] at qk9; repeat (obtain ⟨qk8, qk9⟩ := qk9)); go_simp; first | done | rfl)))); clear qH9 qK9)))
    refine wpQuiet_nil ?_
    clear hT
    intro wy hT
    rewrite [A0.out, D0.out, E0.out]
    obtain ⟨n, hn⟩ : ∃ n, (p0 + q0 - 2 * c0) = n := ⟨_, rfl⟩
    rw [hn] at m0 t0
    rewrite [hn]
    have HN := Lib.hid hn
    clear hn
    go_wp2_with fail
    go_roundw
    case rel => rw [← HN.out]; exact ⟨Or.inl (Or.inr ⟨rfl, by first | rfl | simp⟩), hT⟩
    case measure => simp [intOf]
  · go_upto_region 5 with fail
    (refine wp_region_class (Lf w.heap.size (w.heap.size + 1 + 1 + 1) [(⟨w.heap.size, 0, none⟩, .int .i64 p0), (⟨w.heap.size, 1, none⟩, .int .i64 p1), (⟨w.heap.size, 2, none⟩, .int .i64 p2), (⟨w.heap.size + 1, 0, none⟩, .int .i64 c0), (⟨w.heap.size + 1, 1, none⟩, .int .i64 c1), (⟨w.heap.size + 1, 2, none⟩, .int .i64 c2), (⟨w.heap.size + 1 + 1, 0, none⟩, .int .i64 q0), (⟨w.heap.size + 1 + 1, 1, none⟩, .int .i64 q1), (⟨w.heap.size + 1 + 1, 2, none⟩, .int .i64 q2)] w) (hT.next (Below.refl _ _).drew) (by kernel_rfl) (by kernel_rfl) ?_; repeat (refine wpQuiet_step (fun qK9 qH9 => ?_); go_simp; first | (refine qH9 _ ?_; clear qH9 qK9) | (apply Exists.intro; refine ⟨?_, qH9 _ ?_⟩; (first | (intros; rfl) | ((intro wx hC; ((have qk9 := (hC).cells; simp only [List.forall_mem_cons, List.not_mem_nil, false_implies, implies_true, and_true] at qk9; repeat (obtain ⟨qk8, qk9⟩ := qk9)); go_simp; first | done | rfl)))); clear qH9 qK9)))
    refine wpQuiet_nil ?_
    clear hT
    intro wy hT
    rewrite [A1.out, D1.out, E1.out]
    obtain ⟨n, hn⟩ : ∃ n, (p1 + q1 - 2 * c1) = n := ⟨_, rfl⟩
    rw [hn] at m1 t1
    rewrite [hn]
    have HN := Lib.hid hn
    clear hn
    go_wp2_with fail
    go_roundw
    case rel => rw [← HN.out]; exact ⟨Or.inr (Or.inl ⟨rfl, rfl⟩), hT⟩
    case measure => simp [intOf]
  · go_upto_region 5 with fail
    (refine wp_region_class (Lf w.heap.size (w.heap.size + 1 + 1 + 1) [(⟨w.heap.size, 0, none⟩, .int .i64 p0), (⟨w.heap.size, 1, none⟩, .int .i64 p1), (⟨w.heap.size, 2, none⟩, .int .i64 p2), (⟨w.heap.size + 1, 0, none⟩, .int .i64 c0), (⟨w.heap.size + 1, 1, none⟩, .int .i64 c1), (⟨w.heap.size + 1, 2, none⟩, .int .i64 c2), (⟨w.heap.size + 1 + 1, 0, none⟩, .int .i64 q0), (⟨w.heap.size + 1 + 1, 1, none⟩, .int .i64 q1), (⟨w.heap.size + 1 + 1, 2, none⟩, .int .i64 q2)] w) (hT.next (Below.refl _ _).drew) (by kernel_rfl) (by kernel_rfl) ?_; repeat (refine wpQuiet_step (fun qK9 qH9 => ?_); go_simp; first | (refine qH9 _ ?_; clear qH9 qK9) | (apply Exists.intro; refine ⟨?_, qH9 _ ?_⟩; (first | (intros; rfl) | ((intro wx hC; ((have qk9 := (hC).cells; simp only [List.forall_mem_cons, List.not_mem_nil, false_implies, implies_true, and_true] at qk9; repeat (obtain ⟨qk8, qk9⟩ := qk9)); go_simp; first | done | rfl)))); clear qH9 qK9)))
    refine wpQuiet_nil ?_
    clear hT
    intro wy hT
    rewrite [A2.out, D2.out, E2.out]
    obtain ⟨n, hn⟩ : ∃ n, (p2 + q2 - 2 * c2) = n := ⟨_, rfl⟩
    rw [hn] at m2 t2
    rewrite [hn]
    have HN := Lib.hid hn
    clear hn
    go_wp2_with fail
    go_roundw
    case rel => rw [← HN.out]; exact ⟨Or.inr (Or.inr ⟨rfl, by rw [HS.out]⟩), hT⟩
    case measure => simp [intOf]
  · go_wp2_with fail
    go_ret
    exact ⟨rfl, hT.be⟩
/-- the bend of the two points at the distance e -/
def bnE (a0 a1 a2 c0 c1 c2 b0 b1 b2 e : Int) : Int := bnD (c0 + nrI (a0 - c0) e (sqD a0 a1 a2 c0 c1 c2)) (c1 + nrI (a1 - c1) e (sqD a0 a1 a2 c0 c1 c2)) (c2 + nrI (a2 - c2) e (sqD a0 a1 a2 c0 c1 c2)) c0 c1 c2 (c0 + nrI (b0 - c0) e (sqD b0 b1 b2 c0 c1 c2)) (c1 + nrI (b1 - c1) e (sqD b0 b1 b2 c0 c1 c2)) (c2 + nrI (b2 - c2) e (sqD b0 b1 b2 c0 c1 c2))
def moI (a0 a1 a2 c0 c1 c2 b0 b1 b2 : Int) : Int := min (sqV (sqD a0 a1 a2 c0 c1 c2) 1) (sqV (sqD c0 c1 c2 b0 b1 b2) 1) - 2
def pmB (mo tol a0 a1 a2 c0 c1 c2 b0 b1 b2 e : Int) : Bool := decide (e ≤ mo) && decide (bnE a0 a1 a2 c0 c1 c2 b0 b1 b2 e ≤ 16 * tol * tol)
def rcG (mo tol a0 a1 a2 c0 c1 c2 b0 b1 b2 : Int) : Nat → Int → Int
  | 0, d => d
  | k + 1, d => if pmB mo tol a0 a1 a2 c0 c1 c2 b0 b1 b2 (d + ((2 ^ k : Nat) : Int)) then rcG mo tol a0 a1 a2 c0 c1 c2 b0 b1 b2 k (d + ((2 ^ k : Nat) : Int)) else rcG mo tol a0 a1 a2 c0 c1 c2 b0 b1 b2 k d
def rcI (a0 a1 a2 c0 c1 c2 b0 b1 b2 tol : Int) : Int := if rcG (moI a0 a1 a2 c0 c1 c2 b0 b1 b2) tol a0 a1 a2 c0 c1 c2 b0 b1 b2 25 0 < 16 then 0 else rcG (moI a0 a1 a2 c0 c1 c2 b0 b1 b2) tol a0 a1 a2 c0 c1 c2 b0 b1 b2 25 0
def sameB (a0 a1 a2 c0 c1 c2 : Int) : Bool := a0 == c0 && a1 == c1 && a2 == c2
theorem sameB_f {a0 a1 a2 c0 c1 c2 : Int} (h : sameB a0 a1 a2 c0 c1 c2 = false) : 1 ≤ sqD a0 a1 a2 c0 c1 c2 := by
  have q0 := sq_nn (a0 - c0)
  have q1 := sq_nn (a1 - c1)
  have q2 := sq_nn (a2 - c2)
  have hne : sqD a0 a1 a2 c0 c1 c2 ≠ 0 := by
    intro e
    obtain ⟨rfl, rfl, rfl⟩ := sqD_zero.1 e
    simp [sameB] at h
  unfold sqD at *; omega
theorem sameB_t {a0 a1 a2 c0 c1 c2 : Int} (h : sameB a0 a1 a2 c0 c1 c2 = true) : a0 = c0 ∧ a1 = c1 ∧ a2 = c2 := by
  simp [sameB] at h; exact ⟨h.1.1, h.1.2, h.2⟩
set_option maxHeartbeats 2000000 in
theorem reachP_sameA (c0 c1 c2 b0 b1 b2 tol : Int) (w : World) :
    Calls Try.prog 18 #[.agg #[.int .i64 c0, .int .i64 c1, .int .i64 c2], .agg #[.int .i64 c0, .int .i64 c1, .int .i64 c2], .agg #[.int .i64 b0, .int .i64 b1, .int .i64 b2], .int .i64 tol] w fun e w' => e = .returned (.int .i64 0) ∧ Below w.heap.size w w' := by
  skip
  all_goals
    go_enter Try.func18, Try.ntmps18
    go_wp2_with fail
    go_ret
    refine ⟨rfl, ?_⟩
    (repeat (first | exact Below.refl _ _ | assumption | refine Below.drew ?_ | (refine Below.alloc ?_ (by simp <;> omega) _) | (refine Below.setCell ?_ (by simp <;> omega) _)))
set_option maxHeartbeats 2000000 in
theorem reachP_sameC (a0 a1 a2 c0 c1 c2 tol : Int) (w : World) :
    Calls Try.prog 18 #[.agg #[.int .i64 a0, .int .i64 a1, .int .i64 a2], .agg #[.int .i64 c0, .int .i64 c1, .int .i64 c2], .agg #[.int .i64 c0, .int .i64 c1, .int .i64 c2], .int .i64 tol] w fun e w' => e = .returned (.int .i64 0) ∧ Below w.heap.size w w' := by
  cases hb : (a0 == c0 && a1 == c1 && a2 == c2)
  all_goals
    go_enter Try.func18, Try.ntmps18
    go_wp2_with fail
    go_ret
    refine ⟨rfl, ?_⟩
    (repeat (first | exact Below.refl _ _ | assumption | refine Below.drew ?_ | (refine Below.alloc ?_ (by simp <;> omega) _) | (refine Below.setCell ?_ (by simp <;> omega) _)))
set_option maxHeartbeats 8000000 in
set_option maxRecDepth 20000 in
theorem reachP_main (a0 a1 a2 c0 c1 c2 b0 b1 b2 tol : Int) (w : World) (ha : Pk a0 a1 a2) (hc : Pk c0 c1 c2) (hb : Pk b0 b1 b2) (na : (a0 == c0 && a1 == c1 && a2 == c2) = false) (nb : (b0 == c0 && b1 == c1 && b2 == c2) = false) (ht : 0 ≤ tol) (ht2 : tol ≤ 16000) :
    Calls Try.prog 18 #[.agg #[.int .i64 a0, .int .i64 a1, .int .i64 a2], .agg #[.int .i64 c0, .int .i64 c1, .int .i64 c2], .agg #[.int .i64 b0, .int .i64 b1, .int .i64 b2], .int .i64 tol] w fun e w' => e = .returned (.int .i64 (rcI a0 a1 a2 c0 c1 c2 b0 b1 b2 tol)) ∧ Below w.heap.size w w' := by
  have ga := sameB_f na
  have gb := sameB_f nb
  have HRI : Hid (rcI a0 a1 a2 c0 c1 c2 b0 b1 b2 tol = if rcG (moI a0 a1 a2 c0 c1 c2 b0 b1 b2) tol a0 a1 a2 c0 c1 c2 b0 b1 b2 25 0 < 16 then 0 else rcG (moI a0 a1 a2 c0 c1 c2 b0 b1 b2) tol a0 a1 a2 c0 c1 c2 b0 b1 b2 25 0) := rfl
  have HMO : Hid (moI a0 a1 a2 c0 c1 c2 b0 b1 b2 = min (sqV (sqD a0 a1 a2 c0 c1 c2) 1) (sqV (sqD c0 c1 c2 b0 b1 b2) 1) - 2) := rfl
  have TA : ∀ e w, 0 ≤ e → e ≤ 33554432 → Hid (Calls Try.prog 14 #[.agg #[.int .i64 c0, .int .i64 c1, .int .i64 c2], .agg #[.int .i64 a0, .int .i64 a1, .int .i64 a2], .int .i64 e] w fun x w' => x = .returned (.tuple #[.agg #[.int .i64 (c0 + nrI (a0 - c0) e (sqD a0 a1 a2 c0 c1 c2)), .int .i64 (c1 + nrI (a1 - c1) e (sqD a0 a1 a2 c0 c1 c2)), .int .i64 (c2 + nrI (a2 - c2) e (sqD a0 a1 a2 c0 c1 c2))], .bool true]) ∧ Below w.heap.size w w') := fun e w h1 h2 => towardP_main c0 c1 c2 a0 a1 a2 e _ _ _ w hc ha na ga h1 h2 rfl rfl rfl
  have TB : ∀ e w, 0 ≤ e → e ≤ 33554432 → Hid (Calls Try.prog 14 #[.agg #[.int .i64 c0, .int .i64 c1, .int .i64 c2], .agg #[.int .i64 b0, .int .i64 b1, .int .i64 b2], .int .i64 e] w fun x w' => x = .returned (.tuple #[.agg #[.int .i64 (c0 + nrI (b0 - c0) e (sqD b0 b1 b2 c0 c1 c2)), .int .i64 (c1 + nrI (b1 - c1) e (sqD b0 b1 b2 c0 c1 c2)), .int .i64 (c2 + nrI (b2 - c2) e (sqD b0 b1 b2 c0 c1 c2))], .bool true]) ∧ Below w.heap.size w w') := fun e w h1 h2 => towardP_main c0 c1 c2 b0 b1 b2 e _ _ _ w hc hb nb gb h1 h2 rfl rfl rfl
  obtain ⟨x1, x2, x3, x4, x5, x6⟩ := hc
  obtain ⟨y1, y2, y3, y4, y5, y6⟩ := ha
  obtain ⟨z1, z2, z3, z4, z5, z6⟩ := hb
  have LA := fun w => Lib.hid (length_any a0 a1 a2 c0 c1 c2 w (by omega) (by omega) (by omega))
  have LC := fun w => Lib.hid (length_any c0 c1 c2 b0 b1 b2 w (by omega) (by omega) (by omega))
  have BN : ∀ e w, 0 ≤ e → e ≤ 33554432 → Hid (Calls Try.prog 33 #[.agg #[.int .i64 (c0 + nrI (a0 - c0) e (sqD a0 a1 a2 c0 c1 c2)), .int .i64 (c1 + nrI (a1 - c1) e (sqD a0 a1 a2 c0 c1 c2)), .int .i64 (c2 + nrI (a2 - c2) e (sqD a0 a1 a2 c0 c1 c2))], .agg #[.int .i64 c0, .int .i64 c1, .int .i64 c2], .agg #[.int .i64 (c0 + nrI (b0 - c0) e (sqD b0 b1 b2 c0 c1 c2)), .int .i64 (c1 + nrI (b1 - c1) e (sqD b0 b1 b2 c0 c1 c2)), .int .i64 (c2 + nrI (b2 - c2) e (sqD b0 b1 b2 c0 c1 c2))]] w fun x w' => x = .returned (.int .i64 (bnE a0 a1 a2 c0 c1 c2 b0 b1 b2 e)) ∧ Below w.heap.size w w') := by
    intro e w h1 h2
    have ua : sqD a0 a1 a2 c0 c1 c2 = (a0 - c0) * (a0 - c0) + (a1 - c1) * (a1 - c1) + (a2 - c2) * (a2 - c2) := rfl
    have qa0 := sq_nn (a0 - c0)
    have qa1 := sq_nn (a1 - c1)
    have qa2 := sq_nn (a2 - c2)
    have va0 := nrI_bd (x := a0 - c0) (r := e) (n := sqD a0 a1 a2 c0 c1 c2) (by omega) (by omega) h1 h2 ga (by omega)
    have va1 := nrI_bd (x := a1 - c1) (r := e) (n := sqD a0 a1 a2 c0 c1 c2) (by omega) (by omega) h1 h2 ga (by omega)
    have va2 := nrI_bd (x := a2 - c2) (r := e) (n := sqD a0 a1 a2 c0 c1 c2) (by omega) (by omega) h1 h2 ga (by omega)
    have ub : sqD b0 b1 b2 c0 c1 c2 = (b0 - c0) * (b0 - c0) + (b1 - c1) * (b1 - c1) + (b2 - c2) * (b2 - c2) := rfl
    have qb0 := sq_nn (b0 - c0)
    have qb1 := sq_nn (b1 - c1)
    have qb2 := sq_nn (b2 - c2)
    have vb0 := nrI_bd (x := b0 - c0) (r := e) (n := sqD b0 b1 b2 c0 c1 c2) (by omega) (by omega) h1 h2 gb (by omega)
    have vb1 := nrI_bd (x := b1 - c1) (r := e) (n := sqD b0 b1 b2 c0 c1 c2) (by omega) (by omega) h1 h2 gb (by omega)
    have vb2 := nrI_bd (x := b2 - c2) (r := e) (n := sqD b0 b1 b2 c0 c1 c2) (by omega) (by omega) h1 h2 gb (by omega)
    exact bendP_any _ _ _ c0 c1 c2 _ _ _ w ⟨by omega, by omega⟩ ⟨by omega, by omega⟩ ⟨by omega, by omega⟩ ⟨by omega, by omega⟩ ⟨by omega, by omega⟩ ⟨by omega, by omega⟩ ⟨by omega, by omega⟩ ⟨by omega, by omega⟩ ⟨by omega, by omega⟩
  have l1 : 0 ≤ sqV (sqD a0 a1 a2 c0 c1 c2) 1 ∧ sqV (sqD a0 a1 a2 c0 c1 c2) 1 ≤ 134217728 := by
    have q0 := sq_bdK (x := a0 - c0) (by omega) (by omega)
    have q1 := sq_bdK (x := a1 - c1) (by omega) (by omega)
    have q2 := sq_bdK (x := a2 - c2) (by omega) (by omega)
    obtain ⟨n, hn, n1, _⟩ := len_facts (sqD a0 a1 a2 c0 c1 c2) (by omega) (by unfold sqD; omega)
    rw [hn]; omega
  have l2 : 0 ≤ sqV (sqD c0 c1 c2 b0 b1 b2) 1 ∧ sqV (sqD c0 c1 c2 b0 b1 b2) 1 ≤ 134217728 := by
    have q0 := sq_bdK (x := c0 - b0) (by omega) (by omega)
    have q1 := sq_bdK (x := c1 - b1) (by omega) (by omega)
    have q2 := sq_bdK (x := c2 - b2) (by omega) (by omega)
    obtain ⟨n, hn, n1, _⟩ := len_facts (sqD c0 c1 c2 b0 b1 b2) (by unfold sqD; omega) (by unfold sqD; omega)
    rw [hn]; omega
  have HPM : ∀ mo e, Hid (pmB mo tol a0 a1 a2 c0 c1 c2 b0 b1 b2 e = (decide (e ≤ mo) && decide (bnE a0 a1 a2 c0 c1 c2 b0 b1 b2 e ≤ 16 * tol * tol))) := fun _ _ => rfl
  have HG0 : ∀ mo d, Hid (rcG mo tol a0 a1 a2 c0 c1 c2 b0 b1 b2 0 d = d) := fun _ _ => rfl
  have HG1 : ∀ mo k d, Hid (rcG mo tol a0 a1 a2 c0 c1 c2 b0 b1 b2 (k + 1) d = if pmB mo tol a0 a1 a2 c0 c1 c2 b0 b1 b2 (d + ((2 ^ k : Nat) : Int)) then rcG mo tol a0 a1 a2 c0 c1 c2 b0 b1 b2 k (d + ((2 ^ k : Nat) : Int)) else rcG mo tol a0 a1 a2 c0 c1 c2 b0 b1 b2 k d) := fun _ _ _ => rfl
  have tt : 0 ≤ tol * tol ∧ tol * tol ≤ 256000000 := by
    have := Int.mul_nonneg ht ht
    have h : tol * tol ≤ 16000 * 16000 := Int.mul_le_mul ht2 ht2 ht (by omega)
    omega
  have tt2 : 16 * tol * tol = 16 * (tol * tol) := by rw [Int.mul_assoc]
  have t1 : 0 ≤ 16 * tol * tol := by omega
  have t2 : 16 * tol * tol ≤ 4096000000 := by omega
  generalize moI a0 a1 a2 c0 c1 c2 b0 b1 b2 = mo at *
  generalize sqV (sqD a0 a1 a2 c0 c1 c2) 1 = L1 at *
  generalize sqV (sqD c0 c1 c2 b0 b1 b2) 1 = L2 at *
  generalize rcI a0 a1 a2 c0 c1 c2 b0 b1 b2 tol = RI at *
  have WM := Lib.hid (wr_in (n := min L1 L2 - 2) (by omega) (by omega))
  have HT := Lib.hid (And.intro t1 t2)
  have HL := Lib.hid (And.intro l1 l2)
  have HTT := Lib.hid (And.intro ht ht2)
  clear ga gb tt tt2 t1 t2 l1 l2
  have hT : Lf w.heap.size (w.heap.size + 1 + 1 + 1) [(⟨w.heap.size, 0, none⟩, .int .i64 a0), (⟨w.heap.size, 1, none⟩, .int .i64 a1), (⟨w.heap.size, 2, none⟩, .int .i64 a2), (⟨w.heap.size + 1, 0, none⟩, .int .i64 c0), (⟨w.heap.size + 1, 1, none⟩, .int .i64 c1), (⟨w.heap.size + 1, 2, none⟩, .int .i64 c2), (⟨w.heap.size + 1 + 1, 0, none⟩, .int .i64 b0), (⟨w.heap.size + 1 + 1, 1, none⟩, .int .i64 b1), (⟨w.heap.size + 1 + 1, 2, none⟩, .int .i64 b2)] w (((w.alloc (.cells #[.int .i64 a0, .int .i64 a1, .int .i64 a2] 23)).alloc (.cells #[.int .i64 c0, .int .i64 c1, .int .i64 c2] 23)).alloc (.cells #[.int .i64 b0, .int .i64 b1, .int .i64 b2] 23)) := ⟨by simp [List.forall_mem_cons, go_sem], by simp [List.forall_mem_cons, go_sem], by simp [List.forall_mem_cons] <;> omega, by simp, by (repeat (first | exact Below.refl _ _ | assumption | refine Below.drew ?_ | (refine Below.alloc ?_ (by simp <;> omega) _) | (refine Below.setCell ?_ (by simp <;> omega) _))), by omega⟩
  go_enter Try.func18, Try.ntmps18
  go_upto_region 3 with fail
  (refine wp_region_class (Lf w.heap.size (w.heap.size + 1 + 1 + 1) [(⟨w.heap.size, 0, none⟩, .int .i64 a0), (⟨w.heap.size, 1, none⟩, .int .i64 a1), (⟨w.heap.size, 2, none⟩, .int .i64 a2), (⟨w.heap.size + 1, 0, none⟩, .int .i64 c0), (⟨w.heap.size + 1, 1, none⟩, .int .i64 c1), (⟨w.heap.size + 1, 2, none⟩, .int .i64 c2), (⟨w.heap.size + 1 + 1, 0, none⟩, .int .i64 b0), (⟨w.heap.size + 1 + 1, 1, none⟩, .int .i64 b1), (⟨w.heap.size + 1 + 1, 2, none⟩, .int .i64 b2)] w) (hT.next (Below.refl _ _).drew) (by kernel_rfl) (by kernel_rfl) ?_; repeat (refine wpQuiet_step (fun qK9 qH9 => ?_); go_simp; first | (refine qH9 _ ?_; clear qH9 qK9) | (apply Exists.intro; refine ⟨?_, qH9 _ ?_⟩; (first | (intros; rfl) | (first | (intro wx hC; ((have qk9 := (hC).cells; simp only [List.forall_mem_cons, List.not_mem_nil, false_implies, implies_true, and_true] at qk9; repeat (obtain ⟨qk8, qk9⟩ := qk9)); go_simp; first | done | rfl)) | (intro wx hC; with_reducible exact Calls.lays (LA wx).out (fun _ => hC.next)) | (intro wx hC; with_reducible exact Calls.lays (LC wx).out (fun _ => hC.next)))); clear qH9 qK9)))
  refine wpQuiet_nil ?_
  clear hT
  intro wy hT
  rewrite [WM.out, ← HMO.out]
  clear WM HMO LA LC HL
  go_wp2_with fail
  go_loopw [10, 11] (fun s t wr => ∃ (q : Int) (j : Nat), s = .int .i64 q ∧ t = .int .i64 (bitK j : Int) ∧ j ≤ 25 ∧ rcG mo tol a0 a1 a2 c0 c1 c2 b0 b1 b2 j q = rcG mo tol a0 a1 a2 c0 c1 c2 b0 b1 b2 25 0 ∧ 0 ≤ q ∧ q + ((2 ^ j : Nat) : Int) ≤ 33554432 ∧ Lf w.heap.size (w.heap.size + 1 + 1 + 1) [(⟨w.heap.size, 0, none⟩, .int .i64 a0), (⟨w.heap.size, 1, none⟩, .int .i64 a1), (⟨w.heap.size, 2, none⟩, .int .i64 a2), (⟨w.heap.size + 1, 0, none⟩, .int .i64 c0), (⟨w.heap.size + 1, 1, none⟩, .int .i64 c1), (⟨w.heap.size + 1, 2, none⟩, .int .i64 c2), (⟨w.heap.size + 1 + 1, 0, none⟩, .int .i64 b0), (⟨w.heap.size + 1 + 1, 1, none⟩, .int .i64 b1), (⟨w.heap.size + 1 + 1, 2, none⟩, .int .i64 b2)] w wr) (fun _ t _ => (intOf t).toNat)
  case atStart => exact ⟨0, 25, rfl, by rw [show bitK 25 = 16777216 by decide]; rfl, by decide, rfl, by decide, by decide, hT⟩
  case round =>
  clear hT
  obtain ⟨q, j, rfl, rfl, hj, hr, hq0, hqb, hT⟩ := hrel
  cases j with
  | zero =>
    rw [bitK_zero]
    have hq : rcG mo tol a0 a1 a2 c0 c1 c2 b0 b1 b2 25 0 = q := hr.symm.trans (HG0 mo q).out
    by_cases h16 : q < 16
    · have HF : Hid (RI = 0) := by show RI = 0; rw [HRI.out, hq, if_pos h16]
      clear HG0 HG1 HPM TA TB BN HRI hq hr hqb
      go_wp2_with fail
      go_ret
      exact ⟨by rw [HF.out]; rfl, hT.be⟩
    · have HF : Hid (RI = q) := by show RI = q; rw [HRI.out, hq, if_neg h16]
      clear HG0 HG1 HPM TA TB BN HRI hq hr hqb
      go_wp2_with fail
      go_ret
      exact ⟨by rw [HF.out]; rfl, hT.be⟩
  | succ k =>
    rw [bitK_succ]
    have hg := (HG1 mo k q).out
    rw [hr] at hg
    have HB2 : Hid (((2 ^ k : Nat) : Int) / 2 = (bitK k : Int)) := rfl
    have hb0 := Nat.pow_pos (n := k) (show 0 < 2 by decide)
    have h2 : 2 ^ (k + 1) = 2 * 2 ^ k := by rw [Nat.pow_succ]; omega
    rw [h2] at hqb
    have hk : Hid (2 ^ k = 2 ^ k) := rfl
    obtain ⟨b, hb⟩ : ∃ b, 2 ^ k = b := ⟨_, rfl⟩
    rw [hb] at hqb hg HB2 hb0 ⊢
    have HB3 : Hid ((2 ^ k : Nat) = b) := hb
    clear h2 hk hb hr
    have hb1 : (0 : Int) < b := by omega
    have e1 : q + (b : Int) ≤ 33554432 := by omega
    have TA1 := fun w => TA (q + (b : Int)) w (by omega) e1
    have TB1 := fun w => TB (q + (b : Int)) w (by omega) e1
    have BN1 := fun w => BN (q + (b : Int)) w (by omega) e1
    have HP := HPM mo (q + (b : Int))
    have htt := HTT.out
    obtain ⟨t3, t4⟩ := htt
    obtain ⟨t1, t2⟩ := HT.out
    have t5 : 0 ≤ 16 * tol := by omega
    clear HG0 HG1 HPM TA TB BN HRI
    generalize bnE a0 a1 a2 c0 c1 c2 b0 b1 b2 (q + (b : Int)) = B at *
    generalize c0 + nrI (a0 - c0) (q + (b : Int)) (sqD a0 a1 a2 c0 c1 c2) = p0 at *
    generalize c1 + nrI (a1 - c1) (q + (b : Int)) (sqD a0 a1 a2 c0 c1 c2) = p1 at *
    generalize c2 + nrI (a2 - c2) (q + (b : Int)) (sqD a0 a1 a2 c0 c1 c2) = p2 at *
    generalize c0 + nrI (b0 - c0) (q + (b : Int)) (sqD b0 b1 b2 c0 c1 c2) = r0 at *
    generalize c1 + nrI (b1 - c1) (q + (b : Int)) (sqD b0 b1 b2 c0 c1 c2) = r1 at *
    generalize c2 + nrI (b2 - c2) (q + (b : Int)) (sqD b0 b1 b2 c0 c1 c2) = r2 at *
    by_cases hm1 : q + (b : Int) ≤ mo
    · by_cases hm2 : B ≤ 16 * tol * tol
      · have HN : Hid (rcG mo tol a0 a1 a2 c0 c1 c2 b0 b1 b2 k (q + (b : Int)) = rcG mo tol a0 a1 a2 c0 c1 c2 b0 b1 b2 25 0) := by
          have hp : pmB mo tol a0 a1 a2 c0 c1 c2 b0 b1 b2 (q + (b : Int)) = true := by rw [HP.out, decide_eq_true hm1, decide_eq_true hm2]; rfl
          rw [if_pos hp] at hg; exact hg.symm
        clear hg HP
        have kc := hT.cells
        have kf := hT.frz
        simp only [List.forall_mem_cons, List.not_mem_nil, false_implies, implies_true, and_true] at kc kf
        obtain ⟨yc0, yc1, yc2, yc3, yc4, yc5, yc6, yc7, yc8⟩ := kc
        obtain ⟨yf0, yf1, yf2, yf3, yf4, yf5, yf6, yf7, yf8⟩ := kf
        go_wp2_with fail
        refine (TA1 _).out.mono ?_
        rintro e w1 ⟨rfl, hb1⟩
        have hT1 := hT.next hb1
        have hz1 := hT1.lt
        clear yc0 yf0 yc1 yf1 yc2 yf2 yc3 yf3 yc4 yf4 yc5 yf5 yc6 yf6 yc7 yf7 yc8 yf8
        go_upto_region 10 with fail
        refine wp_cls (Lf w.heap.size (w1.heap.size + 1) [(⟨w1.heap.size, 0, none⟩, .int .i64 p0), (⟨w1.heap.size, 1, none⟩, .int .i64 p1), (⟨w1.heap.size, 2, none⟩, .int .i64 p2), (⟨w.heap.size, 0, none⟩, .int .i64 a0), (⟨w.heap.size, 1, none⟩, .int .i64 a1), (⟨w.heap.size, 2, none⟩, .int .i64 a2), (⟨w.heap.size + 1, 0, none⟩, .int .i64 c0), (⟨w.heap.size + 1, 1, none⟩, .int .i64 c1), (⟨w.heap.size + 1, 2, none⟩, .int .i64 c2), (⟨w.heap.size + 1 + 1, 0, none⟩, .int .i64 b0), (⟨w.heap.size + 1 + 1, 1, none⟩, .int .i64 b1), (⟨w.heap.size + 1 + 1, 2, none⟩, .int .i64 b2)] w) (hT1.push #[.int .i64 p0, .int .i64 p1, .int .i64 p2] 23) ?_
        intro wx hT2
        have kc := hT2.cells
        have kf := hT2.frz
        simp only [List.forall_mem_cons, List.not_mem_nil, false_implies, implies_true, and_true] at kc kf
        obtain ⟨yc0, yc1, yc2, yc3, yc4, yc5, yc6, yc7, yc8, yc9, yc10, yc11⟩ := kc
        obtain ⟨yf0, yf1, yf2, yf3, yf4, yf5, yf6, yf7, yf8, yf9, yf10, yf11⟩ := kf
        go_wp2_with fail
        refine (TB1 _).out.mono ?_
        rintro e w2 ⟨rfl, hb2⟩
        have hT3 := hT2.next hb2
        have hz2 := hT3.lt
        clear yc0 yf0 yc1 yf1 yc2 yf2 yc3 yf3 yc4 yf4 yc5 yf5 yc6 yf6 yc7 yf7 yc8 yf8 yc9 yf9 yc10 yf10 yc11 yf11
        go_upto_region 11 with fail
        refine wp_cls (Lf w.heap.size (w2.heap.size + 1) [(⟨w2.heap.size, 0, none⟩, .int .i64 r0), (⟨w2.heap.size, 1, none⟩, .int .i64 r1), (⟨w2.heap.size, 2, none⟩, .int .i64 r2), (⟨w1.heap.size, 0, none⟩, .int .i64 p0), (⟨w1.heap.size, 1, none⟩, .int .i64 p1), (⟨w1.heap.size, 2, none⟩, .int .i64 p2), (⟨w.heap.size, 0, none⟩, .int .i64 a0), (⟨w.heap.size, 1, none⟩, .int .i64 a1), (⟨w.heap.size, 2, none⟩, .int .i64 a2), (⟨w.heap.size + 1, 0, none⟩, .int .i64 c0), (⟨w.heap.size + 1, 1, none⟩, .int .i64 c1), (⟨w.heap.size + 1, 2, none⟩, .int .i64 c2), (⟨w.heap.size + 1 + 1, 0, none⟩, .int .i64 b0), (⟨w.heap.size + 1 + 1, 1, none⟩, .int .i64 b1), (⟨w.heap.size + 1 + 1, 2, none⟩, .int .i64 b2)] w) (hT3.push #[.int .i64 r0, .int .i64 r1, .int .i64 r2] 23) ?_
        intro wy hT4
        have kc := hT4.cells
        have kf := hT4.frz
        simp only [List.forall_mem_cons, List.not_mem_nil, false_implies, implies_true, and_true] at kc kf
        obtain ⟨yc0, yc1, yc2, yc3, yc4, yc5, yc6, yc7, yc8, yc9, yc10, yc11, yc12, yc13, yc14⟩ := kc
        obtain ⟨yf0, yf1, yf2, yf3, yf4, yf5, yf6, yf7, yf8, yf9, yf10, yf11, yf12, yf13, yf14⟩ := kf
        go_wp2_with fail
        refine (BN1 _).out.mono ?_
        rintro e w3 ⟨rfl, hb3⟩
        have hT4 := hT4.next hb3
        clear yc0 yf0 yc1 yf1 yc2 yf2 yc3 yf3 yc4 yf4 yc5 yf5 yc6 yf6 yc7 yf7 yc8 yf8 yc9 yf9 yc10 yf10 yc11 yf11 yc12 yf12 yc13 yf13 yc14 yf14
        go_wp2_with fail
        go_roundw
        case rel => exact ⟨q + (b : Int), k, rfl, by rw [← HB2.out], by omega, HN.out, by omega, by rw [HB3.out]; omega, hT4.cut (fun p hp => (List.mem_cons_of_mem _ (List.mem_cons_of_mem _ (List.mem_cons_of_mem _ (List.mem_cons_of_mem _ (List.mem_cons_of_mem _ (List.mem_cons_of_mem _ hp))))))) hT.inn hT.le (Nat.le_succ_of_le (Nat.le_trans hz1 (Nat.le_of_succ_le hz2)))⟩
        case measure => simp [intOf]; omega
      · have HN : Hid (rcG mo tol a0 a1 a2 c0 c1 c2 b0 b1 b2 k q = rcG mo tol a0 a1 a2 c0 c1 c2 b0 b1 b2 25 0) := by
          have hp : ¬ pmB mo tol a0 a1 a2 c0 c1 c2 b0 b1 b2 (q + (b : Int)) = true := by rw [HP.out, decide_eq_false hm2]; simp
          rw [if_neg hp] at hg; exact hg.symm
        clear hg HP
        have kc := hT.cells
        have kf := hT.frz
        simp only [List.forall_mem_cons, List.not_mem_nil, false_implies, implies_true, and_true] at kc kf
        obtain ⟨yc0, yc1, yc2, yc3, yc4, yc5, yc6, yc7, yc8⟩ := kc
        obtain ⟨yf0, yf1, yf2, yf3, yf4, yf5, yf6, yf7, yf8⟩ := kf
        go_wp2_with fail
        refine (TA1 _).out.mono ?_
        rintro e w1 ⟨rfl, hb1⟩
        have hT1 := hT.next hb1
        have hz1 := hT1.lt
        clear yc0 yf0 yc1 yf1 yc2 yf2 yc3 yf3 yc4 yf4 yc5 yf5 yc6 yf6 yc7 yf7 yc8 yf8
        go_upto_region 10 with fail
        refine wp_cls (Lf w.heap.size (w1.heap.size + 1) [(⟨w1.heap.size, 0, none⟩, .int .i64 p0), (⟨w1.heap.size, 1, none⟩, .int .i64 p1), (⟨w1.heap.size, 2, none⟩, .int .i64 p2), (⟨w.heap.size, 0, none⟩, .int .i64 a0), (⟨w.heap.size, 1, none⟩, .int .i64 a1), (⟨w.heap.size, 2, none⟩, .int .i64 a2), (⟨w.heap.size + 1, 0, none⟩, .int .i64 c0), (⟨w.heap.size + 1, 1, none⟩, .int .i64 c1), (⟨w.heap.size + 1, 2, none⟩, .int .i64 c2), (⟨w.heap.size + 1 + 1, 0, none⟩, .int .i64 b0), (⟨w.heap.size + 1 + 1, 1, none⟩, .int .i64 b1), (⟨w.heap.size + 1 + 1, 2, none⟩, .int .i64 b2)] w) (hT1.push #[.int .i64 p0, .int .i64 p1, .int .i64 p2] 23) ?_
        intro wx hT2
        have kc := hT2.cells
        have kf := hT2.frz
        simp only [List.forall_mem_cons, List.not_mem_nil, false_implies, implies_true, and_true] at kc kf
        obtain ⟨yc0, yc1, yc2, yc3, yc4, yc5, yc6, yc7, yc8, yc9, yc10, yc11⟩ := kc
        obtain ⟨yf0, yf1, yf2, yf3, yf4, yf5, yf6, yf7, yf8, yf9, yf10, yf11⟩ := kf
        go_wp2_with fail
        refine (TB1 _).out.mono ?_
        rintro e w2 ⟨rfl, hb2⟩
        have hT3 := hT2.next hb2
        have hz2 := hT3.lt
        clear yc0 yf0 yc1 yf1 yc2 yf2 yc3 yf3 yc4 yf4 yc5 yf5 yc6 yf6 yc7 yf7 yc8 yf8 yc9 yf9 yc10 yf10 yc11 yf11
        go_upto_region 11 with fail
        refine wp_cls (Lf w.heap.size (w2.heap.size + 1) [(⟨w2.heap.size, 0, none⟩, .int .i64 r0), (⟨w2.heap.size, 1, none⟩, .int .i64 r1), (⟨w2.heap.size, 2, none⟩, .int .i64 r2), (⟨w1.heap.size, 0, none⟩, .int .i64 p0), (⟨w1.heap.size, 1, none⟩, .int .i64 p1), (⟨w1.heap.size, 2, none⟩, .int .i64 p2), (⟨w.heap.size, 0, none⟩, .int .i64 a0), (⟨w.heap.size, 1, none⟩, .int .i64 a1), (⟨w.heap.size, 2, none⟩, .int .i64 a2), (⟨w.heap.size + 1, 0, none⟩, .int .i64 c0), (⟨w.heap.size + 1, 1, none⟩, .int .i64 c1), (⟨w.heap.size + 1, 2, none⟩, .int .i64 c2), (⟨w.heap.size + 1 + 1, 0, none⟩, .int .i64 b0), (⟨w.heap.size + 1 + 1, 1, none⟩, .int .i64 b1), (⟨w.heap.size + 1 + 1, 2, none⟩, .int .i64 b2)] w) (hT3.push #[.int .i64 r0, .int .i64 r1, .int .i64 r2] 23) ?_
        intro wy hT4
        have kc := hT4.cells
        have kf := hT4.frz
        simp only [List.forall_mem_cons, List.not_mem_nil, false_implies, implies_true, and_true] at kc kf
        obtain ⟨yc0, yc1, yc2, yc3, yc4, yc5, yc6, yc7, yc8, yc9, yc10, yc11, yc12, yc13, yc14⟩ := kc
        obtain ⟨yf0, yf1, yf2, yf3, yf4, yf5, yf6, yf7, yf8, yf9, yf10, yf11, yf12, yf13, yf14⟩ := kf
        go_wp2_with fail
        refine (BN1 _).out.mono ?_
        rintro e w3 ⟨rfl, hb3⟩
        have hT4 := hT4.next hb3
        clear yc0 yf0 yc1 yf1 yc2 yf2 yc3 yf3 yc4 yf4 yc5 yf5 yc6 yf6 yc7 yf7 yc8 yf8 yc9 yf9 yc10 yf10 yc11 yf11 yc12 yf12 yc13 yf13 yc14 yf14
        go_wp2_with fail
        go_roundw
        case rel => exact ⟨q, k, rfl, by rw [← HB2.out], by omega, HN.out, by omega, by rw [HB3.out]; omega, hT4.cut (fun p hp => (List.mem_cons_of_mem _ (List.mem_cons_of_mem _ (List.mem_cons_of_mem _ (List.mem_cons_of_mem _ (List.mem_cons_of_mem _ (List.mem_cons_of_mem _ hp))))))) hT.inn hT.le (Nat.le_succ_of_le (Nat.le_trans hz1 (Nat.le_of_succ_le hz2)))⟩
        case measure => simp [intOf]; omega
    · have HN : Hid (rcG mo tol a0 a1 a2 c0 c1 c2 b0 b1 b2 k q = rcG mo tol a0 a1 a2 c0 c1 c2 b0 b1 b2 25 0) := by
        have hp : ¬ pmB mo tol a0 a1 a2 c0 c1 c2 b0 b1 b2 (q + (b : Int)) = true := by rw [HP.out, decide_eq_false hm1]; simp
        rw [if_neg hp] at hg; exact hg.symm
      clear hg HP TA1 TB1 BN1
      go_wp2_with fail
      go_roundw
      case rel => exact ⟨q, k, rfl, by rw [← HB2.out], by omega, HN.out, by omega, by rw [HB3.out]; omega, hT⟩
      case measure => simp [intOf]; omega

end Go.Proofs.Ytdjopepipcnmdaa
