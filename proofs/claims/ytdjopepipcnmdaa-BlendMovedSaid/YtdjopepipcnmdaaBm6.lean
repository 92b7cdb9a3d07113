/- Proved here: BlendMoved returns true for every argument; no conditions but that integers are ints. -/
import Derived.Test.YtdjopepipcnmdaaBn2
import Derived.Deep.RegionHeld3
namespace Go.Proofs.Ytdjopepipcnmdaa
open Go.RowKit
set_option linter.unusedVariables false
set_option linter.unusedSimpArgs false
structure MvI (w0 : World) (a0 a1 a2 c0 c1 c2 b0 b1 b2 d0 d1 d2 x0 x1 x2 y0 y1 y2 z0 z1 z2 : Int) (A : Act) (g0 g1 g2 : Nat) (L : Nat → Bool) (a : Act) (w : World) : Prop where
  off : OffOf [22, 23, 24, 25, 26, 27, 28, 29, 30, 11, 12, 13] A a
  lf : Lf w0.heap.size (w0.heap.size + 1 + 1 + 1 + 1) [(⟨w0.heap.size, 0, none⟩, .int .i64 a0), (⟨w0.heap.size, 1, none⟩, .int .i64 a1), (⟨w0.heap.size, 2, none⟩, .int .i64 a2), (⟨w0.heap.size + 1, 0, none⟩, .int .i64 c0), (⟨w0.heap.size + 1, 1, none⟩, .int .i64 c1), (⟨w0.heap.size + 1, 2, none⟩, .int .i64 c2), (⟨w0.heap.size + 1 + 1, 0, none⟩, .int .i64 b0), (⟨w0.heap.size + 1 + 1, 1, none⟩, .int .i64 b1), (⟨w0.heap.size + 1 + 1, 2, none⟩, .int .i64 b2), (⟨w0.heap.size + 1 + 1 + 1, 0, none⟩, .int .i64 d0), (⟨w0.heap.size + 1 + 1 + 1, 1, none⟩, .int .i64 d1), (⟨w0.heap.size + 1 + 1 + 1, 2, none⟩, .int .i64 d2)] w0 w
  kv0 : L 0 = true → a.tmps[22]? = some (.agg #[.int .i64 a0, .int .i64 a1, .int .i64 a2])
  kv1 : L 1 = true → a.tmps[23]? = some (.agg #[.int .i64 d0, .int .i64 d1, .int .i64 d2])
  kv2 : L 2 = true → a.tmps[24]? = some (.agg #[.int .i64 x0, .int .i64 x1, .int .i64 x2])
  kv3 : L 3 = true → a.tmps[25]? = some (.agg #[.int .i64 c0, .int .i64 c1, .int .i64 c2])
  kv4 : L 4 = true → a.tmps[26]? = some (.agg #[.int .i64 d0, .int .i64 d1, .int .i64 d2])
  kv5 : L 5 = true → a.tmps[27]? = some (.agg #[.int .i64 y0, .int .i64 y1, .int .i64 y2])
  kv6 : L 6 = true → a.tmps[28]? = some (.agg #[.int .i64 b0, .int .i64 b1, .int .i64 b2])
  kv7 : L 7 = true → a.tmps[29]? = some (.agg #[.int .i64 d0, .int .i64 d1, .int .i64 d2])
  kv8 : L 8 = true → a.tmps[30]? = some (.agg #[.int .i64 z0, .int .i64 z1, .int .i64 z2])
  kp0 : L 9 = true → a.tmps[11]? = some (.pointer (some ⟨g0, 0, none⟩))
  kn0 : L 9 = true → (w0.heap.size + 1 + 1 + 1 + 1) ≤ g0 ∧ Row g0 3 0 (fun i => .int .i64 (cp x0 x1 x2 i)) w
  ks0 : L 12 = true → Row g0 3 3 (fun i => .int .i64 (cp x0 x1 x2 i)) w
  kd0 : L 12 = true → L 9 = true
  kp1 : L 10 = true → a.tmps[12]? = some (.pointer (some ⟨g1, 0, none⟩))
  kn1 : L 10 = true → (w0.heap.size + 1 + 1 + 1 + 1) ≤ g1 ∧ Row g1 3 0 (fun i => .int .i64 (cp y0 y1 y2 i)) w
  ks1 : L 13 = true → Row g1 3 3 (fun i => .int .i64 (cp y0 y1 y2 i)) w
  kd1 : L 13 = true → L 10 = true
  kp2 : L 11 = true → a.tmps[13]? = some (.pointer (some ⟨g2, 0, none⟩))
  kn2 : L 11 = true → (w0.heap.size + 1 + 1 + 1 + 1) ≤ g2 ∧ Row g2 3 0 (fun i => .int .i64 (cp z0 z1 z2 i)) w
  ks2 : L 14 = true → Row g2 3 3 (fun i => .int .i64 (cp z0 z1 z2 i)) w
  kd2 : L 14 = true → L 11 = true
  ke01 : L 9 = true → L 10 = true → g0 ≠ g1
  ke02 : L 9 = true → L 11 = true → g0 ≠ g2
  ke12 : L 10 = true → L 11 = true → g1 ≠ g2
theorem lf_three {B N : Nat} {cs : List (Addr × Value)} {w0 w : World} {g0 g1 g2 : Nat} {x0 x1 x2 y0 y1 y2 z0 z1 z2 : Int} (h : Lf B N cs w0 w) (r0 : Row g0 3 3 (fun i => .int .i64 (cp x0 x1 x2 i)) w) (r1 : Row g1 3 3 (fun i => .int .i64 (cp y0 y1 y2 i)) w) (r2 : Row g2 3 3 (fun i => .int .i64 (cp z0 z1 z2 i)) w) :
    Lf B w.heap.size ((⟨g0, 0, none⟩, .int .i64 x0) :: (⟨g0, 1, none⟩, .int .i64 x1) :: (⟨g0, 2, none⟩, .int .i64 x2) :: (⟨g1, 0, none⟩, .int .i64 y0) :: (⟨g1, 1, none⟩, .int .i64 y1) :: (⟨g1, 2, none⟩, .int .i64 y2) :: (⟨g2, 0, none⟩, .int .i64 z0) :: (⟨g2, 1, none⟩, .int .i64 z1) :: (⟨g2, 2, none⟩, .int .i64 z2) :: cs) w0 w := by
  refine ⟨?_, ?_, ?_, Nat.le_refl _, h.be, Nat.le_trans h.le h.lt⟩
  · simp only [List.forall_mem_cons]
    exact ⟨r0.cell 0 (by decide), r0.cell 1 (by decide), r0.cell 2 (by decide), r1.cell 0 (by decide), r1.cell 1 (by decide), r1.cell 2 (by decide), r2.cell 0 (by decide), r2.cell 1 (by decide), r2.cell 2 (by decide), h.cells⟩
  · simp only [List.forall_mem_cons]
    exact ⟨r0.frz 0 (by decide), r0.frz 1 (by decide), r0.frz 2 (by decide), r1.frz 0 (by decide), r1.frz 1 (by decide), r1.frz 2 (by decide), r2.frz 0 (by decide), r2.frz 1 (by decide), r2.frz 2 (by decide), h.frz⟩
  · simp only [List.forall_mem_cons]
    exact ⟨r0.lt, r0.lt, r0.lt, r1.lt, r1.lt, r1.lt, r2.lt, r2.lt, r2.lt, fun p hp => Nat.lt_of_lt_of_le (h.inn p hp) h.lt⟩
theorem S21 {w w' : World} {M g0 g1 g2 : Nat} {a0 a1 a2 c0 c1 c2 b0 b1 b2 d0 d1 d2 x0 x1 x2 y0 y1 y2 z0 z1 z2 : Int} (h : Lf w.heap.size M [(⟨g0, 0, none⟩, .int .i64 x0), (⟨g0, 1, none⟩, .int .i64 x1), (⟨g0, 2, none⟩, .int .i64 x2), (⟨g1, 0, none⟩, .int .i64 y0), (⟨g1, 1, none⟩, .int .i64 y1), (⟨g1, 2, none⟩, .int .i64 y2), (⟨g2, 0, none⟩, .int .i64 z0), (⟨g2, 1, none⟩, .int .i64 z1), (⟨g2, 2, none⟩, .int .i64 z2), (⟨w.heap.size, 0, none⟩, .int .i64 a0), (⟨w.heap.size, 1, none⟩, .int .i64 a1), (⟨w.heap.size, 2, none⟩, .int .i64 a2), (⟨w.heap.size + 1, 0, none⟩, .int .i64 c0), (⟨w.heap.size + 1, 1, none⟩, .int .i64 c1), (⟨w.heap.size + 1, 2, none⟩, .int .i64 c2), (⟨w.heap.size + 1 + 1, 0, none⟩, .int .i64 b0), (⟨w.heap.size + 1 + 1, 1, none⟩, .int .i64 b1), (⟨w.heap.size + 1 + 1, 2, none⟩, .int .i64 b2), (⟨w.heap.size + 1 + 1 + 1, 0, none⟩, .int .i64 d0), (⟨w.heap.size + 1 + 1 + 1, 1, none⟩, .int .i64 d1), (⟨w.heap.size + 1 + 1 + 1, 2, none⟩, .int .i64 d2)] w w') : w'.cell? ⟨g0, 0, none⟩ = some (.int .i64 x0) ∧ w'.cell? ⟨g0, 1, none⟩ = some (.int .i64 x1) ∧ w'.cell? ⟨g0, 2, none⟩ = some (.int .i64 x2) ∧ w'.cell? ⟨g1, 0, none⟩ = some (.int .i64 y0) ∧ w'.cell? ⟨g1, 1, none⟩ = some (.int .i64 y1) ∧ w'.cell? ⟨g1, 2, none⟩ = some (.int .i64 y2) ∧ w'.cell? ⟨g2, 0, none⟩ = some (.int .i64 z0) ∧ w'.cell? ⟨g2, 1, none⟩ = some (.int .i64 z1) ∧ w'.cell? ⟨g2, 2, none⟩ = some (.int .i64 z2) ∧ w'.cell? ⟨w.heap.size, 0, none⟩ = some (.int .i64 a0) ∧ w'.cell? ⟨w.heap.size, 1, none⟩ = some (.int .i64 a1) ∧ w'.cell? ⟨w.heap.size, 2, none⟩ = some (.int .i64 a2) ∧ w'.cell? ⟨w.heap.size + 1, 0, none⟩ = some (.int .i64 c0) ∧ w'.cell? ⟨w.heap.size + 1, 1, none⟩ = some (.int .i64 c1) ∧ w'.cell? ⟨w.heap.size + 1, 2, none⟩ = some (.int .i64 c2) ∧ w'.cell? ⟨w.heap.size + 1 + 1, 0, none⟩ = some (.int .i64 b0) ∧ w'.cell? ⟨w.heap.size + 1 + 1, 1, none⟩ = some (.int .i64 b1) ∧ w'.cell? ⟨w.heap.size + 1 + 1, 2, none⟩ = some (.int .i64 b2) ∧ w'.cell? ⟨w.heap.size + 1 + 1 + 1, 0, none⟩ = some (.int .i64 d0) ∧ w'.cell? ⟨w.heap.size + 1 + 1 + 1, 1, none⟩ = some (.int .i64 d1) ∧ w'.cell? ⟨w.heap.size + 1 + 1 + 1, 2, none⟩ = some (.int .i64 d2) ∧ Lf w.heap.size M [(⟨g0, 0, none⟩, .int .i64 x0), (⟨g0, 1, none⟩, .int .i64 x1), (⟨g0, 2, none⟩, .int .i64 x2), (⟨g1, 0, none⟩, .int .i64 y0), (⟨g1, 1, none⟩, .int .i64 y1), (⟨g1, 2, none⟩, .int .i64 y2), (⟨g2, 0, none⟩, .int .i64 z0), (⟨g2, 1, none⟩, .int .i64 z1), (⟨g2, 2, none⟩, .int .i64 z2), (⟨w.heap.size, 0, none⟩, .int .i64 a0), (⟨w.heap.size, 1, none⟩, .int .i64 a1), (⟨w.heap.size, 2, none⟩, .int .i64 a2), (⟨w.heap.size + 1, 0, none⟩, .int .i64 c0), (⟨w.heap.size + 1, 1, none⟩, .int .i64 c1), (⟨w.heap.size + 1, 2, none⟩, .int .i64 c2), (⟨w.heap.size + 1 + 1, 0, none⟩, .int .i64 b0), (⟨w.heap.size + 1 + 1, 1, none⟩, .int .i64 b1), (⟨w.heap.size + 1 + 1, 2, none⟩, .int .i64 b2), (⟨w.heap.size + 1 + 1 + 1, 0, none⟩, .int .i64 d0), (⟨w.heap.size + 1 + 1 + 1, 1, none⟩, .int .i64 d1), (⟨w.heap.size + 1 + 1 + 1, 2, none⟩, .int .i64 d2)] w w' := by
  have kc := h.cells
  simp only [List.forall_mem_cons, List.not_mem_nil, false_implies, implies_true, and_true] at kc
  obtain ⟨y0', y1', y2', y3', y4', y5', y6', y7', y8', y9', y10', y11', y12', y13', y14', y15', y16', y17', y18', y19', y20'⟩ := kc
  exact ⟨y0', y1', y2', y3', y4', y5', y6', y7', y8', y9', y10', y11', y12', y13', y14', y15', y16', y17', y18', y19', y20', h⟩
set_option maxHeartbeats 16000000 in
set_option maxRecDepth 20000 in
theorem law_BlendMoved (a0 a1 a2 c0 c1 c2 b0 b1 b2 d0 d1 d2 tol : Int) (w : World) (la0 : -9223372036854775808 ≤ a0) (ua0 : a0 ≤ 9223372036854775807) (la1 : -9223372036854775808 ≤ a1) (ua1 : a1 ≤ 9223372036854775807) (la2 : -9223372036854775808 ≤ a2) (ua2 : a2 ≤ 9223372036854775807) (lc0 : -9223372036854775808 ≤ c0) (uc0 : c0 ≤ 9223372036854775807) (lc1 : -9223372036854775808 ≤ c1) (uc1 : c1 ≤ 9223372036854775807) (lc2 : -9223372036854775808 ≤ c2) (uc2 : c2 ≤ 9223372036854775807) (lb0 : -9223372036854775808 ≤ b0) (ub0 : b0 ≤ 9223372036854775807) (lb1 : -9223372036854775808 ≤ b1) (ub1 : b1 ≤ 9223372036854775807) (lb2 : -9223372036854775808 ≤ b2) (ub2 : b2 ≤ 9223372036854775807) (ld0 : -9223372036854775808 ≤ d0) (ud0 : d0 ≤ 9223372036854775807) (ld1 : -9223372036854775808 ≤ d1) (ud1 : d1 ≤ 9223372036854775807) (ld2 : -9223372036854775808 ≤ d2) (ud2 : d2 ≤ 9223372036854775807) (ltol : -9223372036854775808 ≤ tol) (utol : tol ≤ 9223372036854775807) :
    Calls Try.prog 11 #[.agg #[.int .i64 a0, .int .i64 a1, .int .i64 a2], .agg #[.int .i64 c0, .int .i64 c1, .int .i64 c2], .agg #[.int .i64 b0, .int .i64 b1, .int .i64 b2], .agg #[.int .i64 d0, .int .i64 d1, .int .i64 d2], .int .i64 tol] w fun e w' => e = .returned (.bool true) ∧ Below w.heap.size w w' := by
  have SD := fun w => Lib.hid (Small_any d0 d1 d2 w)
  have S0 := fun w => Lib.hid (small3_any a0 a1 a2 c0 c1 c2 b0 b1 b2 tol w)
  have AX := fun w => Lib.hid (addW_any a0 a1 a2 d0 d1 d2 w)
  have AY := fun w => Lib.hid (addW_any c0 c1 c2 d0 d1 d2 w)
  have AZ := fun w => Lib.hid (addW_any b0 b1 b2 d0 d1 d2 w)
  obtain ⟨x0, hx0⟩ : ∃ v, wrap64 (a0 + d0) = v := ⟨_, rfl⟩
  rw [hx0] at AX
  obtain ⟨x1, hx1⟩ : ∃ v, wrap64 (a1 + d1) = v := ⟨_, rfl⟩
  rw [hx1] at AX
  obtain ⟨x2, hx2⟩ : ∃ v, wrap64 (a2 + d2) = v := ⟨_, rfl⟩
  rw [hx2] at AX
  obtain ⟨y0, hy0⟩ : ∃ v, wrap64 (c0 + d0) = v := ⟨_, rfl⟩
  rw [hy0] at AY
  obtain ⟨y1, hy1⟩ : ∃ v, wrap64 (c1 + d1) = v := ⟨_, rfl⟩
  rw [hy1] at AY
  obtain ⟨y2, hy2⟩ : ∃ v, wrap64 (c2 + d2) = v := ⟨_, rfl⟩
  rw [hy2] at AY
  obtain ⟨z0, hz0⟩ : ∃ v, wrap64 (b0 + d0) = v := ⟨_, rfl⟩
  rw [hz0] at AZ
  obtain ⟨z1, hz1⟩ : ∃ v, wrap64 (b1 + d1) = v := ⟨_, rfl⟩
  rw [hz1] at AZ
  obtain ⟨z2, hz2⟩ : ∃ v, wrap64 (b2 + d2) = v := ⟨_, rfl⟩
  rw [hz2] at AZ
  have S1 := fun w => Lib.hid (small3_any x0 x1 x2 y0 y1 y2 z0 z1 z2 tol w)
  clear la0 ua0 la1 ua1 la2 ua2 lc0 uc0 lc1 uc1 lc2 uc2 lb0 ub0 lb1 ub1 lb2 ub2 ld0 ud0 ld1 ud1 ld2 ud2 ltol utol
  have HX : Hid (smK a0 a1 a2 c0 c1 c2 b0 b1 b2 tol = true → smB 33554432 d0 d1 d2 = true → (x0 = a0 + d0 ∧ x1 = a1 + d1 ∧ x2 = a2 + d2) ∧ (y0 = c0 + d0 ∧ y1 = c1 + d1 ∧ y2 = c2 + d2) ∧ (z0 = b0 + d0 ∧ z1 = b1 + d1 ∧ z2 = b2 + d2)) := by
    show smK a0 a1 a2 c0 c1 c2 b0 b1 b2 tol = true → smB 33554432 d0 d1 d2 = true → _
    intro h1 h2
    obtain ⟨⟨p1, p2, p3, p4, p5, p6⟩, ⟨q1, q2, q3, q4, q5, q6⟩, ⟨r1, r2, r3, r4, r5, r6⟩, _, _⟩ := smK_t h1
    obtain ⟨t1, t2, t3, t4, t5, t6⟩ := smB_pk h2
    have e : ∀ n : Int, -9223372036854775808 ≤ n → n ≤ 9223372036854775807 → wrap64 n = n := fun n h1 h2 => by unfold wrap64; omega
    rw [e _ (by omega) (by omega)] at hx0 hx1 hx2 hy0 hy1 hy2 hz0 hz1 hz2
    exact ⟨⟨hx0.symm, hx1.symm, hx2.symm⟩, ⟨hy0.symm, hy1.symm, hy2.symm⟩, hz0.symm, hz1.symm, hz2.symm⟩
  clear hx0 hx1 hx2 hy0 hy1 hy2 hz0 hz1 hz2
  have hT0 : Lf w.heap.size (w.heap.size + 1 + 1 + 1 + 1) [(⟨w.heap.size, 0, none⟩, .int .i64 a0), (⟨w.heap.size, 1, none⟩, .int .i64 a1), (⟨w.heap.size, 2, none⟩, .int .i64 a2), (⟨w.heap.size + 1, 0, none⟩, .int .i64 c0), (⟨w.heap.size + 1, 1, none⟩, .int .i64 c1), (⟨w.heap.size + 1, 2, none⟩, .int .i64 c2), (⟨w.heap.size + 1 + 1, 0, none⟩, .int .i64 b0), (⟨w.heap.size + 1 + 1, 1, none⟩, .int .i64 b1), (⟨w.heap.size + 1 + 1, 2, none⟩, .int .i64 b2), (⟨w.heap.size + 1 + 1 + 1, 0, none⟩, .int .i64 d0), (⟨w.heap.size + 1 + 1 + 1, 1, none⟩, .int .i64 d1), (⟨w.heap.size + 1 + 1 + 1, 2, none⟩, .int .i64 d2)] w ((((w.alloc (.cells #[.int .i64 a0, .int .i64 a1, .int .i64 a2] 23)).alloc (.cells #[.int .i64 c0, .int .i64 c1, .int .i64 c2] 23)).alloc (.cells #[.int .i64 b0, .int .i64 b1, .int .i64 b2] 23)).alloc (.cells #[.int .i64 d0, .int .i64 d1, .int .i64 d2] 23)) := ⟨by simp [List.forall_mem_cons, go_sem], by simp [List.forall_mem_cons, go_sem], by simp [List.forall_mem_cons] <;> omega, by simp, by (repeat (first | exact Below.refl _ _ | assumption | refine Below.drew ?_ | (refine Below.alloc ?_ (by simp <;> omega) _) | (refine Below.setCell ?_ (by simp <;> omega) _))), by omega⟩
  cases hD : smB 33554432 d0 d1 d2
  · rw [hD] at SD
    clear hD
    go_enter Try.func11, Try.ntmps11
    go_wp2_with fail
    refine (awake_any _).mono ?_
    rintro e w1 ⟨rfl, hb1⟩
    have hT := hT0.next hb1
    clear hb1
    have kc := hT.cells
    have kf := hT.frz
    simp only [List.forall_mem_cons, List.not_mem_nil, false_implies, implies_true, and_true] at kc kf
    obtain ⟨yc0, yc1, yc2, yc3, yc4, yc5, yc6, yc7, yc8, yc9, yc10, yc11⟩ := kc
    obtain ⟨yf0, yf1, yf2, yf3, yf4, yf5, yf6, yf7, yf8, yf9, yf10, yf11⟩ := kf
    go_wp2_with fail
    refine (SD _).out.mono ?_
    rintro e w2 ⟨rfl, hb2⟩
    have hT := hT.next hb2
    go_wp2_with fail
    go_ret
    exact ⟨rfl, hT.be⟩
  rw [hD] at SD
  go_enter Try.func11, Try.ntmps11
  go_wp2_with fail
  refine (awake_any _).mono ?_
  rintro e w1 ⟨rfl, hb1⟩
  have hT := hT0.next hb1
  clear hb1 hT0
  have kc := hT.cells
  have kf := hT.frz
  simp only [List.forall_mem_cons, List.not_mem_nil, false_implies, implies_true, and_true] at kc kf
  obtain ⟨yc0, yc1, yc2, yc3, yc4, yc5, yc6, yc7, yc8, yc9, yc10, yc11⟩ := kc
  obtain ⟨yf0, yf1, yf2, yf3, yf4, yf5, yf6, yf7, yf8, yf9, yf10, yf11⟩ := kf
  go_wp2_with fail
  refine (SD _).out.mono ?_
  rintro e w2 ⟨rfl, hb2⟩
  have hT := hT.next hb2
  clear hb2 yc0 yf0 yc1 yf1 yc2 yf2 yc3 yf3 yc4 yf4 yc5 yf5 yc6 yf6 yc7 yf7 yc8 yf8 yc9 yf9 yc10 yf10 yc11 yf11 SD
  go_upto_region 5 with fail
  generalize hA : (Act.mk _ _) = A
  have hsz : A.tmps.size = 77 := by rw [← hA]; rfl
  have hA5 : A.tmps[5]? = some (.pointer (some ⟨w.heap.size, 0, none⟩)) := by rw [← hA]; rfl
  have hA6 : A.tmps[6]? = some (.pointer (some ⟨w.heap.size + 1, 0, none⟩)) := by rw [← hA]; rfl
  have hA7 : A.tmps[7]? = some (.pointer (some ⟨w.heap.size + 1 + 1, 0, none⟩)) := by rw [← hA]; rfl
  have hA8 : A.tmps[8]? = some (.pointer (some ⟨w.heap.size + 1 + 1 + 1, 0, none⟩)) := by rw [← hA]; rfl
  have HA := Lib.hid hA
  clear hA
  refine wp_region_inv (fun L a wx => ∃ g0 g1 g2, MvI w a0 a1 a2 c0 c1 c2 b0 b1 b2 d0 d1 d2 x0 x1 x2 y0 y1 y2 z0 z1 z2 A g0 g1 g2 L a wx) (by kernel_rfl) (by kernel_rfl) ?_ ?_ ?_
  · exact ⟨0, 0, 0, by constructor <;> first | exact OffOf.refl _ _ | exact hT.next (Below.refl _ _).drew | (intro h; exact nomatch h) | (intro h h'; exact nomatch h)⟩
  · clear hT
    intro i o ho L a wx hI hLi hdeps K hK
    obtain ⟨g0, g1, g2, h⟩ := hI
    match i, ho, hLi, hK with
    | 0, ho, hLi, hK =>
      cases ho
      have ea := (h.off.off 5 (by decide)).trans hA5
      have kc := h.lf.cells
      simp only [List.forall_mem_cons, List.not_mem_nil, false_implies, implies_true, and_true] at kc
      obtain ⟨yc0, yc1, yc2, yc3, yc4, yc5, yc6, yc7, yc8, yc9, yc10, yc11⟩ := kc
      go_simp
      exact hK _ _ ⟨g0, g1, g2, { off := h.off.put (by decide) _, lf := h.lf, kv0 := fun _ => put_at _ (by have := h.off.size; omega), kv1 := fun q => put_ne _ (by decide) (h.kv1 (by simpa using q)), kv2 := fun q => put_ne _ (by decide) (h.kv2 (by simpa using q)), kv3 := fun q => put_ne _ (by decide) (h.kv3 (by simpa using q)), kv4 := fun q => put_ne _ (by decide) (h.kv4 (by simpa using q)), kv5 := fun q => put_ne _ (by decide) (h.kv5 (by simpa using q)), kv6 := fun q => put_ne _ (by decide) (h.kv6 (by simpa using q)), kv7 := fun q => put_ne _ (by decide) (h.kv7 (by simpa using q)), kv8 := fun q => put_ne _ (by decide) (h.kv8 (by simpa using q)), kp0 := fun q => put_ne _ (by decide) (h.kp0 (by simpa using q)), kn0 := fun q => h.kn0 (by simpa using q), ks0 := fun q => h.ks0 (by simpa using q), kd0 := fun q => by simpa using h.kd0 (by simpa using q), kp1 := fun q => put_ne _ (by decide) (h.kp1 (by simpa using q)), kn1 := fun q => h.kn1 (by simpa using q), ks1 := fun q => h.ks1 (by simpa using q), kd1 := fun q => by simpa using h.kd1 (by simpa using q), kp2 := fun q => put_ne _ (by decide) (h.kp2 (by simpa using q)), kn2 := fun q => h.kn2 (by simpa using q), ks2 := fun q => h.ks2 (by simpa using q), kd2 := fun q => by simpa using h.kd2 (by simpa using q), ke01 := fun q r => h.ke01 (by simpa using q) (by simpa using r), ke02 := fun q r => h.ke02 (by simpa using q) (by simpa using r), ke12 := fun q r => h.ke12 (by simpa using q) (by simpa using r) }⟩
    | 1, ho, hLi, hK =>
      cases ho
      have ea := (h.off.off 8 (by decide)).trans hA8
      have kc := h.lf.cells
      simp only [List.forall_mem_cons, List.not_mem_nil, false_implies, implies_true, and_true] at kc
      obtain ⟨yc0, yc1, yc2, yc3, yc4, yc5, yc6, yc7, yc8, yc9, yc10, yc11⟩ := kc
      go_simp
      exact hK _ _ ⟨g0, g1, g2, { off := h.off.put (by decide) _, lf := h.lf, kv0 := fun q => put_ne _ (by decide) (h.kv0 (by simpa using q)), kv1 := fun _ => put_at _ (by have := h.off.size; omega), kv2 := fun q => put_ne _ (by decide) (h.kv2 (by simpa using q)), kv3 := fun q => put_ne _ (by decide) (h.kv3 (by simpa using q)), kv4 := fun q => put_ne _ (by decide) (h.kv4 (by simpa using q)), kv5 := fun q => put_ne _ (by decide) (h.kv5 (by simpa using q)), kv6 := fun q => put_ne _ (by decide) (h.kv6 (by simpa using q)), kv7 := fun q => put_ne _ (by decide) (h.kv7 (by simpa using q)), kv8 := fun q => put_ne _ (by decide) (h.kv8 (by simpa using q)), kp0 := fun q => put_ne _ (by decide) (h.kp0 (by simpa using q)), kn0 := fun q => h.kn0 (by simpa using q), ks0 := fun q => h.ks0 (by simpa using q), kd0 := fun q => by simpa using h.kd0 (by simpa using q), kp1 := fun q => put_ne _ (by decide) (h.kp1 (by simpa using q)), kn1 := fun q => h.kn1 (by simpa using q), ks1 := fun q => h.ks1 (by simpa using q), kd1 := fun q => by simpa using h.kd1 (by simpa using q), kp2 := fun q => put_ne _ (by decide) (h.kp2 (by simpa using q)), kn2 := fun q => h.kn2 (by simpa using q), ks2 := fun q => h.ks2 (by simpa using q), kd2 := fun q => by simpa using h.kd2 (by simpa using q), ke01 := fun q r => h.ke01 (by simpa using q) (by simpa using r), ke02 := fun q r => h.ke02 (by simpa using q) (by simpa using r), ke12 := fun q r => h.ke12 (by simpa using q) (by simpa using r) }⟩
    | 2, ho, hLi, hK =>
      cases ho
      have ea := h.kv0 (hdeps ⟨0, .data⟩ (by simp) (by rfl))
      have eb := h.kv1 (hdeps ⟨1, .data⟩ (by simp) (by rfl))
      go_simp
      refine (AX _).out.mono ?_
      rintro e w2 ⟨rfl, hb⟩
      exact hK _ _ ⟨g0, g1, g2, { off := h.off.put (by decide) _, lf := h.lf.next hb, kv0 := fun q => put_ne _ (by decide) (h.kv0 (by simpa using q)), kv1 := fun q => put_ne _ (by decide) (h.kv1 (by simpa using q)), kv2 := fun _ => put_at _ (by have := h.off.size; omega), kv3 := fun q => put_ne _ (by decide) (h.kv3 (by simpa using q)), kv4 := fun q => put_ne _ (by decide) (h.kv4 (by simpa using q)), kv5 := fun q => put_ne _ (by decide) (h.kv5 (by simpa using q)), kv6 := fun q => put_ne _ (by decide) (h.kv6 (by simpa using q)), kv7 := fun q => put_ne _ (by decide) (h.kv7 (by simpa using q)), kv8 := fun q => put_ne _ (by decide) (h.kv8 (by simpa using q)), kp0 := fun q => put_ne _ (by decide) (h.kp0 (by simpa using q)), kn0 := fun q => ⟨(h.kn0 (by simpa using q)).1, ((h.kn0 (by simpa using q)).2).next hb⟩, ks0 := fun q => (h.ks0 (by simpa using q)).next hb, kd0 := fun q => by simpa using h.kd0 (by simpa using q), kp1 := fun q => put_ne _ (by decide) (h.kp1 (by simpa using q)), kn1 := fun q => ⟨(h.kn1 (by simpa using q)).1, ((h.kn1 (by simpa using q)).2).next hb⟩, ks1 := fun q => (h.ks1 (by simpa using q)).next hb, kd1 := fun q => by simpa using h.kd1 (by simpa using q), kp2 := fun q => put_ne _ (by decide) (h.kp2 (by simpa using q)), kn2 := fun q => ⟨(h.kn2 (by simpa using q)).1, ((h.kn2 (by simpa using q)).2).next hb⟩, ks2 := fun q => (h.ks2 (by simpa using q)).next hb, kd2 := fun q => by simpa using h.kd2 (by simpa using q), ke01 := fun q r => h.ke01 (by simpa using q) (by simpa using r), ke02 := fun q r => h.ke02 (by simpa using q) (by simpa using r), ke12 := fun q r => h.ke12 (by simpa using q) (by simpa using r) }⟩
    | 3, ho, hLi, hK =>
      cases ho
      have ea := (h.off.off 6 (by decide)).trans hA6
      have kc := h.lf.cells
      simp only [List.forall_mem_cons, List.not_mem_nil, false_implies, implies_true, and_true] at kc
      obtain ⟨yc0, yc1, yc2, yc3, yc4, yc5, yc6, yc7, yc8, yc9, yc10, yc11⟩ := kc
      go_simp
      exact hK _ _ ⟨g0, g1, g2, { off := h.off.put (by decide) _, lf := h.lf, kv0 := fun q => put_ne _ (by decide) (h.kv0 (by simpa using q)), kv1 := fun q => put_ne _ (by decide) (h.kv1 (by simpa using q)), kv2 := fun q => put_ne _ (by decide) (h.kv2 (by simpa using q)), kv3 := fun _ => put_at _ (by have := h.off.size; omega), kv4 := fun q => put_ne _ (by decide) (h.kv4 (by simpa using q)), kv5 := fun q => put_ne _ (by decide) (h.kv5 (by simpa using q)), kv6 := fun q => put_ne _ (by decide) (h.kv6 (by simpa using q)), kv7 := fun q => put_ne _ (by decide) (h.kv7 (by simpa using q)), kv8 := fun q => put_ne _ (by decide) (h.kv8 (by simpa using q)), kp0 := fun q => put_ne _ (by decide) (h.kp0 (by simpa using q)), kn0 := fun q => h.kn0 (by simpa using q), ks0 := fun q => h.ks0 (by simpa using q), kd0 := fun q => by simpa using h.kd0 (by simpa using q), kp1 := fun q => put_ne _ (by decide) (h.kp1 (by simpa using q)), kn1 := fun q => h.kn1 (by simpa using q), ks1 := fun q => h.ks1 (by simpa using q), kd1 := fun q => by simpa using h.kd1 (by simpa using q), kp2 := fun q => put_ne _ (by decide) (h.kp2 (by simpa using q)), kn2 := fun q => h.kn2 (by simpa using q), ks2 := fun q => h.ks2 (by simpa using q), kd2 := fun q => by simpa using h.kd2 (by simpa using q), ke01 := fun q r => h.ke01 (by simpa using q) (by simpa using r), ke02 := fun q r => h.ke02 (by simpa using q) (by simpa using r), ke12 := fun q r => h.ke12 (by simpa using q) (by simpa using r) }⟩
    | 4, ho, hLi, hK =>
      cases ho
      have ea := (h.off.off 8 (by decide)).trans hA8
      have kc := h.lf.cells
      simp only [List.forall_mem_cons, List.not_mem_nil, false_implies, implies_true, and_true] at kc
      obtain ⟨yc0, yc1, yc2, yc3, yc4, yc5, yc6, yc7, yc8, yc9, yc10, yc11⟩ := kc
      go_simp
      exact hK _ _ ⟨g0, g1, g2, { off := h.off.put (by decide) _, lf := h.lf, kv0 := fun q => put_ne _ (by decide) (h.kv0 (by simpa using q)), kv1 := fun q => put_ne _ (by decide) (h.kv1 (by simpa using q)), kv2 := fun q => put_ne _ (by decide) (h.kv2 (by simpa using q)), kv3 := fun q => put_ne _ (by decide) (h.kv3 (by simpa using q)), kv4 := fun _ => put_at _ (by have := h.off.size; omega), kv5 := fun q => put_ne _ (by decide) (h.kv5 (by simpa using q)), kv6 := fun q => put_ne _ (by decide) (h.kv6 (by simpa using q)), kv7 := fun q => put_ne _ (by decide) (h.kv7 (by simpa using q)), kv8 := fun q => put_ne _ (by decide) (h.kv8 (by simpa using q)), kp0 := fun q => put_ne _ (by decide) (h.kp0 (by simpa using q)), kn0 := fun q => h.kn0 (by simpa using q), ks0 := fun q => h.ks0 (by simpa using q), kd0 := fun q => by simpa using h.kd0 (by simpa using q), kp1 := fun q => put_ne _ (by decide) (h.kp1 (by simpa using q)), kn1 := fun q => h.kn1 (by simpa using q), ks1 := fun q => h.ks1 (by simpa using q), kd1 := fun q => by simpa using h.kd1 (by simpa using q), kp2 := fun q => put_ne _ (by decide) (h.kp2 (by simpa using q)), kn2 := fun q => h.kn2 (by simpa using q), ks2 := fun q => h.ks2 (by simpa using q), kd2 := fun q => by simpa using h.kd2 (by simpa using q), ke01 := fun q r => h.ke01 (by simpa using q) (by simpa using r), ke02 := fun q r => h.ke02 (by simpa using q) (by simpa using r), ke12 := fun q r => h.ke12 (by simpa using q) (by simpa using r) }⟩
    | 5, ho, hLi, hK =>
      cases ho
      have ea := h.kv3 (hdeps ⟨3, .data⟩ (by simp) (by rfl))
      have eb := h.kv4 (hdeps ⟨4, .data⟩ (by simp) (by rfl))
      go_simp
      refine (AY _).out.mono ?_
      rintro e w2 ⟨rfl, hb⟩
      exact hK _ _ ⟨g0, g1, g2, { off := h.off.put (by decide) _, lf := h.lf.next hb, kv0 := fun q => put_ne _ (by decide) (h.kv0 (by simpa using q)), kv1 := fun q => put_ne _ (by decide) (h.kv1 (by simpa using q)), kv2 := fun q => put_ne _ (by decide) (h.kv2 (by simpa using q)), kv3 := fun q => put_ne _ (by decide) (h.kv3 (by simpa using q)), kv4 := fun q => put_ne _ (by decide) (h.kv4 (by simpa using q)), kv5 := fun _ => put_at _ (by have := h.off.size; omega), kv6 := fun q => put_ne _ (by decide) (h.kv6 (by simpa using q)), kv7 := fun q => put_ne _ (by decide) (h.kv7 (by simpa using q)), kv8 := fun q => put_ne _ (by decide) (h.kv8 (by simpa using q)), kp0 := fun q => put_ne _ (by decide) (h.kp0 (by simpa using q)), kn0 := fun q => ⟨(h.kn0 (by simpa using q)).1, ((h.kn0 (by simpa using q)).2).next hb⟩, ks0 := fun q => (h.ks0 (by simpa using q)).next hb, kd0 := fun q => by simpa using h.kd0 (by simpa using q), kp1 := fun q => put_ne _ (by decide) (h.kp1 (by simpa using q)), kn1 := fun q => ⟨(h.kn1 (by simpa using q)).1, ((h.kn1 (by simpa using q)).2).next hb⟩, ks1 := fun q => (h.ks1 (by simpa using q)).next hb, kd1 := fun q => by simpa using h.kd1 (by simpa using q), kp2 := fun q => put_ne _ (by decide) (h.kp2 (by simpa using q)), kn2 := fun q => ⟨(h.kn2 (by simpa using q)).1, ((h.kn2 (by simpa using q)).2).next hb⟩, ks2 := fun q => (h.ks2 (by simpa using q)).next hb, kd2 := fun q => by simpa using h.kd2 (by simpa using q), ke01 := fun q r => h.ke01 (by simpa using q) (by simpa using r), ke02 := fun q r => h.ke02 (by simpa using q) (by simpa using r), ke12 := fun q r => h.ke12 (by simpa using q) (by simpa using r) }⟩
    | 6, ho, hLi, hK =>
      cases ho
      have ea := (h.off.off 7 (by decide)).trans hA7
      have kc := h.lf.cells
      simp only [List.forall_mem_cons, List.not_mem_nil, false_implies, implies_true, and_true] at kc
      obtain ⟨yc0, yc1, yc2, yc3, yc4, yc5, yc6, yc7, yc8, yc9, yc10, yc11⟩ := kc
      go_simp
      exact hK _ _ ⟨g0, g1, g2, { off := h.off.put (by decide) _, lf := h.lf, kv0 := fun q => put_ne _ (by decide) (h.kv0 (by simpa using q)), kv1 := fun q => put_ne _ (by decide) (h.kv1 (by simpa using q)), kv2 := fun q => put_ne _ (by decide) (h.kv2 (by simpa using q)), kv3 := fun q => put_ne _ (by decide) (h.kv3 (by simpa using q)), kv4 := fun q => put_ne _ (by decide) (h.kv4 (by simpa using q)), kv5 := fun q => put_ne _ (by decide) (h.kv5 (by simpa using q)), kv6 := fun _ => put_at _ (by have := h.off.size; omega), kv7 := fun q => put_ne _ (by decide) (h.kv7 (by simpa using q)), kv8 := fun q => put_ne _ (by decide) (h.kv8 (by simpa using q)), kp0 := fun q => put_ne _ (by decide) (h.kp0 (by simpa using q)), kn0 := fun q => h.kn0 (by simpa using q), ks0 := fun q => h.ks0 (by simpa using q), kd0 := fun q => by simpa using h.kd0 (by simpa using q), kp1 := fun q => put_ne _ (by decide) (h.kp1 (by simpa using q)), kn1 := fun q => h.kn1 (by simpa using q), ks1 := fun q => h.ks1 (by simpa using q), kd1 := fun q => by simpa using h.kd1 (by simpa using q), kp2 := fun q => put_ne _ (by decide) (h.kp2 (by simpa using q)), kn2 := fun q => h.kn2 (by simpa using q), ks2 := fun q => h.ks2 (by simpa using q), kd2 := fun q => by simpa using h.kd2 (by simpa using q), ke01 := fun q r => h.ke01 (by simpa using q) (by simpa using r), ke02 := fun q r => h.ke02 (by simpa using q) (by simpa using r), ke12 := fun q r => h.ke12 (by simpa using q) (by simpa using r) }⟩
    | 7, ho, hLi, hK =>
      cases ho
      have ea := (h.off.off 8 (by decide)).trans hA8
      have kc := h.lf.cells
      simp only [List.forall_mem_cons, List.not_mem_nil, false_implies, implies_true, and_true] at kc
      obtain ⟨yc0, yc1, yc2, yc3, yc4, yc5, yc6, yc7, yc8, yc9, yc10, yc11⟩ := kc
      go_simp
      exact hK _ _ ⟨g0, g1, g2, { off := h.off.put (by decide) _, lf := h.lf, kv0 := fun q => put_ne _ (by decide) (h.kv0 (by simpa using q)), kv1 := fun q => put_ne _ (by decide) (h.kv1 (by simpa using q)), kv2 := fun q => put_ne _ (by decide) (h.kv2 (by simpa using q)), kv3 := fun q => put_ne _ (by decide) (h.kv3 (by simpa using q)), kv4 := fun q => put_ne _ (by decide) (h.kv4 (by simpa using q)), kv5 := fun q => put_ne _ (by decide) (h.kv5 (by simpa using q)), kv6 := fun q => put_ne _ (by decide) (h.kv6 (by simpa using q)), kv7 := fun _ => put_at _ (by have := h.off.size; omega), kv8 := fun q => put_ne _ (by decide) (h.kv8 (by simpa using q)), kp0 := fun q => put_ne _ (by decide) (h.kp0 (by simpa using q)), kn0 := fun q => h.kn0 (by simpa using q), ks0 := fun q => h.ks0 (by simpa using q), kd0 := fun q => by simpa using h.kd0 (by simpa using q), kp1 := fun q => put_ne _ (by decide) (h.kp1 (by simpa using q)), kn1 := fun q => h.kn1 (by simpa using q), ks1 := fun q => h.ks1 (by simpa using q), kd1 := fun q => by simpa using h.kd1 (by simpa using q), kp2 := fun q => put_ne _ (by decide) (h.kp2 (by simpa using q)), kn2 := fun q => h.kn2 (by simpa using q), ks2 := fun q => h.ks2 (by simpa using q), kd2 := fun q => by simpa using h.kd2 (by simpa using q), ke01 := fun q r => h.ke01 (by simpa using q) (by simpa using r), ke02 := fun q r => h.ke02 (by simpa using q) (by simpa using r), ke12 := fun q r => h.ke12 (by simpa using q) (by simpa using r) }⟩
    | 8, ho, hLi, hK =>
      cases ho
      have ea := h.kv6 (hdeps ⟨6, .data⟩ (by simp) (by rfl))
      have eb := h.kv7 (hdeps ⟨7, .data⟩ (by simp) (by rfl))
      go_simp
      refine (AZ _).out.mono ?_
      rintro e w2 ⟨rfl, hb⟩
      exact hK _ _ ⟨g0, g1, g2, { off := h.off.put (by decide) _, lf := h.lf.next hb, kv0 := fun q => put_ne _ (by decide) (h.kv0 (by simpa using q)), kv1 := fun q => put_ne _ (by decide) (h.kv1 (by simpa using q)), kv2 := fun q => put_ne _ (by decide) (h.kv2 (by simpa using q)), kv3 := fun q => put_ne _ (by decide) (h.kv3 (by simpa using q)), kv4 := fun q => put_ne _ (by decide) (h.kv4 (by simpa using q)), kv5 := fun q => put_ne _ (by decide) (h.kv5 (by simpa using q)), kv6 := fun q => put_ne _ (by decide) (h.kv6 (by simpa using q)), kv7 := fun q => put_ne _ (by decide) (h.kv7 (by simpa using q)), kv8 := fun _ => put_at _ (by have := h.off.size; omega), kp0 := fun q => put_ne _ (by decide) (h.kp0 (by simpa using q)), kn0 := fun q => ⟨(h.kn0 (by simpa using q)).1, ((h.kn0 (by simpa using q)).2).next hb⟩, ks0 := fun q => (h.ks0 (by simpa using q)).next hb, kd0 := fun q => by simpa using h.kd0 (by simpa using q), kp1 := fun q => put_ne _ (by decide) (h.kp1 (by simpa using q)), kn1 := fun q => ⟨(h.kn1 (by simpa using q)).1, ((h.kn1 (by simpa using q)).2).next hb⟩, ks1 := fun q => (h.ks1 (by simpa using q)).next hb, kd1 := fun q => by simpa using h.kd1 (by simpa using q), kp2 := fun q => put_ne _ (by decide) (h.kp2 (by simpa using q)), kn2 := fun q => ⟨(h.kn2 (by simpa using q)).1, ((h.kn2 (by simpa using q)).2).next hb⟩, ks2 := fun q => (h.ks2 (by simpa using q)).next hb, kd2 := fun q => by simpa using h.kd2 (by simpa using q), ke01 := fun q r => h.ke01 (by simpa using q) (by simpa using r), ke02 := fun q r => h.ke02 (by simpa using q) (by simpa using r), ke12 := fun q r => h.ke12 (by simpa using q) (by simpa using r) }⟩
    | 9, ho, hLi, hK =>
      cases ho
      go_simp
      exact hK _ _ ⟨wx.heap.size, g1, g2, { off := h.off.put (by decide) _, lf := h.lf.next ((Below.refl _ _).alloc (Nat.le_refl _) _), kv0 := fun q => put_ne _ (by decide) (h.kv0 (by simpa using q)), kv1 := fun q => put_ne _ (by decide) (h.kv1 (by simpa using q)), kv2 := fun q => put_ne _ (by decide) (h.kv2 (by simpa using q)), kv3 := fun q => put_ne _ (by decide) (h.kv3 (by simpa using q)), kv4 := fun q => put_ne _ (by decide) (h.kv4 (by simpa using q)), kv5 := fun q => put_ne _ (by decide) (h.kv5 (by simpa using q)), kv6 := fun q => put_ne _ (by decide) (h.kv6 (by simpa using q)), kv7 := fun q => put_ne _ (by decide) (h.kv7 (by simpa using q)), kv8 := fun q => put_ne _ (by decide) (h.kv8 (by simpa using q)), kp0 := fun _ => put_at _ (by have := h.off.size; omega), kn0 := fun _ => ⟨h.lf.lt, Row.fresh _ _ _ _ _ _⟩, ks0 := fun q => absurd (h.kd0 (by simpa using q)) (by simp [hLi]), kd0 := fun _ => by simp, kp1 := fun q => put_ne _ (by decide) (h.kp1 (by simpa using q)), kn1 := fun q => ⟨(h.kn1 (by simpa using q)).1, ((h.kn1 (by simpa using q)).2).next ((Below.refl _ _).alloc (Nat.le_refl _) _)⟩, ks1 := fun q => (h.ks1 (by simpa using q)).next ((Below.refl _ _).alloc (Nat.le_refl _) _), kd1 := fun q => by simpa using h.kd1 (by simpa using q), kp2 := fun q => put_ne _ (by decide) (h.kp2 (by simpa using q)), kn2 := fun q => ⟨(h.kn2 (by simpa using q)).1, ((h.kn2 (by simpa using q)).2).next ((Below.refl _ _).alloc (Nat.le_refl _) _)⟩, ks2 := fun q => (h.ks2 (by simpa using q)).next ((Below.refl _ _).alloc (Nat.le_refl _) _), kd2 := fun q => by simpa using h.kd2 (by simpa using q), ke01 := fun _ q => fun e => absurd (h.kn1 (by simpa using q)).2.lt (by omega), ke02 := fun _ q => fun e => absurd (h.kn2 (by simpa using q)).2.lt (by omega), ke12 := fun q r => h.ke12 (by simpa using q) (by simpa using r) }⟩
    | 10, ho, hLi, hK =>
      cases ho
      go_simp
      exact hK _ _ ⟨g0, wx.heap.size, g2, { off := h.off.put (by decide) _, lf := h.lf.next ((Below.refl _ _).alloc (Nat.le_refl _) _), kv0 := fun q => put_ne _ (by decide) (h.kv0 (by simpa using q)), kv1 := fun q => put_ne _ (by decide) (h.kv1 (by simpa using q)), kv2 := fun q => put_ne _ (by decide) (h.kv2 (by simpa using q)), kv3 := fun q => put_ne _ (by decide) (h.kv3 (by simpa using q)), kv4 := fun q => put_ne _ (by decide) (h.kv4 (by simpa using q)), kv5 := fun q => put_ne _ (by decide) (h.kv5 (by simpa using q)), kv6 := fun q => put_ne _ (by decide) (h.kv6 (by simpa using q)), kv7 := fun q => put_ne _ (by decide) (h.kv7 (by simpa using q)), kv8 := fun q => put_ne _ (by decide) (h.kv8 (by simpa using q)), kp0 := fun q => put_ne _ (by decide) (h.kp0 (by simpa using q)), kn0 := fun q => ⟨(h.kn0 (by simpa using q)).1, ((h.kn0 (by simpa using q)).2).next ((Below.refl _ _).alloc (Nat.le_refl _) _)⟩, ks0 := fun q => (h.ks0 (by simpa using q)).next ((Below.refl _ _).alloc (Nat.le_refl _) _), kd0 := fun q => by simpa using h.kd0 (by simpa using q), kp1 := fun _ => put_at _ (by have := h.off.size; omega), kn1 := fun _ => ⟨h.lf.lt, Row.fresh _ _ _ _ _ _⟩, ks1 := fun q => absurd (h.kd1 (by simpa using q)) (by simp [hLi]), kd1 := fun _ => by simp, kp2 := fun q => put_ne _ (by decide) (h.kp2 (by simpa using q)), kn2 := fun q => ⟨(h.kn2 (by simpa using q)).1, ((h.kn2 (by simpa using q)).2).next ((Below.refl _ _).alloc (Nat.le_refl _) _)⟩, ks2 := fun q => (h.ks2 (by simpa using q)).next ((Below.refl _ _).alloc (Nat.le_refl _) _), kd2 := fun q => by simpa using h.kd2 (by simpa using q), ke01 := fun q _ => fun e => absurd (h.kn0 (by simpa using q)).2.lt (by omega), ke02 := fun q r => h.ke02 (by simpa using q) (by simpa using r), ke12 := fun _ q => fun e => absurd (h.kn2 (by simpa using q)).2.lt (by omega) }⟩
    | 11, ho, hLi, hK =>
      cases ho
      go_simp
      exact hK _ _ ⟨g0, g1, wx.heap.size, { off := h.off.put (by decide) _, lf := h.lf.next ((Below.refl _ _).alloc (Nat.le_refl _) _), kv0 := fun q => put_ne _ (by decide) (h.kv0 (by simpa using q)), kv1 := fun q => put_ne _ (by decide) (h.kv1 (by simpa using q)), kv2 := fun q => put_ne _ (by decide) (h.kv2 (by simpa using q)), kv3 := fun q => put_ne _ (by decide) (h.kv3 (by simpa using q)), kv4 := fun q => put_ne _ (by decide) (h.kv4 (by simpa using q)), kv5 := fun q => put_ne _ (by decide) (h.kv5 (by simpa using q)), kv6 := fun q => put_ne _ (by decide) (h.kv6 (by simpa using q)), kv7 := fun q => put_ne _ (by decide) (h.kv7 (by simpa using q)), kv8 := fun q => put_ne _ (by decide) (h.kv8 (by simpa using q)), kp0 := fun q => put_ne _ (by decide) (h.kp0 (by simpa using q)), kn0 := fun q => ⟨(h.kn0 (by simpa using q)).1, ((h.kn0 (by simpa using q)).2).next ((Below.refl _ _).alloc (Nat.le_refl _) _)⟩, ks0 := fun q => (h.ks0 (by simpa using q)).next ((Below.refl _ _).alloc (Nat.le_refl _) _), kd0 := fun q => by simpa using h.kd0 (by simpa using q), kp1 := fun q => put_ne _ (by decide) (h.kp1 (by simpa using q)), kn1 := fun q => ⟨(h.kn1 (by simpa using q)).1, ((h.kn1 (by simpa using q)).2).next ((Below.refl _ _).alloc (Nat.le_refl _) _)⟩, ks1 := fun q => (h.ks1 (by simpa using q)).next ((Below.refl _ _).alloc (Nat.le_refl _) _), kd1 := fun q => by simpa using h.kd1 (by simpa using q), kp2 := fun _ => put_at _ (by have := h.off.size; omega), kn2 := fun _ => ⟨h.lf.lt, Row.fresh _ _ _ _ _ _⟩, ks2 := fun q => absurd (h.kd2 (by simpa using q)) (by simp [hLi]), kd2 := fun _ => by simp, ke01 := fun q r => h.ke01 (by simpa using q) (by simpa using r), ke02 := fun q _ => fun e => absurd (h.kn0 (by simpa using q)).2.lt (by omega), ke12 := fun q _ => fun e => absurd (h.kn1 (by simpa using q)).2.lt (by omega) }⟩
    | 12, ho, hLi, hK =>
      cases ho
      have hl := hdeps ⟨9, .data⟩ (by simp) (by rfl)
      have ea := h.kp0 hl
      have eb := h.kv2 (hdeps ⟨2, .data⟩ (by simp) (by rfl))
      obtain ⟨hN, hr⟩ := h.kn0 hl
      obtain ⟨u0, hu0⟩ := hr.ex 0 (by decide)
      obtain ⟨u1, hu1⟩ := hr.ex 1 (by decide)
      obtain ⟨u2, hu2⟩ := hr.ex 2 (by decide)
      have hf0 := hr.frz 0 (by decide)
      have hf1 := hr.frz 1 (by decide)
      have hf2 := hr.frz 2 (by decide)
      go_simp
      exact hK _ _ ⟨g0, g1, g2, { off := h.off, lf := ((h.lf.far _ _ _ hN).far _ _ _ hN).far _ _ _ hN, kv0 := fun q => h.kv0 (by simpa using q), kv1 := fun q => h.kv1 (by simpa using q), kv2 := fun q => h.kv2 (by simpa using q), kv3 := fun q => h.kv3 (by simpa using q), kv4 := fun q => h.kv4 (by simpa using q), kv5 := fun q => h.kv5 (by simpa using q), kv6 := fun q => h.kv6 (by simpa using q), kv7 := fun q => h.kv7 (by simpa using q), kv8 := fun q => h.kv8 (by simpa using q), kp0 := fun q => h.kp0 (by simpa using q), kn0 := fun q => ⟨hN, (((h.kn0 hl).2.put 0 _ (by decide) (by decide)).put 1 _ (by decide) (by decide)).put 2 _ (by decide) (by decide)⟩, ks0 := fun _ => (((h.kn0 hl).2.step _ (by decide) rfl).step _ (by decide) rfl).step _ (by decide) rfl, kd0 := fun _ => by simpa using hl, kp1 := fun q => h.kp1 (by simpa using q), kn1 := fun q => ⟨(h.kn1 (by simpa using q)).1, Row.other3 (h.kn1 (by simpa using q)).2 (fun e => h.ke01 hl (by simpa using q) e.symm) _ _ _⟩, ks1 := fun q => Row.other3 (h.ks1 (by simpa using q)) (fun e => h.ke01 hl (h.kd1 (by simpa using q)) e.symm) _ _ _, kd1 := fun q => by simpa using h.kd1 (by simpa using q), kp2 := fun q => h.kp2 (by simpa using q), kn2 := fun q => ⟨(h.kn2 (by simpa using q)).1, Row.other3 (h.kn2 (by simpa using q)).2 (fun e => h.ke02 hl (by simpa using q) e.symm) _ _ _⟩, ks2 := fun q => Row.other3 (h.ks2 (by simpa using q)) (fun e => h.ke02 hl (h.kd2 (by simpa using q)) e.symm) _ _ _, kd2 := fun q => by simpa using h.kd2 (by simpa using q), ke01 := fun q r => h.ke01 (by simpa using q) (by simpa using r), ke02 := fun q r => h.ke02 (by simpa using q) (by simpa using r), ke12 := fun q r => h.ke12 (by simpa using q) (by simpa using r) }⟩
    | 13, ho, hLi, hK =>
      cases ho
      have hl := hdeps ⟨10, .data⟩ (by simp) (by rfl)
      have ea := h.kp1 hl
      have eb := h.kv5 (hdeps ⟨5, .data⟩ (by simp) (by rfl))
      obtain ⟨hN, hr⟩ := h.kn1 hl
      obtain ⟨u0, hu0⟩ := hr.ex 0 (by decide)
      obtain ⟨u1, hu1⟩ := hr.ex 1 (by decide)
      obtain ⟨u2, hu2⟩ := hr.ex 2 (by decide)
      have hf0 := hr.frz 0 (by decide)
      have hf1 := hr.frz 1 (by decide)
      have hf2 := hr.frz 2 (by decide)
      go_simp
      exact hK _ _ ⟨g0, g1, g2, { off := h.off, lf := ((h.lf.far _ _ _ hN).far _ _ _ hN).far _ _ _ hN, kv0 := fun q => h.kv0 (by simpa using q), kv1 := fun q => h.kv1 (by simpa using q), kv2 := fun q => h.kv2 (by simpa using q), kv3 := fun q => h.kv3 (by simpa using q), kv4 := fun q => h.kv4 (by simpa using q), kv5 := fun q => h.kv5 (by simpa using q), kv6 := fun q => h.kv6 (by simpa using q), kv7 := fun q => h.kv7 (by simpa using q), kv8 := fun q => h.kv8 (by simpa using q), kp0 := fun q => h.kp0 (by simpa using q), kn0 := fun q => ⟨(h.kn0 (by simpa using q)).1, Row.other3 (h.kn0 (by simpa using q)).2 (h.ke01 (by simpa using q) hl) _ _ _⟩, ks0 := fun q => Row.other3 (h.ks0 (by simpa using q)) (h.ke01 (h.kd0 (by simpa using q)) hl) _ _ _, kd0 := fun q => by simpa using h.kd0 (by simpa using q), kp1 := fun q => h.kp1 (by simpa using q), kn1 := fun q => ⟨hN, (((h.kn1 hl).2.put 0 _ (by decide) (by decide)).put 1 _ (by decide) (by decide)).put 2 _ (by decide) (by decide)⟩, ks1 := fun _ => (((h.kn1 hl).2.step _ (by decide) rfl).step _ (by decide) rfl).step _ (by decide) rfl, kd1 := fun _ => by simpa using hl, kp2 := fun q => h.kp2 (by simpa using q), kn2 := fun q => ⟨(h.kn2 (by simpa using q)).1, Row.other3 (h.kn2 (by simpa using q)).2 (fun e => h.ke12 hl (by simpa using q) e.symm) _ _ _⟩, ks2 := fun q => Row.other3 (h.ks2 (by simpa using q)) (fun e => h.ke12 hl (h.kd2 (by simpa using q)) e.symm) _ _ _, kd2 := fun q => by simpa using h.kd2 (by simpa using q), ke01 := fun q r => h.ke01 (by simpa using q) (by simpa using r), ke02 := fun q r => h.ke02 (by simpa using q) (by simpa using r), ke12 := fun q r => h.ke12 (by simpa using q) (by simpa using r) }⟩
    | 14, ho, hLi, hK =>
      cases ho
      have hl := hdeps ⟨11, .data⟩ (by simp) (by rfl)
      have ea := h.kp2 hl
      have eb := h.kv8 (hdeps ⟨8, .data⟩ (by simp) (by rfl))
      obtain ⟨hN, hr⟩ := h.kn2 hl
      obtain ⟨u0, hu0⟩ := hr.ex 0 (by decide)
      obtain ⟨u1, hu1⟩ := hr.ex 1 (by decide)
      obtain ⟨u2, hu2⟩ := hr.ex 2 (by decide)
      have hf0 := hr.frz 0 (by decide)
      have hf1 := hr.frz 1 (by decide)
      have hf2 := hr.frz 2 (by decide)
      go_simp
      exact hK _ _ ⟨g0, g1, g2, { off := h.off, lf := ((h.lf.far _ _ _ hN).far _ _ _ hN).far _ _ _ hN, kv0 := fun q => h.kv0 (by simpa using q), kv1 := fun q => h.kv1 (by simpa using q), kv2 := fun q => h.kv2 (by simpa using q), kv3 := fun q => h.kv3 (by simpa using q), kv4 := fun q => h.kv4 (by simpa using q), kv5 := fun q => h.kv5 (by simpa using q), kv6 := fun q => h.kv6 (by simpa using q), kv7 := fun q => h.kv7 (by simpa using q), kv8 := fun q => h.kv8 (by simpa using q), kp0 := fun q => h.kp0 (by simpa using q), kn0 := fun q => ⟨(h.kn0 (by simpa using q)).1, Row.other3 (h.kn0 (by simpa using q)).2 (h.ke02 (by simpa using q) hl) _ _ _⟩, ks0 := fun q => Row.other3 (h.ks0 (by simpa using q)) (h.ke02 (h.kd0 (by simpa using q)) hl) _ _ _, kd0 := fun q => by simpa using h.kd0 (by simpa using q), kp1 := fun q => h.kp1 (by simpa using q), kn1 := fun q => ⟨(h.kn1 (by simpa using q)).1, Row.other3 (h.kn1 (by simpa using q)).2 (h.ke12 (by simpa using q) hl) _ _ _⟩, ks1 := fun q => Row.other3 (h.ks1 (by simpa using q)) (h.ke12 (h.kd1 (by simpa using q)) hl) _ _ _, kd1 := fun q => by simpa using h.kd1 (by simpa using q), kp2 := fun q => h.kp2 (by simpa using q), kn2 := fun q => ⟨hN, (((h.kn2 hl).2.put 0 _ (by decide) (by decide)).put 1 _ (by decide) (by decide)).put 2 _ (by decide) (by decide)⟩, ks2 := fun _ => (((h.kn2 hl).2.step _ (by decide) rfl).step _ (by decide) rfl).step _ (by decide) rfl, kd2 := fun _ => by simpa using hl, ke01 := fun q r => h.ke01 (by simpa using q) (by simpa using r), ke02 := fun q r => h.ke02 (by simpa using q) (by simpa using r), ke12 := fun q r => h.ke12 (by simpa using q) (by simpa using r) }⟩
    | n + 15, ho, hLi, hK => cases ho
  · clear hT
    intro L a wx hI hall
    obtain ⟨g0, g1, g2, h⟩ := hI
    have hfr := h.off.rebuild (fun d => if d = 22 then .agg #[.int .i64 a0, .int .i64 a1, .int .i64 a2] else if d = 23 then .agg #[.int .i64 d0, .int .i64 d1, .int .i64 d2] else if d = 24 then .agg #[.int .i64 x0, .int .i64 x1, .int .i64 x2] else if d = 25 then .agg #[.int .i64 c0, .int .i64 c1, .int .i64 c2] else if d = 26 then .agg #[.int .i64 d0, .int .i64 d1, .int .i64 d2] else if d = 27 then .agg #[.int .i64 y0, .int .i64 y1, .int .i64 y2] else if d = 28 then .agg #[.int .i64 b0, .int .i64 b1, .int .i64 b2] else if d = 29 then .agg #[.int .i64 d0, .int .i64 d1, .int .i64 d2] else if d = 30 then .agg #[.int .i64 z0, .int .i64 z1, .int .i64 z2] else if d = 11 then .pointer (some ⟨g0, 0, none⟩) else if d = 12 then .pointer (some ⟨g1, 0, none⟩) else if d = 13 then .pointer (some ⟨g2, 0, none⟩) else undef) (by
      intro d hd
      simp only [List.mem_cons, List.not_mem_nil, or_false] at hd
      rcases hd with rfl | rfl | rfl | rfl | rfl | rfl | rfl | rfl | rfl | rfl | rfl | rfl
      · exact h.kv0 (hall 0 (by decide))
      · exact h.kv1 (hall 1 (by decide))
      · exact h.kv2 (hall 2 (by decide))
      · exact h.kv3 (hall 3 (by decide))
      · exact h.kv4 (hall 4 (by decide))
      · exact h.kv5 (hall 5 (by decide))
      · exact h.kv6 (hall 6 (by decide))
      · exact h.kv7 (hall 7 (by decide))
      · exact h.kv8 (hall 8 (by decide))
      · exact h.kp0 (hall 9 (by decide))
      · exact h.kp1 (hall 10 (by decide))
      · exact h.kp2 (hall 11 (by decide))
      )
    simp only [List.foldl_cons, List.foldl_nil] at hfr
    rw [← HA.out] at hfr
    have hR : Lf w.heap.size wx.heap.size [(⟨g0, 0, none⟩, .int .i64 x0), (⟨g0, 1, none⟩, .int .i64 x1), (⟨g0, 2, none⟩, .int .i64 x2), (⟨g1, 0, none⟩, .int .i64 y0), (⟨g1, 1, none⟩, .int .i64 y1), (⟨g1, 2, none⟩, .int .i64 y2), (⟨g2, 0, none⟩, .int .i64 z0), (⟨g2, 1, none⟩, .int .i64 z1), (⟨g2, 2, none⟩, .int .i64 z2), (⟨w.heap.size, 0, none⟩, .int .i64 a0), (⟨w.heap.size, 1, none⟩, .int .i64 a1), (⟨w.heap.size, 2, none⟩, .int .i64 a2), (⟨w.heap.size + 1, 0, none⟩, .int .i64 c0), (⟨w.heap.size + 1, 1, none⟩, .int .i64 c1), (⟨w.heap.size + 1, 2, none⟩, .int .i64 c2), (⟨w.heap.size + 1 + 1, 0, none⟩, .int .i64 b0), (⟨w.heap.size + 1 + 1, 1, none⟩, .int .i64 b1), (⟨w.heap.size + 1 + 1, 2, none⟩, .int .i64 b2), (⟨w.heap.size + 1 + 1 + 1, 0, none⟩, .int .i64 d0), (⟨w.heap.size + 1 + 1 + 1, 1, none⟩, .int .i64 d1), (⟨w.heap.size + 1 + 1 + 1, 2, none⟩, .int .i64 d2)] w wx := lf_three h.lf (h.ks0 (hall 12 (by decide))) (h.ks1 (hall 13 (by decide))) (h.ks2 (hall 14 (by decide)))
    clear h hall
    rw [hfr]
    clear hfr
    simp [Act.put]
    obtain ⟨M, hM⟩ : ∃ M, wx.heap.size = M := ⟨_, rfl⟩
    rw [hM] at hR
    clear hM HA hsz hA5 hA6 hA7 hA8
    have kc := hR.cells
    have kf := hR.frz
    simp only [List.forall_mem_cons, List.not_mem_nil, false_implies, implies_true, and_true] at kc kf
    obtain ⟨yc0, yc1, yc2, yc3, yc4, yc5, yc6, yc7, yc8, yc9, yc10, yc11, yc12, yc13, yc14, yc15, yc16, yc17, yc18, yc19, yc20⟩ := kc
    obtain ⟨yf0, yf1, yf2, yf3, yf4, yf5, yf6, yf7, yf8, yf9, yf10, yf11, yf12, yf13, yf14, yf15, yf16, yf17, yf18, yf19, yf20⟩ := kf
    cases hK : smK a0 a1 a2 c0 c1 c2 b0 b1 b2 tol
    · rw [hK] at S0
      clear hK
      go_wp2_with fail
      refine (S0 _).out.mono ?_
      rintro e w3 ⟨rfl, hb3⟩
      have hR := hR.next hb3
      go_wp2_with fail
      go_ret
      exact ⟨rfl, hR.be⟩
    rw [hK] at S0
    go_wp2_with fail
    refine (S0 _).out.mono ?_
    rintro e w3 ⟨rfl, hb3⟩
    have hR := hR.next hb3
    clear hb3 S0 yc0 yf0 yc1 yf1 yc2 yf2 yc3 yf3 yc4 yf4 yc5 yf5 yc6 yf6 yc7 yf7 yc8 yf8 yc9 yf9 yc10 yf10 yc11 yf11 yc12 yf12 yc13 yf13 yc14 yf14 yc15 yf15 yc16 yf16 yc17 yf17 yc18 yf18 yc19 yf19 yc20 yf20
    have kc := hR.cells
    have kf := hR.frz
    simp only [List.forall_mem_cons, List.not_mem_nil, false_implies, implies_true, and_true] at kc kf
    obtain ⟨yc0, yc1, yc2, yc3, yc4, yc5, yc6, yc7, yc8, yc9, yc10, yc11, yc12, yc13, yc14, yc15, yc16, yc17, yc18, yc19, yc20⟩ := kc
    obtain ⟨yf0, yf1, yf2, yf3, yf4, yf5, yf6, yf7, yf8, yf9, yf10, yf11, yf12, yf13, yf14, yf15, yf16, yf17, yf18, yf19, yf20⟩ := kf
    cases hK' : smK x0 x1 x2 y0 y1 y2 z0 z1 z2 tol
    · rw [hK'] at S1
      clear hK' hK
      go_wp2_with fail
      refine (S1 _).out.mono ?_
      rintro e w4 ⟨rfl, hb4⟩
      have hR := hR.next hb4
      go_wp2_with fail
      go_ret
      exact ⟨rfl, hR.be⟩
    rw [hK'] at S1
    go_wp2_with fail
    refine (S1 _).out.mono ?_
    rintro e w4 ⟨rfl, hb4⟩
    have hR := hR.next hb4
    clear hb4 S1 AX AY AZ yc0 yf0 yc1 yf1 yc2 yf2 yc3 yf3 yc4 yf4 yc5 yf5 yc6 yf6 yc7 yf7 yc8 yf8 yc9 yf9 yc10 yf10 yc11 yf11 yc12 yf12 yc13 yf13 yc14 yf14 yc15 yf15 yc16 yf16 yc17 yf17 yc18 yf18 yc19 yf19 yc20 yf20
    obtain ⟨⟨rfl, rfl, rfl⟩, ⟨rfl, rfl, rfl⟩, rfl, rfl, rfl⟩ := HX.out hK hD
    clear HX
    obtain ⟨ha, hc, hb, ht, ht2⟩ := smK_t hK
    obtain ⟨ha', hc', hb', _, _⟩ := smK_t hK'
    obtain ⟨t1, t2, t3, t4, t5, t6⟩ := smB_pk hD
    clear hK hK' hD
    obtain ⟨r, n, F, hrv, hcn, _, CP, _⟩ := corner_any a0 a1 a2 c0 c1 c2 b0 b1 b2 tol ha hc hb ht ht2
    obtain ⟨r', n', G, hrv', hcn', _, CQ, _⟩ := corner_any _ _ _ _ _ _ _ _ _ tol ha' hc' hb' ht ht2
    obtain ⟨rfl, hL1, hL2, HF⟩ := cnr_mov ha hc hb ha' hc' hb' hrv hrv' hcn hcn'
    have HAD : ∀ i, i < n → Hid ((F i 0 + d0 = G i 0 ∧ F i 1 + d1 = G i 1 ∧ F i 2 + d2 = G i 2) ∧ ∀ w, Hid (Calls Try.prog 28 #[.agg #[.int .i64 (F i 0), .int .i64 (F i 1), .int .i64 (F i 2)], .agg #[.int .i64 d0, .int .i64 d1, .int .i64 d2]] w fun e w' => e = .returned (.agg #[.int .i64 (G i 0), .int .i64 (G i 1), .int .i64 (G i 2)]) ∧ Below w.heap.size w w')) := by
      intro i hi
      obtain ⟨⟨q0, q1, q2⟩, p1, p2, p3, p4, p5, p6⟩ := HF i hi
      refine ⟨⟨q0, q1, q2⟩, fun w => ?_⟩
      rw [← q0, ← q1, ← q2]
      exact addR_any (F i 0) (F i 1) (F i 2) d0 d1 d2 w (by omega) (by omega) (by omega)
    clear hcn hrv hcn' hrv' ha hc hb ha' hc' hb' ht ht2 HF t1 t2 t3 t4 t5 t6
    go_upto_region 8 with fail
    go_region_held3 (fun w' => w'.cell? ⟨g0, 0, none⟩ = some (.int .i64 (a0 + d0)) ∧ w'.cell? ⟨g0, 1, none⟩ = some (.int .i64 (a1 + d1)) ∧ w'.cell? ⟨g0, 2, none⟩ = some (.int .i64 (a2 + d2)) ∧ w'.cell? ⟨g1, 0, none⟩ = some (.int .i64 (c0 + d0)) ∧ w'.cell? ⟨g1, 1, none⟩ = some (.int .i64 (c1 + d1)) ∧ w'.cell? ⟨g1, 2, none⟩ = some (.int .i64 (c2 + d2)) ∧ w'.cell? ⟨g2, 0, none⟩ = some (.int .i64 (b0 + d0)) ∧ w'.cell? ⟨g2, 1, none⟩ = some (.int .i64 (b1 + d1)) ∧ w'.cell? ⟨g2, 2, none⟩ = some (.int .i64 (b2 + d2)) ∧ w'.cell? ⟨w.heap.size, 0, none⟩ = some (.int .i64 a0) ∧ w'.cell? ⟨w.heap.size, 1, none⟩ = some (.int .i64 a1) ∧ w'.cell? ⟨w.heap.size, 2, none⟩ = some (.int .i64 a2) ∧ w'.cell? ⟨w.heap.size + 1, 0, none⟩ = some (.int .i64 c0) ∧ w'.cell? ⟨w.heap.size + 1, 1, none⟩ = some (.int .i64 c1) ∧ w'.cell? ⟨w.heap.size + 1, 2, none⟩ = some (.int .i64 c2) ∧ w'.cell? ⟨w.heap.size + 1 + 1, 0, none⟩ = some (.int .i64 b0) ∧ w'.cell? ⟨w.heap.size + 1 + 1, 1, none⟩ = some (.int .i64 b1) ∧ w'.cell? ⟨w.heap.size + 1 + 1, 2, none⟩ = some (.int .i64 b2) ∧ w'.cell? ⟨w.heap.size + 1 + 1 + 1, 0, none⟩ = some (.int .i64 d0) ∧ w'.cell? ⟨w.heap.size + 1 + 1 + 1, 1, none⟩ = some (.int .i64 d1) ∧ w'.cell? ⟨w.heap.size + 1 + 1 + 1, 2, none⟩ = some (.int .i64 d2) ∧ Lf w.heap.size M [(⟨g0, 0, none⟩, .int .i64 (a0 + d0)), (⟨g0, 1, none⟩, .int .i64 (a1 + d1)), (⟨g0, 2, none⟩, .int .i64 (a2 + d2)), (⟨g1, 0, none⟩, .int .i64 (c0 + d0)), (⟨g1, 1, none⟩, .int .i64 (c1 + d1)), (⟨g1, 2, none⟩, .int .i64 (c2 + d2)), (⟨g2, 0, none⟩, .int .i64 (b0 + d0)), (⟨g2, 1, none⟩, .int .i64 (b1 + d1)), (⟨g2, 2, none⟩, .int .i64 (b2 + d2)), (⟨w.heap.size, 0, none⟩, .int .i64 a0), (⟨w.heap.size, 1, none⟩, .int .i64 a1), (⟨w.heap.size, 2, none⟩, .int .i64 a2), (⟨w.heap.size + 1, 0, none⟩, .int .i64 c0), (⟨w.heap.size + 1, 1, none⟩, .int .i64 c1), (⟨w.heap.size + 1, 2, none⟩, .int .i64 c2), (⟨w.heap.size + 1 + 1, 0, none⟩, .int .i64 b0), (⟨w.heap.size + 1 + 1, 1, none⟩, .int .i64 b1), (⟨w.heap.size + 1 + 1, 2, none⟩, .int .i64 b2), (⟨w.heap.size + 1 + 1 + 1, 0, none⟩, .int .i64 d0), (⟨w.heap.size + 1 + 1 + 1, 1, none⟩, .int .i64 d1), (⟨w.heap.size + 1 + 1 + 1, 2, none⟩, .int .i64 d2)] w w') (first | (refine S21 ?_; assumption) | (refine S21 (Lf.next ?_ (Below.drew (Below.refl _ _))); assumption)) (first
      | (go_at_call 23; (with_reducible refine (CP _).out.mono ?_); rintro e w5 ⟨g5, cap5, rfl, hg5, hr5, hb5⟩; go_split_ands; have hL5 := Lf.next (by assumption) hb5)
      | (go_at_call 23; (with_reducible refine (CQ _).out.mono ?_); rintro e w6 ⟨g6, cap6, rfl, hg6, hr6, hb6⟩; go_split_ands; have hL6 := Lf.next (by assumption) hb6))
    have hC : (Both (Both (Row g5 (3 * n) (3 * n) (fun j => .int .i64 (F (j / 3) (j % 3)))) (Row g6 (3 * n) (3 * n) (fun j => .int .i64 (G (j / 3) (j % 3))))) (Lf w.heap.size M [(⟨g0, 0, none⟩, .int .i64 (a0 + d0)), (⟨g0, 1, none⟩, .int .i64 (a1 + d1)), (⟨g0, 2, none⟩, .int .i64 (a2 + d2)), (⟨g1, 0, none⟩, .int .i64 (c0 + d0)), (⟨g1, 1, none⟩, .int .i64 (c1 + d1)), (⟨g1, 2, none⟩, .int .i64 (c2 + d2)), (⟨g2, 0, none⟩, .int .i64 (b0 + d0)), (⟨g2, 1, none⟩, .int .i64 (b1 + d1)), (⟨g2, 2, none⟩, .int .i64 (b2 + d2)), (⟨w.heap.size, 0, none⟩, .int .i64 a0), (⟨w.heap.size, 1, none⟩, .int .i64 a1), (⟨w.heap.size, 2, none⟩, .int .i64 a2), (⟨w.heap.size + 1, 0, none⟩, .int .i64 c0), (⟨w.heap.size + 1, 1, none⟩, .int .i64 c1), (⟨w.heap.size + 1, 2, none⟩, .int .i64 c2), (⟨w.heap.size + 1 + 1, 0, none⟩, .int .i64 b0), (⟨w.heap.size + 1 + 1, 1, none⟩, .int .i64 b1), (⟨w.heap.size + 1 + 1, 2, none⟩, .int .i64 b2), (⟨w.heap.size + 1 + 1 + 1, 0, none⟩, .int .i64 d0), (⟨w.heap.size + 1 + 1 + 1, 1, none⟩, .int .i64 d1), (⟨w.heap.size + 1 + 1 + 1, 2, none⟩, .int .i64 d2)] w)) w6 := ⟨⟨hr5.next hb6, hr6⟩, hL6⟩
    clear hr5 hr6 hb5 hb6 hL5 hL6 CP CQ hR
    go_wp2_with fail
    go_loopw [62] (fun t wr => ∃ i : Nat, i ≤ n ∧ t = .int .i64 (i : Int) ∧ (Both (Both (Row g5 (3 * n) (3 * n) (fun j => .int .i64 (F (j / 3) (j % 3)))) (Row g6 (3 * n) (3 * n) (fun j => .int .i64 (G (j / 3) (j % 3))))) (Lf w.heap.size M [(⟨g0, 0, none⟩, .int .i64 (a0 + d0)), (⟨g0, 1, none⟩, .int .i64 (a1 + d1)), (⟨g0, 2, none⟩, .int .i64 (a2 + d2)), (⟨g1, 0, none⟩, .int .i64 (c0 + d0)), (⟨g1, 1, none⟩, .int .i64 (c1 + d1)), (⟨g1, 2, none⟩, .int .i64 (c2 + d2)), (⟨g2, 0, none⟩, .int .i64 (b0 + d0)), (⟨g2, 1, none⟩, .int .i64 (b1 + d1)), (⟨g2, 2, none⟩, .int .i64 (b2 + d2)), (⟨w.heap.size, 0, none⟩, .int .i64 a0), (⟨w.heap.size, 1, none⟩, .int .i64 a1), (⟨w.heap.size, 2, none⟩, .int .i64 a2), (⟨w.heap.size + 1, 0, none⟩, .int .i64 c0), (⟨w.heap.size + 1, 1, none⟩, .int .i64 c1), (⟨w.heap.size + 1, 2, none⟩, .int .i64 c2), (⟨w.heap.size + 1 + 1, 0, none⟩, .int .i64 b0), (⟨w.heap.size + 1 + 1, 1, none⟩, .int .i64 b1), (⟨w.heap.size + 1 + 1, 2, none⟩, .int .i64 b2), (⟨w.heap.size + 1 + 1 + 1, 0, none⟩, .int .i64 d0), (⟨w.heap.size + 1 + 1 + 1, 1, none⟩, .int .i64 d1), (⟨w.heap.size + 1 + 1 + 1, 2, none⟩, .int .i64 d2)] w)) wr) (fun t _ => n - (intOf t).toNat)
    case atStart => exact ⟨0, Nat.zero_le _, rfl, hC⟩
    case round =>
    clear hC
    obtain ⟨i, hin, rfl, hC⟩ := hrel
    by_cases hi : i < n
    · have hdec : decide ((i : Int) < (n : Int)) = true := decide_eq_true (by omega)
      have hlt : (i : Int) < (n : Int) := by omega
      obtain ⟨hq, AD⟩ := (HAD i hi).out
      clear hq
      go_upto_region 14 with fail
      (refine wp_region_class (Both (Both (Row g5 (3 * n) (3 * n) (fun j => .int .i64 (F (j / 3) (j % 3)))) (Row g6 (3 * n) (3 * n) (fun j => .int .i64 (G (j / 3) (j % 3))))) (Lf w.heap.size M [(⟨g0, 0, none⟩, .int .i64 (a0 + d0)), (⟨g0, 1, none⟩, .int .i64 (a1 + d1)), (⟨g0, 2, none⟩, .int .i64 (a2 + d2)), (⟨g1, 0, none⟩, .int .i64 (c0 + d0)), (⟨g1, 1, none⟩, .int .i64 (c1 + d1)), (⟨g1, 2, none⟩, .int .i64 (c2 + d2)), (⟨g2, 0, none⟩, .int .i64 (b0 + d0)), (⟨g2, 1, none⟩, .int .i64 (b1 + d1)), (⟨g2, 2, none⟩, .int .i64 (b2 + d2)), (⟨w.heap.size, 0, none⟩, .int .i64 a0), (⟨w.heap.size, 1, none⟩, .int .i64 a1), (⟨w.heap.size, 2, none⟩, .int .i64 a2), (⟨w.heap.size + 1, 0, none⟩, .int .i64 c0), (⟨w.heap.size + 1, 1, none⟩, .int .i64 c1), (⟨w.heap.size + 1, 2, none⟩, .int .i64 c2), (⟨w.heap.size + 1 + 1, 0, none⟩, .int .i64 b0), (⟨w.heap.size + 1 + 1, 1, none⟩, .int .i64 b1), (⟨w.heap.size + 1 + 1, 2, none⟩, .int .i64 b2), (⟨w.heap.size + 1 + 1 + 1, 0, none⟩, .int .i64 d0), (⟨w.heap.size + 1 + 1 + 1, 1, none⟩, .int .i64 d1), (⟨w.heap.size + 1 + 1 + 1, 2, none⟩, .int .i64 d2)] w)) ⟨⟨hC.l.l.next (Below.refl _ _).drew, hC.l.r.next (Below.refl _ _).drew⟩, hC.r.next (Below.refl _ _).drew⟩ (by kernel_rfl) (by kernel_rfl) ?_; repeat (refine wpQuiet_step (fun qK9 qH9 => ?_); go_simp; first | (refine qH9 _ ?_; clear qH9 qK9) | (apply Exists.intro; refine ⟨?_, qH9 _ ?_⟩; (first | (intros; rfl) | (first | (intro wx hC; with_reducible exact Calls.lays (AD wx).out (fun _ hb => ⟨⟨hC.l.l.next hb, hC.l.r.next hb⟩, hC.r.next hb⟩)) | (intro wx hC; (obtain ⟨e0, e1, e2⟩ := hC.l.l.point hi); (obtain ⟨d0', d1', d2'⟩ := hC.l.r.point hi); ((have qk9 := ((hC.r)).cells; simp only [List.forall_mem_cons, List.not_mem_nil, false_implies, implies_true, and_true] at qk9; repeat (obtain ⟨qk8, qk9⟩ := qk9)); go_simp; first | done | rfl)))); clear qH9 qK9)))
      refine wpQuiet_nil ?_
      clear hC AD
      intro wy hC
      go_wp2_with fail
      go_roundw
      case rel => exact ⟨i + 1, by omega, by go_num, hC⟩
      case measure => simp [intOf]; omega
    · have hdec : decide ((i : Int) < (n : Int)) = false := decide_eq_false (by omega)
      go_wp2_with fail
      go_ret
      exact ⟨rfl, hC.r.be⟩
end Go.Proofs.Ytdjopepipcnmdaa