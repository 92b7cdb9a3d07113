/- Proved here: Corner of the program gives the points of the blend; ranges as stated. -/
import Derived.Test.YtdjopepipcnmdaaBk1
namespace Go.Proofs.Ytdjopepipcnmdaa
open Go.RowKit
set_option linter.unusedVariables false
set_option linter.unusedSimpArgs false
/-- the k-th component of the i-th point of a blend -/
def coF (n : Nat) (p0 p1 p2 c0 c1 c2 q0 q1 q2 : Int) (i k : Nat) : Int := cp (c0 + coI n (p0 - c0) (q0 - c0) i) (c1 + coI n (p1 - c1) (q1 - c1) i) (c2 + coI n (p2 - c2) (q2 - c2) i) k
theorem infoPt : (Try.prog.info? 23).map (fun i => (i.zero, i.size, i.bytes)) = some (some (.agg #[.int .i64 0, .int .i64 0, .int .i64 0]), 3, 24) := by kernel_rfl
theorem mul_bd3 {m x : Int} (m0 : 0 ≤ m) (m1 : m ≤ 4096) (x0 : -67108864 ≤ x) (x1 : x ≤ 67108864) : -274877906944 ≤ m * x ∧ m * x ≤ 274877906944 := by
  have a1 := Int.mul_le_mul_of_nonneg_left x1 m0
  have a2 := Int.mul_le_mul_of_nonneg_left x0 m0
  omega
set_option maxHeartbeats 8000000 in
set_option maxRecDepth 20000 in
theorem cornerP_walk (a0 a1 a2 c0 c1 c2 b0 b1 b2 tol d p0 p1 p2 q0 q1 q2 : Int) (n : Nat) (w : World) (hn : 1 ≤ n) (hn2 : n ≤ 64) (hc0 : -33554432 ≤ c0 ∧ c0 ≤ 33554432) (hp0 : -67108864 ≤ p0 - c0 ∧ p0 - c0 ≤ 67108864) (hq0 : -67108864 ≤ q0 - c0 ∧ q0 - c0 ≤ 67108864) (hc1 : -33554432 ≤ c1 ∧ c1 ≤ 33554432) (hp1 : -67108864 ≤ p1 - c1 ∧ p1 - c1 ≤ 67108864) (hq1 : -67108864 ≤ q1 - c1 ∧ q1 - c1 ≤ 67108864) (hc2 : -33554432 ≤ c2 ∧ c2 ≤ 33554432) (hp2 : -67108864 ≤ p2 - c2 ∧ p2 - c2 ≤ 67108864) (hq2 : -67108864 ≤ q2 - c2 ∧ q2 - c2 ≤ 67108864) (hd : (d == 0) = false)
    (RC : ∀ w, Hid (Calls Try.prog 18 #[.agg #[.int .i64 a0, .int .i64 a1, .int .i64 a2], .agg #[.int .i64 c0, .int .i64 c1, .int .i64 c2], .agg #[.int .i64 b0, .int .i64 b1, .int .i64 b2], .int .i64 tol] w fun e w' => e = .returned (.int .i64 d) ∧ Below w.heap.size w w'))
    (TA : ∀ w, Hid (Calls Try.prog 14 #[.agg #[.int .i64 c0, .int .i64 c1, .int .i64 c2], .agg #[.int .i64 a0, .int .i64 a1, .int .i64 a2], .int .i64 d] w fun e w' => e = .returned (.tuple #[.agg #[.int .i64 p0, .int .i64 p1, .int .i64 p2], .bool true]) ∧ Below w.heap.size w w'))
    (TB : ∀ w, Hid (Calls Try.prog 14 #[.agg #[.int .i64 c0, .int .i64 c1, .int .i64 c2], .agg #[.int .i64 b0, .int .i64 b1, .int .i64 b2], .int .i64 d] w fun e w' => e = .returned (.tuple #[.agg #[.int .i64 q0, .int .i64 q1, .int .i64 q2], .bool true]) ∧ Below w.heap.size w w'))
    (PC : ∀ w, Hid (Calls Try.prog 20 #[.agg #[.int .i64 p0, .int .i64 p1, .int .i64 p2], .agg #[.int .i64 c0, .int .i64 c1, .int .i64 c2], .agg #[.int .i64 q0, .int .i64 q1, .int .i64 q2]] w fun e w' => e = .returned (.int .i64 (n : Int)) ∧ Below w.heap.size w w')) :
    Calls Try.prog 23 #[.agg #[.int .i64 a0, .int .i64 a1, .int .i64 a2], .agg #[.int .i64 c0, .int .i64 c1, .int .i64 c2], .agg #[.int .i64 b0, .int .i64 b1, .int .i64 b2], .int .i64 tol] w (PostPts (n + 1) (coF n p0 p1 p2 c0 c1 c2 q0 q1 q2) w) := by
  obtain ⟨i0, hi, hz0, hz1, hz2⟩ := info_parts infoPt
  have hT : Lf w.heap.size (w.heap.size + 1 + 1 + 1) [(⟨w.heap.size, 0, none⟩, .int .i64 a0), (⟨w.heap.size, 1, none⟩, .int .i64 a1), (⟨w.heap.size, 2, none⟩, .int .i64 a2), (⟨w.heap.size + 1, 0, none⟩, .int .i64 c0), (⟨w.heap.size + 1, 1, none⟩, .int .i64 c1), (⟨w.heap.size + 1, 2, none⟩, .int .i64 c2), (⟨w.heap.size + 1 + 1, 0, none⟩, .int .i64 b0), (⟨w.heap.size + 1 + 1, 1, none⟩, .int .i64 b1), (⟨w.heap.size + 1 + 1, 2, none⟩, .int .i64 b2)] w (((w.alloc (.cells #[.int .i64 a0, .int .i64 a1, .int .i64 a2] 23)).alloc (.cells #[.int .i64 c0, .int .i64 c1, .int .i64 c2] 23)).alloc (.cells #[.int .i64 b0, .int .i64 b1, .int .i64 b2] 23)) := ⟨by simp [List.forall_mem_cons, go_sem], by simp [List.forall_mem_cons, go_sem], by simp [List.forall_mem_cons] <;> omega, by simp, by (repeat (first | exact Below.refl _ _ | assumption | refine Below.drew ?_ | (refine Below.alloc ?_ (by simp <;> omega) _) | (refine Below.setCell ?_ (by simp <;> omega) _))), by omega⟩
  go_enter Try.func23, Try.ntmps23
  go_wp2_with fail
  refine (RC _).out.mono ?_
  rintro e w1 ⟨rfl, hb1⟩
  have hT := hT.next hb1
  clear RC hb1
  have kc := hT.cells
  have kf := hT.frz
  simp only [List.forall_mem_cons, List.not_mem_nil, false_implies, implies_true, and_true] at kc kf
  obtain ⟨yc0, yc1, yc2, yc3, yc4, yc5, yc6, yc7, yc8⟩ := kc
  obtain ⟨yf0, yf1, yf2, yf3, yf4, yf5, yf6, yf7, yf8⟩ := kf
  go_wp2_with fail
  refine (TA _).out.mono ?_
  rintro e w2 ⟨rfl, hb2⟩
  have hT := hT.next hb2
  clear TA hb2 yc0 yf0 yc1 yf1 yc2 yf2 yc3 yf3 yc4 yf4 yc5 yf5 yc6 yf6 yc7 yf7 yc8 yf8
  have kc := hT.cells
  have kf := hT.frz
  simp only [List.forall_mem_cons, List.not_mem_nil, false_implies, implies_true, and_true] at kc kf
  obtain ⟨yc0, yc1, yc2, yc3, yc4, yc5, yc6, yc7, yc8⟩ := kc
  obtain ⟨yf0, yf1, yf2, yf3, yf4, yf5, yf6, yf7, yf8⟩ := kf
  go_upto_region 5 with fail
  obtain ⟨n1, hn1⟩ : ∃ n1, w2.heap.size = n1 := ⟨_, rfl⟩
  have hl := hT.lt
  have hP := hT.push #[.int .i64 p0, .int .i64 p1, .int .i64 p2] 23
  rewrite [hn1] at hP hl
  rewrite [hn1]
  refine wp_cls (Lf w.heap.size (n1 + 1) [(⟨n1, 0, none⟩, .int .i64 p0), (⟨n1, 1, none⟩, .int .i64 p1), (⟨n1, 2, none⟩, .int .i64 p2), (⟨w.heap.size, 0, none⟩, .int .i64 a0), (⟨w.heap.size, 1, none⟩, .int .i64 a1), (⟨w.heap.size, 2, none⟩, .int .i64 a2), (⟨w.heap.size + 1, 0, none⟩, .int .i64 c0), (⟨w.heap.size + 1, 1, none⟩, .int .i64 c1), (⟨w.heap.size + 1, 2, none⟩, .int .i64 c2), (⟨w.heap.size + 1 + 1, 0, none⟩, .int .i64 b0), (⟨w.heap.size + 1 + 1, 1, none⟩, .int .i64 b1), (⟨w.heap.size + 1 + 1, 2, none⟩, .int .i64 b2)] w) hP ?_
  clear hP hT hn1 yc0 yf0 yc1 yf1 yc2 yf2 yc3 yf3 yc4 yf4 yc5 yf5 yc6 yf6 yc7 yf7 yc8 yf8
  intro w3 hT
  have kc := hT.cells
  have kf := hT.frz
  simp only [List.forall_mem_cons, List.not_mem_nil, false_implies, implies_true, and_true] at kc kf
  obtain ⟨yc0, yc1, yc2, yc3, yc4, yc5, yc6, yc7, yc8, yc9, yc10, yc11⟩ := kc
  obtain ⟨yf0, yf1, yf2, yf3, yf4, yf5, yf6, yf7, yf8, yf9, yf10, yf11⟩ := kf
  go_wp2_with fail
  refine (TB _).out.mono ?_
  rintro e w4 ⟨rfl, hb4⟩
  have hT := hT.next hb4
  clear TB hb4 yc0 yf0 yc1 yf1 yc2 yf2 yc3 yf3 yc4 yf4 yc5 yf5 yc6 yf6 yc7 yf7 yc8 yf8 yc9 yf9 yc10 yf10 yc11 yf11
  have kc := hT.cells
  have kf := hT.frz
  simp only [List.forall_mem_cons, List.not_mem_nil, false_implies, implies_true, and_true] at kc kf
  obtain ⟨yc0, yc1, yc2, yc3, yc4, yc5, yc6, yc7, yc8, yc9, yc10, yc11⟩ := kc
  obtain ⟨yf0, yf1, yf2, yf3, yf4, yf5, yf6, yf7, yf8, yf9, yf10, yf11⟩ := kf
  go_upto_region 6 with fail
  obtain ⟨n2, hn2'⟩ : ∃ n2, w4.heap.size = n2 := ⟨_, rfl⟩
  have hl2 := hT.lt
  have hP := hT.push #[.int .i64 q0, .int .i64 q1, .int .i64 q2] 23
  rewrite [hn2'] at hP hl2
  rewrite [hn2']
  refine wp_cls (Lf w.heap.size (n2 + 1) [(⟨n2, 0, none⟩, .int .i64 q0), (⟨n2, 1, none⟩, .int .i64 q1), (⟨n2, 2, none⟩, .int .i64 q2), (⟨n1, 0, none⟩, .int .i64 p0), (⟨n1, 1, none⟩, .int .i64 p1), (⟨n1, 2, none⟩, .int .i64 p2), (⟨w.heap.size, 0, none⟩, .int .i64 a0), (⟨w.heap.size, 1, none⟩, .int .i64 a1), (⟨w.heap.size, 2, none⟩, .int .i64 a2), (⟨w.heap.size + 1, 0, none⟩, .int .i64 c0), (⟨w.heap.size + 1, 1, none⟩, .int .i64 c1), (⟨w.heap.size + 1, 2, none⟩, .int .i64 c2), (⟨w.heap.size + 1 + 1, 0, none⟩, .int .i64 b0), (⟨w.heap.size + 1 + 1, 1, none⟩, .int .i64 b1), (⟨w.heap.size + 1 + 1, 2, none⟩, .int .i64 b2)] w) hP ?_
  clear hP hT hn2' yc0 yf0 yc1 yf1 yc2 yf2 yc3 yf3 yc4 yf4 yc5 yf5 yc6 yf6 yc7 yf7 yc8 yf8 yc9 yf9 yc10 yf10 yc11 yf11
  intro w5 hT
  have kc := hT.cells
  have kf := hT.frz
  simp only [List.forall_mem_cons, List.not_mem_nil, false_implies, implies_true, and_true] at kc kf
  obtain ⟨yc0, yc1, yc2, yc3, yc4, yc5, yc6, yc7, yc8, yc9, yc10, yc11, yc12, yc13, yc14⟩ := kc
  obtain ⟨yf0, yf1, yf2, yf3, yf4, yf5, yf6, yf7, yf8, yf9, yf10, yf11, yf12, yf13, yf14⟩ := kf
  go_wp2_with fail
  refine (PC _).out.mono ?_
  rintro e w6 ⟨rfl, hb6⟩
  have hT := hT.next hb6
  clear PC hb6 yc0 yf0 yc1 yf1 yc2 yf2 yc3 yf3 yc4 yf4 yc5 yf5 yc6 yf6 yc7 yf7 yc8 yf8 yc9 yf9 yc10 yf10 yc11 yf11 yc12 yf12 yc13 yf13 yc14 yf14
  have kc := hT.cells
  have kf := hT.frz
  simp only [List.forall_mem_cons, List.not_mem_nil, false_implies, implies_true, and_true] at kc kf
  obtain ⟨yc0, yc1, yc2, yc3, yc4, yc5, yc6, yc7, yc8, yc9, yc10, yc11, yc12, yc13, yc14⟩ := kc
  obtain ⟨yf0, yf1, yf2, yf3, yf4, yf5, yf6, yf7, yf8, yf9, yf10, yf11, yf12, yf13, yf14⟩ := kf

  go_wp2_with (at_make; refine wpList_make_full _ rfl _ _ 34 rfl w.heap.size 23 i0 (.agg #[.int .i64 0, .int .i64 0, .int .i64 0]) 3 Try.underlying34 hi hz0 hz1 .i64 .i64 _ _ (n + 1) rfl rfl (by omega) (by omega) (by rw [hz2]; omega) (by unfold maxLen; omega) hT.be.size ?_; intro w7 hown hgrow)
  obtain ⟨g, hg⟩ : ∃ g, w6.heap.size = g := ⟨_, rfl⟩
  have hT := hT.next ((Below.refl w6.heap.size w6).grown hgrow (Nat.le_refl _) (by simp))
  have hR := Row.made hown (fun j => .int .i64 (coF n p0 p1 p2 c0 c1 c2 q0 q1 q2 (j / 3) (j % 3)))
  have hlg : n2 + 1 ≤ g := by rw [← hg]; exact Lf.lt (by assumption)
  rewrite [hg] at hR
  rewrite [hg]
  clear hown hgrow hg yc0 yf0 yc1 yf1 yc2 yf2 yc3 yf3 yc4 yf4 yc5 yf5 yc6 yf6 yc7 yf7 yc8 yf8 yc9 yf9 yc10 yf10 yc11 yf11 yc12 yf12 yc13 yf13 yc14 yf14
  obtain ⟨G, hG⟩ : ∃ G : Nat → Value, (fun j => Value.int .i64 (coF n p0 p1 p2 c0 c1 c2 q0 q1 q2 (j / 3) (j % 3))) = G := ⟨_, rfl⟩
  rewrite [hG] at hR
  have HG := Lib.hid hG
  clear hG
  go_loopw [53] (fun t wr => ∃ i : Nat, i ≤ n + 1 ∧ t = .int .i64 (i : Int) ∧ Lf w.heap.size (n2 + 1) [(⟨n2, 0, none⟩, .int .i64 q0), (⟨n2, 1, none⟩, .int .i64 q1), (⟨n2, 2, none⟩, .int .i64 q2), (⟨n1, 0, none⟩, .int .i64 p0), (⟨n1, 1, none⟩, .int .i64 p1), (⟨n1, 2, none⟩, .int .i64 p2), (⟨w.heap.size, 0, none⟩, .int .i64 a0), (⟨w.heap.size, 1, none⟩, .int .i64 a1), (⟨w.heap.size, 2, none⟩, .int .i64 a2), (⟨w.heap.size + 1, 0, none⟩, .int .i64 c0), (⟨w.heap.size + 1, 1, none⟩, .int .i64 c1), (⟨w.heap.size + 1, 2, none⟩, .int .i64 c2), (⟨w.heap.size + 1 + 1, 0, none⟩, .int .i64 b0), (⟨w.heap.size + 1 + 1, 1, none⟩, .int .i64 b1), (⟨w.heap.size + 1 + 1, 2, none⟩, .int .i64 b2)] w wr ∧ Row g (3 * (n + 1)) (i * 3) G wr) (fun t _ => n + 1 - (intOf t).toNat)
  case atStart => exact ⟨0, Nat.zero_le _, rfl, hT, hR⟩
  case round =>
  obtain ⟨i, hin, rfl, hT, hR⟩ := hrel
  by_cases hi : i < n + 1
  · have hdec : decide ((i : Int) < (n : Int) + 1) = true := decide_eq_true (by omega)
    have kc := hT.cells
    have kf := hT.frz
    simp only [List.forall_mem_cons, List.not_mem_nil, false_implies, implies_true, and_true] at kc kf
    obtain ⟨yc0, yc1, yc2, yc3, yc4, yc5, yc6, yc7, yc8, yc9, yc10, yc11, yc12, yc13, yc14⟩ := kc
    obtain ⟨yf0, yf1, yf2, yf3, yf4, yf5, yf6, yf7, yf8, yf9, yf10, yf11, yf12, yf13, yf14⟩ := kf
    obtain ⟨u0, hu0⟩ := hR.ex (i * 3) (by omega)
    obtain ⟨u1, hu1⟩ := hR.ex (i * 3 + 1) (by omega)
    obtain ⟨u2, hu2⟩ := hR.ex (i * 3 + 2) (by omega)
    have hf0 := hR.frz (i * 3) (by omega)
    have hf1 := hR.frz (i * 3 + 1) (by omega)
    have hf2 := hR.frz (i * 3 + 2) (by omega)
    have hI := Inn.start hR c0 c1 c2 (by omega)
    have hT := ((hT.far g (i * 3) (.int .i64 c0) hlg).far g (i * 3 + 1) (.int .i64 c1) hlg).far g (i * 3 + 2) (.int .i64 c2) hlg
    have hi0 : (0 : Int) ≤ i := by omega
    have hin0 : (i : Int) ≤ n := by omega
    have hn64 : (n : Int) ≤ 64 := by omega
    have hnn0 := sqnn (n : Int)
    have hnn1 : (n : Int) * n ≤ 4096 := by
      have := Int.mul_le_mul hn64 hn64 (by omega) (by omega)
      omega
    have ii0 := sqnn (i : Int)
    have ii1 : (i : Int) * i ≤ 4096 := by
      have := Int.mul_le_mul (show (i : Int) ≤ 64 by omega) (show (i : Int) ≤ 64 by omega) (by omega) (by omega)
      omega
    have kk0 := sqnn ((n : Int) - i)
    have kk1 : ((n : Int) - i) * (n - i) ≤ 4096 := by
      have := Int.mul_le_mul (show (n : Int) - i ≤ 64 by omega) (show (n : Int) - i ≤ 64 by omega) (by omega) (by omega)
      omega
    have WA := Lib.hid (wr_in (n := (n : Int) - i) (by omega) (by omega))
    have WM := Lib.hid (wr_in (n := ((n : Int) - i) * (n - i)) (by omega) (by omega))
    have WI := Lib.hid (wr_in (n := (i : Int) * i) (by omega) (by omega))
    go_wp2_with fail
    have hQ : ∃ W, W = (((wr.setCell ⟨g, i * 3, none⟩ (.int .i64 c0)).setCell ⟨g, i * 3 + 1, none⟩ (.int .i64 c1)).setCell ⟨g, i * 3 + 2, none⟩ (.int .i64 c2)) := ⟨_, rfl⟩
    go_loopw [60] (fun t wr => (t = .int .i64 0 ∧ (Both (Lf w.heap.size (n2 + 1) [(⟨n2, 0, none⟩, .int .i64 q0), (⟨n2, 1, none⟩, .int .i64 q1), (⟨n2, 2, none⟩, .int .i64 q2), (⟨n1, 0, none⟩, .int .i64 p0), (⟨n1, 1, none⟩, .int .i64 p1), (⟨n1, 2, none⟩, .int .i64 p2), (⟨w.heap.size, 0, none⟩, .int .i64 a0), (⟨w.heap.size, 1, none⟩, .int .i64 a1), (⟨w.heap.size, 2, none⟩, .int .i64 a2), (⟨w.heap.size + 1, 0, none⟩, .int .i64 c0), (⟨w.heap.size + 1, 1, none⟩, .int .i64 c1), (⟨w.heap.size + 1, 2, none⟩, .int .i64 c2), (⟨w.heap.size + 1 + 1, 0, none⟩, .int .i64 b0), (⟨w.heap.size + 1 + 1, 1, none⟩, .int .i64 b1), (⟨w.heap.size + 1 + 1, 2, none⟩, .int .i64 b2)] w) (Inn g (3 * (n + 1)) i 0 G c0 c1 c2)) wr) ∨ (t = .int .i64 1 ∧ (Both (Lf w.heap.size (n2 + 1) [(⟨n2, 0, none⟩, .int .i64 q0), (⟨n2, 1, none⟩, .int .i64 q1), (⟨n2, 2, none⟩, .int .i64 q2), (⟨n1, 0, none⟩, .int .i64 p0), (⟨n1, 1, none⟩, .int .i64 p1), (⟨n1, 2, none⟩, .int .i64 p2), (⟨w.heap.size, 0, none⟩, .int .i64 a0), (⟨w.heap.size, 1, none⟩, .int .i64 a1), (⟨w.heap.size, 2, none⟩, .int .i64 a2), (⟨w.heap.size + 1, 0, none⟩, .int .i64 c0), (⟨w.heap.size + 1, 1, none⟩, .int .i64 c1), (⟨w.heap.size + 1, 2, none⟩, .int .i64 c2), (⟨w.heap.size + 1 + 1, 0, none⟩, .int .i64 b0), (⟨w.heap.size + 1 + 1, 1, none⟩, .int .i64 b1), (⟨w.heap.size + 1 + 1, 2, none⟩, .int .i64 b2)] w) (Inn g (3 * (n + 1)) i 1 G c0 c1 c2)) wr) ∨ (t = .int .i64 2 ∧ (Both (Lf w.heap.size (n2 + 1) [(⟨n2, 0, none⟩, .int .i64 q0), (⟨n2, 1, none⟩, .int .i64 q1), (⟨n2, 2, none⟩, .int .i64 q2), (⟨n1, 0, none⟩, .int .i64 p0), (⟨n1, 1, none⟩, .int .i64 p1), (⟨n1, 2, none⟩, .int .i64 p2), (⟨w.heap.size, 0, none⟩, .int .i64 a0), (⟨w.heap.size, 1, none⟩, .int .i64 a1), (⟨w.heap.size, 2, none⟩, .int .i64 a2), (⟨w.heap.size + 1, 0, none⟩, .int .i64 c0), (⟨w.heap.size + 1, 1, none⟩, .int .i64 c1), (⟨w.heap.size + 1, 2, none⟩, .int .i64 c2), (⟨w.heap.size + 1 + 1, 0, none⟩, .int .i64 b0), (⟨w.heap.size + 1 + 1, 1, none⟩, .int .i64 b1), (⟨w.heap.size + 1 + 1, 2, none⟩, .int .i64 b2)] w) (Inn g (3 * (n + 1)) i 2 G c0 c1 c2)) wr) ∨ (t = .int .i64 3 ∧ (Both (Lf w.heap.size (n2 + 1) [(⟨n2, 0, none⟩, .int .i64 q0), (⟨n2, 1, none⟩, .int .i64 q1), (⟨n2, 2, none⟩, .int .i64 q2), (⟨n1, 0, none⟩, .int .i64 p0), (⟨n1, 1, none⟩, .int .i64 p1), (⟨n1, 2, none⟩, .int .i64 p2), (⟨w.heap.size, 0, none⟩, .int .i64 a0), (⟨w.heap.size, 1, none⟩, .int .i64 a1), (⟨w.heap.size, 2, none⟩, .int .i64 a2), (⟨w.heap.size + 1, 0, none⟩, .int .i64 c0), (⟨w.heap.size + 1, 1, none⟩, .int .i64 c1), (⟨w.heap.size + 1, 2, none⟩, .int .i64 c2), (⟨w.heap.size + 1 + 1, 0, none⟩, .int .i64 b0), (⟨w.heap.size + 1 + 1, 1, none⟩, .int .i64 b1), (⟨w.heap.size + 1 + 1, 2, none⟩, .int .i64 b2)] w) (Inn g (3 * (n + 1)) i 3 G c0 c1 c2)) wr)) (fun t _ => 3 - (intOf t).toNat)
    case atStart => exact Or.inl ⟨rfl, hT, hI⟩
    case round =>
    clear hT hI yc0 yf0 yc1 yf1 yc2 yf2 yc3 yf3 yc4 yf4 yc5 yf5 yc6 yf6 yc7 yf7 yc8 yf8 yc9 yf9 yc10 yf10 yc11 yf11 yc12 yf12 yc13 yf13 yc14 yf14 hu0 hu1 hu2 hf0 hf1 hf2 hR hQ
    rcases hrel with ⟨rfl, hT⟩ | ⟨rfl, hT⟩ | ⟨rfl, hT⟩ | ⟨rfl, hT⟩

    · have HV : Hid (G (i * 3) = .int .i64 (c0 + coI n (p0 - c0) (q0 - c0) i)) := by
        show G (i * 3) = _
        rw [← HG.out]
        show Value.int .i64 (coF n p0 p1 p2 c0 c1 c2 q0 q1 q2 ((i * 3) / 3) ((i * 3) % 3)) = _
        rw [show (i * 3) / 3 = i by omega, show (i * 3) % 3 = 0 by omega]
        rfl
      obtain ⟨mx0, mx1⟩ := mul_bd3 kk0 kk1 hp0.1 hp0.2
      obtain ⟨my0, my1⟩ := mul_bd3 ii0 ii1 hq0.1 hq0.2
      have WX := Lib.hid (wr_in (n := p0 - c0) (by omega) (by omega))
      have WY := Lib.hid (wr_in (n := q0 - c0) (by omega) (by omega))
      have WMX := Lib.hid (wr_in (n := ((n : Int) - i) * (n - i) * (p0 - c0)) (by omega) (by omega))
      have WIY := Lib.hid (wr_in (n := (i : Int) * i * (q0 - c0)) (by omega) (by omega))
      have WS := Lib.hid (wr_in (n := ((n : Int) - i) * (n - i) * (p0 - c0) + i * i * (q0 - c0)) (by omega) (by omega))
      have hv0 := coI_neg_bound (n := n) (x := p0 - c0) (y := q0 - c0) (i := i) (lo := -67108864) (by omega) hi0 hin0 (by decide) hp0.1 hq0.1
      have hv1 := coI_le (n := n) (x := p0 - c0) (y := q0 - c0) (i := i) (hi := 67108864) (by omega) hi0 hin0 (by decide) hp0.2 hq0.2
      have MD : ∀ w, Hid (Calls Try.prog 35 #[.int .i64 (((n : Int) - i) * (n - i) * (p0 - c0) + i * i * (q0 - c0)), .int .i64 1, .int .i64 ((n : Int) * n), .int .i64 2] w fun e w' => e = .returned (.tuple #[.int .i64 (coI n (p0 - c0) (q0 - c0) i), .bool true]) ∧ Below w.heap.size w w') := by
        intro w
        have h := muldiv_any (((n : Int) - i) * (n - i) * (p0 - c0) + i * i * (q0 - c0)) 1 ((n : Int) * n) 2 w (by omega) (by omega) (by omega) (by omega) (by omega) (by omega)
        have hm := md_near (((n : Int) - i) * (n - i) * (p0 - c0) + i * i * (q0 - c0)) ((n : Int) * n) (by omega) (by omega) (nn_pos (by omega)) (by omega)
        rw [hm.1, hm.2] at h
        exact h
      obtain ⟨V, hV⟩ : ∃ V, coI n (p0 - c0) (q0 - c0) i = V := ⟨_, rfl⟩
      rewrite [hV] at hv0 hv1 MD HV
      clear hV
      obtain ⟨S, hS⟩ : ∃ S, ((n : Int) - i) * (n - i) * (p0 - c0) + i * i * (q0 - c0) = S := ⟨_, rfl⟩
      rewrite [hS] at MD WS
      have HS := Lib.hid hS
      clear hS
      go_upto_region 15 with fail
      (refine wp_region_class ((Both (Lf w.heap.size (n2 + 1) [(⟨n2, 0, none⟩, .int .i64 q0), (⟨n2, 1, none⟩, .int .i64 q1), (⟨n2, 2, none⟩, .int .i64 q2), (⟨n1, 0, none⟩, .int .i64 p0), (⟨n1, 1, none⟩, .int .i64 p1), (⟨n1, 2, none⟩, .int .i64 p2), (⟨w.heap.size, 0, none⟩, .int .i64 a0), (⟨w.heap.size, 1, none⟩, .int .i64 a1), (⟨w.heap.size, 2, none⟩, .int .i64 a2), (⟨w.heap.size + 1, 0, none⟩, .int .i64 c0), (⟨w.heap.size + 1, 1, none⟩, .int .i64 c1), (⟨w.heap.size + 1, 2, none⟩, .int .i64 c2), (⟨w.heap.size + 1 + 1, 0, none⟩, .int .i64 b0), (⟨w.heap.size + 1 + 1, 1, none⟩, .int .i64 b1), (⟨w.heap.size + 1 + 1, 2, none⟩, .int .i64 b2)] w) (Inn g (3 * (n + 1)) i 0 G c0 c1 c2))) (⟨hT.l.next (Below.refl _ _).drew, hT.r.next (Below.refl _ _).drew⟩) (by kernel_rfl) (by kernel_rfl) ?_; repeat (refine wpQuiet_step (fun qK9 qH9 => ?_); go_simp; first | (refine qH9 _ ?_; clear qH9 qK9) | (apply Exists.intro; refine ⟨?_, qH9 _ ?_⟩; (first | (intros; rfl) | ((intro wx hC; ((have qk9 := ((hC.l)).cells; simp only [List.forall_mem_cons, List.not_mem_nil, false_implies, implies_true, and_true] at qk9; repeat (obtain ⟨qk8, qk9⟩ := qk9)); go_simp; first | done | rfl)))); clear qH9 qK9)))
      refine wpQuiet_nil ?_
      clear hT
      intro wy hT
      rewrite [WA.out, WM.out, WX.out, WMX.out, WI.out, WY.out, WIY.out, HS.out, WS.out]
      clear WA WM WX WMX WI WY WIY HS WS mx0 mx1 my0 my1 hp0 hq0 ii0 ii1 kk0 kk1 hR
      go_wp2_with fail
      refine (MD _).out.mono ?_
      rintro e wz ⟨rfl, hbz⟩
      have hT := Both.mk (hT.l.next hbz) (hT.r.next hbz)
      clear hbz MD
      have hz := hT.r.z0 (by decide)
      have hf := hT.r.row.frz (i * 3) (by omega)
      have WV := Lib.hid (wr_in (n := c0 + V) (by omega) (by omega))
      go_upto_region 17 with fail
      have hlt : (i : Int) < (n : Int) + 1 := by omega
      refine wp_region_still_tail 10 (by kernel_rfl) (by kernel_rfl) ?_
      simp only [List.take_succ_cons, List.take_zero, List.drop_succ_cons, List.drop_zero]
      change wpStill _ _ (World.drew _) _ _ _
      iterate 10 still_step
      refine wpStill_nil ?_
      change wpList _ _ _ _ _ (World.drew _)
      rewrite [WV.out]
      go_wp2_with fail
      go_roundw
      case rel =>
        have h1 := hT.l.far g (i * 3) (.int .i64 (c0 + V)) hlg
        have h2 := hT.r.step0 (.int .i64 (c0 + V)) (by omega) HV.out
        exact Or.inr (Or.inl ⟨rfl, ⟨h1.next (Below.refl _ _).drew, h2.next (Below.refl _ _).drew⟩⟩)
      case measure => simp [intOf]
    · have HV : Hid (G (i * 3 + 1) = .int .i64 (c1 + coI n (p1 - c1) (q1 - c1) i)) := by
        show G (i * 3 + 1) = _
        rw [← HG.out]
        show Value.int .i64 (coF n p0 p1 p2 c0 c1 c2 q0 q1 q2 ((i * 3 + 1) / 3) ((i * 3 + 1) % 3)) = _
        rw [show (i * 3 + 1) / 3 = i by omega, show (i * 3 + 1) % 3 = 1 by omega]
        rfl
      obtain ⟨mx0, mx1⟩ := mul_bd3 kk0 kk1 hp1.1 hp1.2
      obtain ⟨my0, my1⟩ := mul_bd3 ii0 ii1 hq1.1 hq1.2
      have WX := Lib.hid (wr_in (n := p1 - c1) (by omega) (by omega))
      have WY := Lib.hid (wr_in (n := q1 - c1) (by omega) (by omega))
      have WMX := Lib.hid (wr_in (n := ((n : Int) - i) * (n - i) * (p1 - c1)) (by omega) (by omega))
      have WIY := Lib.hid (wr_in (n := (i : Int) * i * (q1 - c1)) (by omega) (by omega))
      have WS := Lib.hid (wr_in (n := ((n : Int) - i) * (n - i) * (p1 - c1) + i * i * (q1 - c1)) (by omega) (by omega))
      have hv0 := coI_neg_bound (n := n) (x := p1 - c1) (y := q1 - c1) (i := i) (lo := -67108864) (by omega) hi0 hin0 (by decide) hp1.1 hq1.1
      have hv1 := coI_le (n := n) (x := p1 - c1) (y := q1 - c1) (i := i) (hi := 67108864) (by omega) hi0 hin0 (by decide) hp1.2 hq1.2
      have MD : ∀ w, Hid (Calls Try.prog 35 #[.int .i64 (((n : Int) - i) * (n - i) * (p1 - c1) + i * i * (q1 - c1)), .int .i64 1, .int .i64 ((n : Int) * n), .int .i64 2] w fun e w' => e = .returned (.tuple #[.int .i64 (coI n (p1 - c1) (q1 - c1) i), .bool true]) ∧ Below w.heap.size w w') := by
        intro w
        have h := muldiv_any (((n : Int) - i) * (n - i) * (p1 - c1) + i * i * (q1 - c1)) 1 ((n : Int) * n) 2 w (by omega) (by omega) (by omega) (by omega) (by omega) (by omega)
        have hm := md_near (((n : Int) - i) * (n - i) * (p1 - c1) + i * i * (q1 - c1)) ((n : Int) * n) (by omega) (by omega) (nn_pos (by omega)) (by omega)
        rw [hm.1, hm.2] at h
        exact h
      obtain ⟨V, hV⟩ : ∃ V, coI n (p1 - c1) (q1 - c1) i = V := ⟨_, rfl⟩
      rewrite [hV] at hv0 hv1 MD HV
      clear hV
      obtain ⟨S, hS⟩ : ∃ S, ((n : Int) - i) * (n - i) * (p1 - c1) + i * i * (q1 - c1) = S := ⟨_, rfl⟩
      rewrite [hS] at MD WS
      have HS := Lib.hid hS
      clear hS
      go_upto_region 15 with fail
      (refine wp_region_class ((Both (Lf w.heap.size (n2 + 1) [(⟨n2, 0, none⟩, .int .i64 q0), (⟨n2, 1, none⟩, .int .i64 q1), (⟨n2, 2, none⟩, .int .i64 q2), (⟨n1, 0, none⟩, .int .i64 p0), (⟨n1, 1, none⟩, .int .i64 p1), (⟨n1, 2, none⟩, .int .i64 p2), (⟨w.heap.size, 0, none⟩, .int .i64 a0), (⟨w.heap.size, 1, none⟩, .int .i64 a1), (⟨w.heap.size, 2, none⟩, .int .i64 a2), (⟨w.heap.size + 1, 0, none⟩, .int .i64 c0), (⟨w.heap.size + 1, 1, none⟩, .int .i64 c1), (⟨w.heap.size + 1, 2, none⟩, .int .i64 c2), (⟨w.heap.size + 1 + 1, 0, none⟩, .int .i64 b0), (⟨w.heap.size + 1 + 1, 1, none⟩, .int .i64 b1), (⟨w.heap.size + 1 + 1, 2, none⟩, .int .i64 b2)] w) (Inn g (3 * (n + 1)) i 1 G c0 c1 c2))) (⟨hT.l.next (Below.refl _ _).drew, hT.r.next (Below.refl _ _).drew⟩) (by kernel_rfl) (by kernel_rfl) ?_; repeat (refine wpQuiet_step (fun qK9 qH9 => ?_); go_simp; first | (refine qH9 _ ?_; clear qH9 qK9) | (apply Exists.intro; refine ⟨?_, qH9 _ ?_⟩; (first | (intros; rfl) | ((intro wx hC; ((have qk9 := ((hC.l)).cells; simp only [List.forall_mem_cons, List.not_mem_nil, false_implies, implies_true, and_true] at qk9; repeat (obtain ⟨qk8, qk9⟩ := qk9)); go_simp; first | done | rfl)))); clear qH9 qK9)))
      refine wpQuiet_nil ?_
      clear hT
      intro wy hT
      rewrite [WA.out, WM.out, WX.out, WMX.out, WI.out, WY.out, WIY.out, HS.out, WS.out]
      clear WA WM WX WMX WI WY WIY HS WS mx0 mx1 my0 my1 hp1 hq1 ii0 ii1 kk0 kk1 hR
      go_wp2_with fail
      refine (MD _).out.mono ?_
      rintro e wz ⟨rfl, hbz⟩
      have hT := Both.mk (hT.l.next hbz) (hT.r.next hbz)
      clear hbz MD
      have hz := hT.r.z1 (by decide)
      have hf := hT.r.row.frz (i * 3 + 1) (by omega)
      have WV := Lib.hid (wr_in (n := c1 + V) (by omega) (by omega))
      go_upto_region 17 with fail
      have hlt : (i : Int) < (n : Int) + 1 := by omega
      refine wp_region_still_tail 10 (by kernel_rfl) (by kernel_rfl) ?_
      simp only [List.take_succ_cons, List.take_zero, List.drop_succ_cons, List.drop_zero]
      change wpStill _ _ (World.drew _) _ _ _
      iterate 10 still_step
      refine wpStill_nil ?_
      change wpList _ _ _ _ _ (World.drew _)
      rewrite [WV.out]
      go_wp2_with fail
      go_roundw
      case rel =>
        have h1 := hT.l.far g (i * 3 + 1) (.int .i64 (c1 + V)) hlg
        have h2 := hT.r.step1 (.int .i64 (c1 + V)) (by omega) HV.out
        exact Or.inr (Or.inr (Or.inl ⟨rfl, ⟨h1.next (Below.refl _ _).drew, h2.next (Below.refl _ _).drew⟩⟩))
      case measure => simp [intOf]
    · have HV : Hid (G (i * 3 + 2) = .int .i64 (c2 + coI n (p2 - c2) (q2 - c2) i)) := by
        show G (i * 3 + 2) = _
        rw [← HG.out]
        show Value.int .i64 (coF n p0 p1 p2 c0 c1 c2 q0 q1 q2 ((i * 3 + 2) / 3) ((i * 3 + 2) % 3)) = _
        rw [show (i * 3 + 2) / 3 = i by omega, show (i * 3 + 2) % 3 = 2 by omega]
        rfl
      obtain ⟨mx0, mx1⟩ := mul_bd3 kk0 kk1 hp2.1 hp2.2
      obtain ⟨my0, my1⟩ := mul_bd3 ii0 ii1 hq2.1 hq2.2
      have WX := Lib.hid (wr_in (n := p2 - c2) (by omega) (by omega))
      have WY := Lib.hid (wr_in (n := q2 - c2) (by omega) (by omega))
      have WMX := Lib.hid (wr_in (n := ((n : Int) - i) * (n - i) * (p2 - c2)) (by omega) (by omega))
      have WIY := Lib.hid (wr_in (n := (i : Int) * i * (q2 - c2)) (by omega) (by omega))
      have WS := Lib.hid (wr_in (n := ((n : Int) - i) * (n - i) * (p2 - c2) + i * i * (q2 - c2)) (by omega) (by omega))
      have hv0 := coI_neg_bound (n := n) (x := p2 - c2) (y := q2 - c2) (i := i) (lo := -67108864) (by omega) hi0 hin0 (by decide) hp2.1 hq2.1
      have hv1 := coI_le (n := n) (x := p2 - c2) (y := q2 - c2) (i := i) (hi := 67108864) (by omega) hi0 hin0 (by decide) hp2.2 hq2.2
      have MD : ∀ w, Hid (Calls Try.prog 35 #[.int .i64 (((n : Int) - i) * (n - i) * (p2 - c2) + i * i * (q2 - c2)), .int .i64 1, .int .i64 ((n : Int) * n), .int .i64 2] w fun e w' => e = .returned (.tuple #[.int .i64 (coI n (p2 - c2) (q2 - c2) i), .bool true]) ∧ Below w.heap.size w w') := by
        intro w
        have h := muldiv_any (((n : Int) - i) * (n - i) * (p2 - c2) + i * i * (q2 - c2)) 1 ((n : Int) * n) 2 w (by omega) (by omega) (by omega) (by omega) (by omega) (by omega)
        have hm := md_near (((n : Int) - i) * (n - i) * (p2 - c2) + i * i * (q2 - c2)) ((n : Int) * n) (by omega) (by omega) (nn_pos (by omega)) (by omega)
        rw [hm.1, hm.2] at h
        exact h
      obtain ⟨V, hV⟩ : ∃ V, coI n (p2 - c2) (q2 - c2) i = V := ⟨_, rfl⟩
      rewrite [hV] at hv0 hv1 MD HV
      clear hV
      obtain ⟨S, hS⟩ : ∃ S, ((n : Int) - i) * (n - i) * (p2 - c2) + i * i * (q2 - c2) = S := ⟨_, rfl⟩
      rewrite [hS] at MD WS
      have HS := Lib.hid hS
      clear hS
      go_upto_region 15 with fail
      (refine wp_region_class ((Both (Lf w.heap.size (n2 + 1) [(⟨n2, 0, none⟩, .int .i64 q0), (⟨n2, 1, none⟩, .int .i64 q1), (⟨n2, 2, none⟩, .int .i64 q2), (⟨n1, 0, none⟩, .int .i64 p0), (⟨n1, 1, none⟩, .int .i64 p1), (⟨n1, 2, none⟩, .int .i64 p2), (⟨w.heap.size, 0, none⟩, .int .i64 a0), (⟨w.heap.size, 1, none⟩, .int .i64 a1), (⟨w.heap.size, 2, none⟩, .int .i64 a2), (⟨w.heap.size + 1, 0, none⟩, .int .i64 c0), (⟨w.heap.size + 1, 1, none⟩, .int .i64 c1), (⟨w.heap.size + 1, 2, none⟩, .int .i64 c2), (⟨w.heap.size + 1 + 1, 0, none⟩, .int .i64 b0), (⟨w.heap.size + 1 + 1, 1, none⟩, .int .i64 b1), (⟨w.heap.size + 1 + 1, 2, none⟩, .int .i64 b2)] w) (Inn g (3 * (n + 1)) i 2 G c0 c1 c2))) (⟨hT.l.next (Below.refl _ _).drew, hT.r.next (Below.refl _ _).drew⟩) (by kernel_rfl) (by kernel_rfl) ?_; repeat (refine wpQuiet_step (fun qK9 qH9 => ?_); go_simp; first | (refine qH9 _ ?_; clear qH9 qK9) | (apply Exists.intro; refine ⟨?_, qH9 _ ?_⟩; (first | (intros; rfl) | ((intro wx hC; ((have qk9 := ((hC.l)).cells; simp only [List.forall_mem_cons, List.not_mem_nil, false_implies, implies_true, and_true] at qk9; repeat (obtain ⟨qk8, qk9⟩ := qk9)); go_simp; first | done | rfl)))); clear qH9 qK9)))
      refine wpQuiet_nil ?_
      clear hT
      intro wy hT
      rewrite [WA.out, WM.out, WX.out, WMX.out, WI.out, WY.out, WIY.out, HS.out, WS.out]
      clear WA WM WX WMX WI WY WIY HS WS mx0 mx1 my0 my1 hp2 hq2 ii0 ii1 kk0 kk1 hR
      go_wp2_with fail
      refine (MD _).out.mono ?_
      rintro e wz ⟨rfl, hbz⟩
      have hT := Both.mk (hT.l.next hbz) (hT.r.next hbz)
      clear hbz MD
      have hz := hT.r.z2 (by decide)
      have hf := hT.r.row.frz (i * 3 + 2) (by omega)
      have WV := Lib.hid (wr_in (n := c2 + V) (by omega) (by omega))
      go_upto_region 17 with fail
      have hlt : (i : Int) < (n : Int) + 1 := by omega
      refine wp_region_still_tail 10 (by kernel_rfl) (by kernel_rfl) ?_
      simp only [List.take_succ_cons, List.take_zero, List.drop_succ_cons, List.drop_zero]
      change wpStill _ _ (World.drew _) _ _ _
      iterate 10 still_step
      refine wpStill_nil ?_
      change wpList _ _ _ _ _ (World.drew _)
      rewrite [WV.out]
      go_wp2_with fail
      go_roundw
      case rel =>
        have h1 := hT.l.far g (i * 3 + 2) (.int .i64 (c2 + V)) hlg
        have h2 := hT.r.step2 (.int .i64 (c2 + V)) (by omega) HV.out
        exact Or.inr (Or.inr (Or.inr ⟨rfl, ⟨h1.next (Below.refl _ _).drew, h2.next (Below.refl _ _).drew⟩⟩))
      case measure => simp [intOf]
    · go_wp2_with fail
      go_roundw
      case rel => exact ⟨i + 1, by omega, by go_num, hT.l, hT.r.row.cast (by omega)⟩
      case measure => simp [intOf]; omega
  · go_wp2_with fail
    go_ret
    obtain rfl : i = n + 1 := by omega
    have hR := hR.cast (k := 3 * (n + 1)) (by omega)
    rw [← HG.out] at hR
    exact ⟨g, _, rfl, by have := hT.le; omega, hR, hT.be⟩
end Go.Proofs.Ytdjopepipcnmdaa