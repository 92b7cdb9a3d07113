/- Proved here: BlendSmooth returns true for every argument; no conditions but that integers are ints. -/
import Derived.Test.YtdjopepipcnmdaaBn1
import Derived.Test.YtdjopepipcnmdaaBk6
namespace Go.Proofs.Ytdjopepipcnmdaa
open Go.RowKit
set_option linter.unusedVariables false
set_option linter.unusedSimpArgs false
/-- what the walk of BlendSmooth wants of the points -/
theorem smooth_any (a0 a1 a2 c0 c1 c2 b0 b1 b2 tol r : Int) (L : Nat) (F : Nat → Nat → Int) (h : Cnr a0 a1 a2 c0 c1 c2 b0 b1 b2 tol r L F) (ha : Pk a0 a1 a2) (hc : Pk c0 c1 c2) (hb : Pk b0 b1 b2) (ht : 0 ≤ tol) (ht2 : tol ≤ 16000) :
    1 ≤ L ∧ L ≤ 65 ∧ ∀ j, j + 2 < L → ∃ v, v ≤ 1296 ∧ ∀ w, Hid (Calls Try.prog 27 #[.agg #[.int .i64 (F j 0), .int .i64 (F j 1), .int .i64 (F j 2)], .agg #[.int .i64 (F (j + 1) 0), .int .i64 (F (j + 1) 1), .int .i64 (F (j + 1) 2)], .agg #[.int .i64 (F (j + 2) 0), .int .i64 (F (j + 2) 1), .int .i64 (F (j + 2) 2)]] w fun e w' => e = .returned (.int .i64 v) ∧ Below w.heap.size w w') := by
  rcases h.cut ha hc hb with ⟨_, hL, _⟩ | ⟨n, X0, X1, X2, Y0, Y1, Y2, hk⟩
  · exact ⟨by omega, by omega, fun j hj => by omega⟩
  · have hl := hk.len
    have hn := hk.num
    refine ⟨by omega, by omega, fun j hj => ⟨_, hk.smooth ht ht2 j, fun w => ?_⟩⟩
    obtain ⟨x1, x2, x3, x4, x5, x6⟩ := hk.hull ha hc hb (i := j) (by omega)
    obtain ⟨y1, y2, y3, y4, y5, y6⟩ := hk.hull ha hc hb (i := j + 1) (by omega)
    obtain ⟨z1, z2, z3, z4, z5, z6⟩ := hk.hull ha hc hb (i := j + 2) (by omega)
    exact bendRW_any (F j 0) (F j 1) (F j 2) (F (j + 1) 0) (F (j + 1) 1) (F (j + 1) 2) (F (j + 2) 0) (F (j + 2) 1) (F (j + 2) 2) w (by omega) (by omega) (by omega) (by omega) (by omega) (by omega) (by omega) (by omega) (by omega)
set_option maxHeartbeats 8000000 in
set_option maxRecDepth 20000 in
theorem law_BlendSmooth (a0 a1 a2 c0 c1 c2 b0 b1 b2 tol : Int) (w : World) (la0 : -9223372036854775808 ≤ a0) (ua0 : a0 ≤ 9223372036854775807) (la1 : -9223372036854775808 ≤ a1) (ua1 : a1 ≤ 9223372036854775807) (la2 : -9223372036854775808 ≤ a2) (ua2 : a2 ≤ 9223372036854775807) (lc0 : -9223372036854775808 ≤ c0) (uc0 : c0 ≤ 9223372036854775807) (lc1 : -9223372036854775808 ≤ c1) (uc1 : c1 ≤ 9223372036854775807) (lc2 : -9223372036854775808 ≤ c2) (uc2 : c2 ≤ 9223372036854775807) (lb0 : -9223372036854775808 ≤ b0) (ub0 : b0 ≤ 9223372036854775807) (lb1 : -9223372036854775808 ≤ b1) (ub1 : b1 ≤ 9223372036854775807) (lb2 : -9223372036854775808 ≤ b2) (ub2 : b2 ≤ 9223372036854775807) (ltol : -9223372036854775808 ≤ tol) (utol : tol ≤ 9223372036854775807) :
    Calls Try.prog 9 #[.agg #[.int .i64 a0, .int .i64 a1, .int .i64 a2], .agg #[.int .i64 c0, .int .i64 c1, .int .i64 c2], .agg #[.int .i64 b0, .int .i64 b1, .int .i64 b2], .int .i64 tol] w fun e w' => e = .returned (.bool true) ∧ Below w.heap.size w w' := by
  have S0 := fun w => Lib.hid (small3_any a0 a1 a2 c0 c1 c2 b0 b1 b2 tol w)
  clear la0 ua0 la1 ua1 la2 ua2 lc0 uc0 lc1 uc1 lc2 uc2 lb0 ub0 lb1 ub1 lb2 ub2 ltol utol
  have hT0 : Lf w.heap.size (w.heap.size + 1 + 1 + 1) [(⟨w.heap.size, 0, none⟩, .int .i64 a0), (⟨w.heap.size, 1, none⟩, .int .i64 a1), (⟨w.heap.size, 2, none⟩, .int .i64 a2), (⟨w.heap.size + 1, 0, none⟩, .int .i64 c0), (⟨w.heap.size + 1, 1, none⟩, .int .i64 c1), (⟨w.heap.size + 1, 2, none⟩, .int .i64 c2), (⟨w.heap.size + 1 + 1, 0, none⟩, .int .i64 b0), (⟨w.heap.size + 1 + 1, 1, none⟩, .int .i64 b1), (⟨w.heap.size + 1 + 1, 2, none⟩, .int .i64 b2)] w (((w.alloc (.cells #[.int .i64 a0, .int .i64 a1, .int .i64 a2] 23)).alloc (.cells #[.int .i64 c0, .int .i64 c1, .int .i64 c2] 23)).alloc (.cells #[.int .i64 b0, .int .i64 b1, .int .i64 b2] 23)) := ⟨by simp [List.forall_mem_cons, go_sem], by simp [List.forall_mem_cons, go_sem], by simp [List.forall_mem_cons] <;> omega, by simp, by (repeat (first | exact Below.refl _ _ | assumption | refine Below.drew ?_ | (refine Below.alloc ?_ (by simp <;> omega) _) | (refine Below.setCell ?_ (by simp <;> omega) _))), by omega⟩
  cases hA : smK a0 a1 a2 c0 c1 c2 b0 b1 b2 tol
  · rw [hA] at S0
    clear hA
    go_enter Try.func9, Try.ntmps9
    go_wp2_with fail
    refine (awake_any _).mono ?_
    rintro e w1 ⟨rfl, hb1⟩
    have hT := hT0.next hb1
    clear hb1
    have kc := hT.cells
    have kf := hT.frz
    simp only [List.forall_mem_cons, List.not_mem_nil, false_implies, implies_true, and_true] at kc kf
    obtain ⟨yc0, yc1, yc2, yc3, yc4, yc5, yc6, yc7, yc8⟩ := kc
    obtain ⟨yf0, yf1, yf2, yf3, yf4, yf5, yf6, yf7, yf8⟩ := kf
    go_wp2_with fail
    refine (S0 _).out.mono ?_
    rintro e w2 ⟨rfl, hb2⟩
    have hT := hT.next hb2
    go_wp2_with fail
    go_ret
    exact ⟨rfl, hT.be⟩
  rw [hA] at S0
  obtain ⟨ha, hc, hb, ht, ht2⟩ := smK_t hA
  clear hA
  obtain ⟨r, n, F, hrv, hcn, RP, CP, CR⟩ := corner_any a0 a1 a2 c0 c1 c2 b0 b1 b2 tol ha hc hb ht ht2
  obtain ⟨hL1, hL2, HB⟩ := smooth_any a0 a1 a2 c0 c1 c2 b0 b1 b2 tol r n F hcn ha hc hb ht ht2
  clear hcn hrv RP CR ha hc hb ht ht2
  go_enter Try.func9, Try.ntmps9
  go_wp2_with fail
  refine (awake_any _).mono ?_
  rintro e w1 ⟨rfl, hb1⟩
  have hT := hT0.next hb1
  clear hb1 hT0
  have kc := hT.cells
  have kf := hT.frz
  simp only [List.forall_mem_cons, List.not_mem_nil, false_implies, implies_true, and_true] at kc kf
  obtain ⟨yc0, yc1, yc2, yc3, yc4, yc5, yc6, yc7, yc8⟩ := kc
  obtain ⟨yf0, yf1, yf2, yf3, yf4, yf5, yf6, yf7, yf8⟩ := kf
  go_wp2_with fail
  refine (S0 _).out.mono ?_
  rintro e w2 ⟨rfl, hb2⟩
  have hT := hT.next hb2
  clear hb2 yc0 yf0 yc1 yf1 yc2 yf2 yc3 yf3 yc4 yf4 yc5 yf5 yc6 yf6 yc7 yf7 yc8 yf8
  have kc := hT.cells
  have kf := hT.frz
  simp only [List.forall_mem_cons, List.not_mem_nil, false_implies, implies_true, and_true] at kc kf
  obtain ⟨yc0, yc1, yc2, yc3, yc4, yc5, yc6, yc7, yc8⟩ := kc
  obtain ⟨yf0, yf1, yf2, yf3, yf4, yf5, yf6, yf7, yf8⟩ := kf
  go_wp2_with fail
  refine (CP _).out.mono ?_
  rintro e w3 ⟨g, cap, rfl, hg, hr, hb3⟩
  have hC : (Both (Row g (3 * n) (3 * n) (fun j => .int .i64 (F (j / 3) (j % 3)))) (Below w.heap.size w)) w3 := ⟨hr, hT.be.trans (hb3.mono (Nat.le_trans hT.le hT.lt))⟩
  clear hT hr hb3 yc0 yf0 yc1 yf1 yc2 yf2 yc3 yf3 yc4 yf4 yc5 yf5 yc6 yf6 yc7 yf7 yc8 yf8 CP S0
  go_wp2_with fail
  go_loopw [10] (fun t wr => ∃ j : Nat, j ≤ n ∧ t = .int .i64 ((j : Int) + 2) ∧ (Both (Row g (3 * n) (3 * n) (fun j => .int .i64 (F (j / 3) (j % 3)))) (Below w.heap.size w)) wr) (fun t _ => n + 2 - (intOf t).toNat)
  case atStart => exact ⟨0, Nat.zero_le _, rfl, hC⟩
  case round =>
  clear hC
  obtain ⟨j, hjn, rfl, hC⟩ := hrel
  by_cases hj : j + 2 < n
  · have hdec : decide ((j : Int) + 2 < (n : Int)) = true := decide_eq_true (by omega)
    obtain ⟨v, hv, BE⟩ := HB j hj
    go_upto_region 9 with fail
    have w0 : IntKind.i64.wrap (j : Int) = j := wr_in (by omega) (by omega)
    have w1 : IntKind.i64.wrap ((j : Int) + 2 - 1) = (j : Int) + 1 := by rw [wr_in (by omega) (by omega)]; omega
    have w2 : IntKind.i64.wrap ((j : Int) + 1) = (j : Int) + 1 := wr_in (by omega) (by omega)
    have t0 : (j : Int) < n := by omega
    have t1 : (j : Int) + 1 < n := by omega
    have t2 : (j : Int) + 2 < n := by omega
    have g1 : 0 ≤ (j : Int) + 1 := by omega
    have g2 : 0 ≤ (j : Int) + 2 := by omega
    have k1 : ((j : Int) + 1).toNat = j + 1 := by omega
    have k2 : ((j : Int) + 2).toNat = j + 2 := by omega
    (refine wp_region_class (Both (Row g (3 * n) (3 * n) (fun j => .int .i64 (F (j / 3) (j % 3)))) (Below w.heap.size w)) ⟨hC.l.next (Below.refl _ _).drew, hC.r.drew⟩ (by kernel_rfl) (by kernel_rfl) ?_; repeat (refine wpQuiet_step (fun qK9 qH9 => ?_); go_simp; first | (refine qH9 _ ?_; clear qH9 qK9) | (apply Exists.intro; refine ⟨?_, qH9 _ ?_⟩; (first | (intros; rfl) | (first | (intro wx hC; with_reducible exact Calls.lays (BE wx).out (fun _ hb => ⟨hC.l.next hb, hC.r.trans (hb.mono hC.r.size)⟩)) | (intro wx hC; (obtain ⟨e0, e1, e2⟩ := hC.l.point (i := j) (by omega)); (obtain ⟨d0, d1, d2⟩ := hC.l.point (i := j + 1) (by omega)); (obtain ⟨f0, f1, f2⟩ := hC.l.point (i := j + 2) (by omega)); go_simp; first | done | rfl))); clear qH9 qK9)))
    refine wpQuiet_nil ?_
    clear hC w0 w1 w2 t0 t1 t2 g1 g2 k1 k2 BE
    intro wy hC
    go_wp2_with fail
    go_roundw
    case rel => exact ⟨j + 1, by omega, by go_num, hC⟩
    case measure => simp [intOf]; omega
  · have hdec : decide ((j : Int) + 2 < (n : Int)) = false := decide_eq_false (by omega)
    have hpos : decide (0 < n) = true := decide_eq_true (by omega)
    go_wp2_with fail
    go_ret
    exact ⟨rfl, hC.r⟩
end Go.Proofs.Ytdjopepipcnmdaa