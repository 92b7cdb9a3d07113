/- Proved here: CurveMiddleCircle returns true for every argument; no conditions but that integers are ints. -/
import Derived.Test.YtiolnpkieooceaaKm3
import Derived.Test.YtiolnpkieooceaaLe
namespace Go.Proofs.Ytiolnpkieooceaa
open Go.RowKit
set_option linter.unusedVariables false
set_option linter.unusedSimpArgs false
theorem nr_zero (r n : Int) (hr : r.natAbs ≤ 67108864) (hn : 1 ≤ n) : nrI 0 r n = 0 := by
  have h := (nrN_spec 0 r n (by decide) hr hn).1
  have e : nrN 0 r n = 0 := by
    rcases hN : nrN 0 r n with _ | N
    · rfl
    · rw [hN, show 2 * (N + 1) - 1 = 2 * N + 1 by omega] at h
      have h2 := Nat.mul_le_mul (Nat.mul_le_mul (show 1 ≤ 2 * N + 1 by omega) (show 1 ≤ 2 * N + 1 by omega)) (show 1 ≤ n.natAbs by omega)
      simp at h h2; omega
  unfold nrI; rw [if_neg (by omega), e]; rfl
theorem near_len2 (x y r n : Int) (hx : x.natAbs ≤ 67108864) (hy : y.natAbs ≤ 67108864) (hr : 1 ≤ r) (hr2 : r ≤ 67108864) (hn : 1 ≤ n) (he : n = x * x + y * y) :
    (r - 1) * (r - 1) ≤ nrI x r n * nrI x r n + nrI y r n * nrI y r n ∧ nrI x r n * nrI x r n + nrI y r n * nrI y r n ≤ (r + 1) * (r + 1) := by
  have h := near_len x y 0 r n hx hy (by decide) hr hr2 hn (by omega)
  rw [nr_zero r n (by omega) hn] at h
  omega
theorem sq_bdL {x : Int} (h1 : -134217728 ≤ x) (h2 : x ≤ 134217728) : 0 ≤ x * x ∧ x * x ≤ 18014398509481984 := by
  have e : (x * x).natAbs ≤ 134217728 * 134217728 := by rw [Int.natAbs_mul]; exact Nat.mul_le_mul (by omega) (by omega)
  have h : 0 ≤ x * x := by
    have := natAbs_sq' x
    omega
  omega
theorem sq_nn (x : Int) : 0 ≤ x * x := by
  have := natAbs_sq' x
  omega
set_option maxHeartbeats 1000000 in
theorem dotR_w (aU aW aR aH bU bW bR bH : Int) (w : World) (h1 : -1152921504606846976 ≤ aU * bU) (h2 : aU * bU ≤ 1152921504606846976) (h3 : -1152921504606846976 ≤ aW * bW) (h4 : aW * bW ≤ 1152921504606846976) :
    Calls Try.prog 18 #[.agg #[.int .i64 aU, .int .i64 aW, .int .i64 aR, .int .i64 aH], .agg #[.int .i64 bU, .int .i64 bW, .int .i64 bR, .int .i64 bH]] w fun e w' => e = .returned (.int .i64 (aU * bU + aW * bW)) ∧ Below w.heap.size w w' := by
  go_enter Try.func18, Try.ntmps18
  go_wp2_with fail
  go_ret
  exact ⟨rfl, (((Below.refl _ _).alloc (Nat.le_refl _) _).alloc (by simp) _)⟩
set_option maxHeartbeats 8000000 in
set_option maxRecDepth 20000 in
theorem law_circle (aU aW aR aH bU bW bR bH : Int) (back full : Bool) (w : World) (laU : -9223372036854775808 ≤ aU) (uaU : aU ≤ 9223372036854775807) (laW : -9223372036854775808 ≤ aW) (uaW : aW ≤ 9223372036854775807) (laR : -9223372036854775808 ≤ aR) (uaR : aR ≤ 9223372036854775807) (laH : -9223372036854775808 ≤ aH) (uaH : aH ≤ 9223372036854775807) (lbU : -9223372036854775808 ≤ bU) (ubU : bU ≤ 9223372036854775807) (lbW : -9223372036854775808 ≤ bW) (ubW : bW ≤ 9223372036854775807) (lbR : -9223372036854775808 ≤ bR) (ubR : bR ≤ 9223372036854775807) (lbH : -9223372036854775808 ≤ bH) (ubH : bH ≤ 9223372036854775807) :
    Calls Try.prog 6 #[.agg #[.int .i64 aU, .int .i64 aW, .int .i64 aR, .int .i64 aH], .agg #[.int .i64 bU, .int .i64 bW, .int .i64 bR, .int .i64 bH], .bool back, .bool full] w fun e w' => e = .returned (.bool true) ∧ Below w.heap.size w w' := by
  have S0 := fun w => Lib.hid (spoke_any aU aW aR aH w)
  have S1 := fun w => Lib.hid (spoke_any bU bW bR bH w)
  clear laU uaU laW uaW laR uaR laH uaH lbU ubU lbW ubW lbR ubR lbH ubH
  cases hA : spB aU aW aR aH
  · rw [hA] at S0
    clear hA
    cases back
    all_goals
      go_enter Try.func6, Try.ntmps6
      go_wp2_with fail
      refine (awake_any _).mono ?_
      rintro e w1 ⟨rfl, hb1⟩
      have hT : Lf w.heap.size (w.heap.size + 1 + 1) [(⟨w.heap.size, 0, none⟩, .int .i64 aU), (⟨w.heap.size, 1, none⟩, .int .i64 aW), (⟨w.heap.size, 2, none⟩, .int .i64 aR), (⟨w.heap.size, 3, none⟩, .int .i64 aH), (⟨w.heap.size + 1, 0, none⟩, .int .i64 bU), (⟨w.heap.size + 1, 1, none⟩, .int .i64 bW), (⟨w.heap.size + 1, 2, none⟩, .int .i64 bR), (⟨w.heap.size + 1, 3, none⟩, .int .i64 bH)] w w1 := Lf.next (w := ((w.alloc (.cells #[.int .i64 aU, .int .i64 aW, .int .i64 aR, .int .i64 aH] 30)).alloc (.cells #[.int .i64 bU, .int .i64 bW, .int .i64 bR, .int .i64 bH] 30))) ⟨by simp [List.forall_mem_cons, go_sem], by simp [List.forall_mem_cons, go_sem], by simp [List.forall_mem_cons] <;> omega, by simp, by (repeat (first | exact Below.refl _ _ | assumption | refine Below.drew ?_ | (refine Below.alloc ?_ (by simp <;> omega) _) | (refine Below.setCell ?_ (by simp <;> omega) _))), by omega⟩ hb1
      clear hb1
      have kc := hT.cells
      have kf := hT.frz
      simp only [List.forall_mem_cons, List.not_mem_nil, false_implies, implies_true, and_true] at kc kf
      obtain ⟨c0, c1, c2, c3, c4, c5, c6, c7⟩ := kc
      obtain ⟨f0, f1, f2, f3, f4, f5, f6, f7⟩ := kf
      go_wp2_with fail
      refine (S0 _).out.mono ?_
      rintro e w2 ⟨rfl, hb2⟩
      have hT := hT.next hb2
      clear hb2 c0 f0 c1 f1 c2 f2 c3 f3 c4 f4 c5 f5 c6 f6 c7 f7
      have kc := hT.cells
      have kf := hT.frz
      simp only [List.forall_mem_cons, List.not_mem_nil, false_implies, implies_true, and_true] at kc kf
      obtain ⟨c0, c1, c2, c3, c4, c5, c6, c7⟩ := kc
      obtain ⟨f0, f1, f2, f3, f4, f5, f6, f7⟩ := kf
      go_wp2_with fail
      go_ret
      exact ⟨rfl, hT.be⟩
  rw [hA] at S0
  cases hB : spB bU bW bR bH
  · rw [hB] at S1
    clear hA hB
    cases back
    all_goals
      go_enter Try.func6, Try.ntmps6
      go_wp2_with fail
      refine (awake_any _).mono ?_
      rintro e w1 ⟨rfl, hb1⟩
      have hT : Lf w.heap.size (w.heap.size + 1 + 1) [(⟨w.heap.size, 0, none⟩, .int .i64 aU), (⟨w.heap.size, 1, none⟩, .int .i64 aW), (⟨w.heap.size, 2, none⟩, .int .i64 aR), (⟨w.heap.size, 3, none⟩, .int .i64 aH), (⟨w.heap.size + 1, 0, none⟩, .int .i64 bU), (⟨w.heap.size + 1, 1, none⟩, .int .i64 bW), (⟨w.heap.size + 1, 2, none⟩, .int .i64 bR), (⟨w.heap.size + 1, 3, none⟩, .int .i64 bH)] w w1 := Lf.next (w := ((w.alloc (.cells #[.int .i64 aU, .int .i64 aW, .int .i64 aR, .int .i64 aH] 30)).alloc (.cells #[.int .i64 bU, .int .i64 bW, .int .i64 bR, .int .i64 bH] 30))) ⟨by simp [List.forall_mem_cons, go_sem], by simp [List.forall_mem_cons, go_sem], by simp [List.forall_mem_cons] <;> omega, by simp, by (repeat (first | exact Below.refl _ _ | assumption | refine Below.drew ?_ | (refine Below.alloc ?_ (by simp <;> omega) _) | (refine Below.setCell ?_ (by simp <;> omega) _))), by omega⟩ hb1
      clear hb1
      have kc := hT.cells
      have kf := hT.frz
      simp only [List.forall_mem_cons, List.not_mem_nil, false_implies, implies_true, and_true] at kc kf
      obtain ⟨c0, c1, c2, c3, c4, c5, c6, c7⟩ := kc
      obtain ⟨f0, f1, f2, f3, f4, f5, f6, f7⟩ := kf
      go_wp2_with fail
      refine (S0 _).out.mono ?_
      rintro e w2 ⟨rfl, hb2⟩
      have hT := hT.next hb2
      clear hb2 c0 f0 c1 f1 c2 f2 c3 f3 c4 f4 c5 f5 c6 f6 c7 f7
      have kc := hT.cells
      have kf := hT.frz
      simp only [List.forall_mem_cons, List.not_mem_nil, false_implies, implies_true, and_true] at kc kf
      obtain ⟨c0, c1, c2, c3, c4, c5, c6, c7⟩ := kc
      obtain ⟨f0, f1, f2, f3, f4, f5, f6, f7⟩ := kf
      go_wp2_with fail
      refine (S1 _).out.mono ?_
      rintro e w3 ⟨rfl, hb3⟩
      have hT := hT.next hb3
      clear hb3 c0 f0 c1 f1 c2 f2 c3 f3 c4 f4 c5 f5 c6 f6 c7 f7
      have kc := hT.cells
      have kf := hT.frz
      simp only [List.forall_mem_cons, List.not_mem_nil, false_implies, implies_true, and_true] at kc kf
      obtain ⟨c0, c1, c2, c3, c4, c5, c6, c7⟩ := kc
      obtain ⟨f0, f1, f2, f3, f4, f5, f6, f7⟩ := kf
      go_wp2_with fail
      go_ret
      exact ⟨rfl, hT.be⟩
  · rw [hB] at S1
    have sa := spB_t hA
    have sb := spB_t hB
    clear hA hB
    cases back
    ·
      obtain ⟨m0, m1, m2, m3, ok, hM, P0, _⟩ := mid_any aU aW aR aH bU bW bR bH 1 full sa sb
      cases ok
      · obtain ⟨rfl, rfl, rfl, rfl⟩ := hM.no rfl
        clear hM
        go_enter Try.func6, Try.ntmps6
        go_wp2_with fail
        refine (awake_any _).mono ?_
        rintro e w1 ⟨rfl, hb1⟩
        have hT : Lf w.heap.size (w.heap.size + 1 + 1) [(⟨w.heap.size, 0, none⟩, .int .i64 aU), (⟨w.heap.size, 1, none⟩, .int .i64 aW), (⟨w.heap.size, 2, none⟩, .int .i64 aR), (⟨w.heap.size, 3, none⟩, .int .i64 aH), (⟨w.heap.size + 1, 0, none⟩, .int .i64 bU), (⟨w.heap.size + 1, 1, none⟩, .int .i64 bW), (⟨w.heap.size + 1, 2, none⟩, .int .i64 bR), (⟨w.heap.size + 1, 3, none⟩, .int .i64 bH)] w w1 := Lf.next (w := ((w.alloc (.cells #[.int .i64 aU, .int .i64 aW, .int .i64 aR, .int .i64 aH] 30)).alloc (.cells #[.int .i64 bU, .int .i64 bW, .int .i64 bR, .int .i64 bH] 30))) ⟨by simp [List.forall_mem_cons, go_sem], by simp [List.forall_mem_cons, go_sem], by simp [List.forall_mem_cons] <;> omega, by simp, by (repeat (first | exact Below.refl _ _ | assumption | refine Below.drew ?_ | (refine Below.alloc ?_ (by simp <;> omega) _) | (refine Below.setCell ?_ (by simp <;> omega) _))), by omega⟩ hb1
        clear hb1
        have kc := hT.cells
        have kf := hT.frz
        simp only [List.forall_mem_cons, List.not_mem_nil, false_implies, implies_true, and_true] at kc kf
        obtain ⟨c0, c1, c2, c3, c4, c5, c6, c7⟩ := kc
        obtain ⟨f0, f1, f2, f3, f4, f5, f6, f7⟩ := kf
        go_wp2_with fail
        refine (S0 _).out.mono ?_
        rintro e w2 ⟨rfl, hb2⟩
        have hT := hT.next hb2
        clear hb2 c0 f0 c1 f1 c2 f2 c3 f3 c4 f4 c5 f5 c6 f6 c7 f7
        have kc := hT.cells
        have kf := hT.frz
        simp only [List.forall_mem_cons, List.not_mem_nil, false_implies, implies_true, and_true] at kc kf
        obtain ⟨c0, c1, c2, c3, c4, c5, c6, c7⟩ := kc
        obtain ⟨f0, f1, f2, f3, f4, f5, f6, f7⟩ := kf
        go_wp2_with fail
        refine (S1 _).out.mono ?_
        rintro e w3 ⟨rfl, hb3⟩
        have hT := hT.next hb3
        clear hb3 c0 f0 c1 f1 c2 f2 c3 f3 c4 f4 c5 f5 c6 f6 c7 f7
        have kc := hT.cells
        have kf := hT.frz
        simp only [List.forall_mem_cons, List.not_mem_nil, false_implies, implies_true, and_true] at kc kf
        obtain ⟨c0, c1, c2, c3, c4, c5, c6, c7⟩ := kc
        obtain ⟨f0, f1, f2, f3, f4, f5, f6, f7⟩ := kf
        go_wp2_with fail
        refine (P0 _).out.mono ?_
        rintro e w1 ⟨rfl, hb1⟩
        have hT1 := hT.next hb1
        have hz1 := hT1.lt
        clear c0 f0 c1 f1 c2 f2 c3 f3 c4 f4 c5 f5 c6 f6 c7 f7
        go_upto_region 9 with fail
        refine wp_cls (Lf w.heap.size (w1.heap.size + 1) [(⟨w1.heap.size, 0, none⟩, .int .i64 0), (⟨w1.heap.size, 1, none⟩, .int .i64 0), (⟨w1.heap.size, 2, none⟩, .int .i64 0), (⟨w1.heap.size, 3, none⟩, .int .i64 0), (⟨w.heap.size, 0, none⟩, .int .i64 aU), (⟨w.heap.size, 1, none⟩, .int .i64 aW), (⟨w.heap.size, 2, none⟩, .int .i64 aR), (⟨w.heap.size, 3, none⟩, .int .i64 aH), (⟨w.heap.size + 1, 0, none⟩, .int .i64 bU), (⟨w.heap.size + 1, 1, none⟩, .int .i64 bW), (⟨w.heap.size + 1, 2, none⟩, .int .i64 bR), (⟨w.heap.size + 1, 3, none⟩, .int .i64 bH)] w) (hT1.push #[.int .i64 0, .int .i64 0, .int .i64 0, .int .i64 0] 30) ?_
        intro wx hT2
        have kc := hT2.cells
        have kf := hT2.frz
        simp only [List.forall_mem_cons, List.not_mem_nil, false_implies, implies_true, and_true] at kc kf
        obtain ⟨c0, c1, c2, c3, c4, c5, c6, c7, c8, c9, c10, c11⟩ := kc
        obtain ⟨f0, f1, f2, f3, f4, f5, f6, f7, f8, f9, f10, f11⟩ := kf
        go_wp2_with fail
        go_ret
        exact ⟨rfl, hT2.be⟩
      · obtain ⟨e2, e3, e0, e1⟩ := hM.yes rfl
        have hz := (hM.is.1 rfl).2
        have bu := mdU_bd (full := full) (dir := 1) sa sb (by omega)
        have bv := mdW_bd (full := full) (dir := 1) sa sb (by omega)
        have np := sum_pos hz (sq_nn _) (sq_nn _)
        have a1 := sa.r1
        have a2 := sa.r2
        have b1 := sb.r1
        have b2 := sb.r2
        have nl := near_len2 (mdU aU aW bU bW 1 full) (mdW aU aW bU bW 1 full) ((aR + bR + 1) / 2) _ (by omega) (by omega) (by omega) (by omega) np rfl
        rw [← e0, ← e1, ← e2] at nl
        have q0 := sq_nn m0
        have q1 := sq_nn m1
        have k1 : aR + bR ≤ 2 * m2 := by omega
        have k2 : 2 * m2 ≤ aR + bR + 1 := by omega
        have k3 : 1 ≤ m2 := by omega
        have k4 : m2 ≤ 67108864 := by omega
        have q2 := (sq_bdL (x := m2 + 1) (by omega) (by omega)).2
        have q3 := sq_bdL (x := m2 - 1) (by omega) (by omega)
        have DQ := fun w => Lib.hid (dotR_w m0 m1 m2 m3 m0 m1 m2 m3 w (by omega) (by omega) (by omega) (by omega))
        obtain ⟨n1, n2⟩ := nl
        have q4 : 0 ≤ (m2 + 1) * (m2 + 1) := sq_nn _
        obtain ⟨N, hN⟩ : ∃ N, m0 * m0 + m1 * m1 = N := ⟨_, rfl⟩
        rw [hN] at n1 n2
        simp only [hN] at DQ
        clear hM e0 e1 e2 e3 hz bu bv np sa sb hN q0 q1
        obtain ⟨q5, q6⟩ := q3
        have HK := Lib.hid (And.intro n1 (And.intro n2 (And.intro k1 (And.intro k2 (And.intro k3 (And.intro k4 (And.intro q2 (And.intro q4 (And.intro q5 (And.intro q6 (And.intro a1 (And.intro a2 (And.intro b1 b2)))))))))))))
        clear n1 n2 k1 k2 k3 k4 q2 q4 q5 q6 a1 a2 b1 b2
        go_enter Try.func6, Try.ntmps6
        go_wp2_with fail
        refine (awake_any _).mono ?_
        rintro e w1 ⟨rfl, hb1⟩
        have hT : Lf w.heap.size (w.heap.size + 1 + 1) [(⟨w.heap.size, 0, none⟩, .int .i64 aU), (⟨w.heap.size, 1, none⟩, .int .i64 aW), (⟨w.heap.size, 2, none⟩, .int .i64 aR), (⟨w.heap.size, 3, none⟩, .int .i64 aH), (⟨w.heap.size + 1, 0, none⟩, .int .i64 bU), (⟨w.heap.size + 1, 1, none⟩, .int .i64 bW), (⟨w.heap.size + 1, 2, none⟩, .int .i64 bR), (⟨w.heap.size + 1, 3, none⟩, .int .i64 bH)] w w1 := Lf.next (w := ((w.alloc (.cells #[.int .i64 aU, .int .i64 aW, .int .i64 aR, .int .i64 aH] 30)).alloc (.cells #[.int .i64 bU, .int .i64 bW, .int .i64 bR, .int .i64 bH] 30))) ⟨by simp [List.forall_mem_cons, go_sem], by simp [List.forall_mem_cons, go_sem], by simp [List.forall_mem_cons] <;> omega, by simp, by (repeat (first | exact Below.refl _ _ | assumption | refine Below.drew ?_ | (refine Below.alloc ?_ (by simp <;> omega) _) | (refine Below.setCell ?_ (by simp <;> omega) _))), by omega⟩ hb1
        clear hb1
        have kc := hT.cells
        have kf := hT.frz
        simp only [List.forall_mem_cons, List.not_mem_nil, false_implies, implies_true, and_true] at kc kf
        obtain ⟨c0, c1, c2, c3, c4, c5, c6, c7⟩ := kc
        obtain ⟨f0, f1, f2, f3, f4, f5, f6, f7⟩ := kf
        go_wp2_with fail
        refine (S0 _).out.mono ?_
        rintro e w2 ⟨rfl, hb2⟩
        have hT := hT.next hb2
        clear hb2 c0 f0 c1 f1 c2 f2 c3 f3 c4 f4 c5 f5 c6 f6 c7 f7
        have kc := hT.cells
        have kf := hT.frz
        simp only [List.forall_mem_cons, List.not_mem_nil, false_implies, implies_true, and_true] at kc kf
        obtain ⟨c0, c1, c2, c3, c4, c5, c6, c7⟩ := kc
        obtain ⟨f0, f1, f2, f3, f4, f5, f6, f7⟩ := kf
        go_wp2_with fail
        refine (S1 _).out.mono ?_
        rintro e w3 ⟨rfl, hb3⟩
        have hT := hT.next hb3
        clear hb3 c0 f0 c1 f1 c2 f2 c3 f3 c4 f4 c5 f5 c6 f6 c7 f7
        have kc := hT.cells
        have kf := hT.frz
        simp only [List.forall_mem_cons, List.not_mem_nil, false_implies, implies_true, and_true] at kc kf
        obtain ⟨c0, c1, c2, c3, c4, c5, c6, c7⟩ := kc
        obtain ⟨f0, f1, f2, f3, f4, f5, f6, f7⟩ := kf
        go_wp2_with fail
        refine (P0 _).out.mono ?_
        rintro e w1 ⟨rfl, hb1⟩
        have hT1 := hT.next hb1
        have hz1 := hT1.lt
        clear c0 f0 c1 f1 c2 f2 c3 f3 c4 f4 c5 f5 c6 f6 c7 f7
        go_upto_region 9 with fail
        refine wp_cls (Lf w.heap.size (w1.heap.size + 1) [(⟨w1.heap.size, 0, none⟩, .int .i64 m0), (⟨w1.heap.size, 1, none⟩, .int .i64 m1), (⟨w1.heap.size, 2, none⟩, .int .i64 m2), (⟨w1.heap.size, 3, none⟩, .int .i64 m3), (⟨w.heap.size, 0, none⟩, .int .i64 aU), (⟨w.heap.size, 1, none⟩, .int .i64 aW), (⟨w.heap.size, 2, none⟩, .int .i64 aR), (⟨w.heap.size, 3, none⟩, .int .i64 aH), (⟨w.heap.size + 1, 0, none⟩, .int .i64 bU), (⟨w.heap.size + 1, 1, none⟩, .int .i64 bW), (⟨w.heap.size + 1, 2, none⟩, .int .i64 bR), (⟨w.heap.size + 1, 3, none⟩, .int .i64 bH)] w) (hT1.push #[.int .i64 m0, .int .i64 m1, .int .i64 m2, .int .i64 m3] 30) ?_
        intro wx hT2
        have kc := hT2.cells
        have kf := hT2.frz
        simp only [List.forall_mem_cons, List.not_mem_nil, false_implies, implies_true, and_true] at kc kf
        obtain ⟨c0, c1, c2, c3, c4, c5, c6, c7, c8, c9, c10, c11⟩ := kc
        obtain ⟨f0, f1, f2, f3, f4, f5, f6, f7, f8, f9, f10, f11⟩ := kf
        go_wp2_with fail
        refine (DQ _).out.mono ?_
        rintro e w2 ⟨rfl, hb2⟩
        have hT3 := hT2.next hb2
        clear c0 f0 c1 f1 c2 f2 c3 f3 c4 f4 c5 f5 c6 f6 c7 f7 c8 f8 c9 f9 c10 f10 c11 f11 hb2
        have kc := hT3.cells
        have kf := hT3.frz
        simp only [List.forall_mem_cons, List.not_mem_nil, false_implies, implies_true, and_true] at kc kf
        obtain ⟨c0, c1, c2, c3, c4, c5, c6, c7, c8, c9, c10, c11⟩ := kc
        obtain ⟨f0, f1, f2, f3, f4, f5, f6, f7, f8, f9, f10, f11⟩ := kf
        obtain ⟨n1, n2, k1, k2, k3, k4, q2, q4, q5, q6, a1, a2, b1, b2⟩ := HK.out
        go_wp2_with fail
        go_ret
        exact ⟨rfl, hT3.be⟩
    ·
      obtain ⟨m0, m1, m2, m3, ok, hM, P0, _⟩ := mid_any aU aW aR aH bU bW bR bH (-1) full sa sb
      cases ok
      · obtain ⟨rfl, rfl, rfl, rfl⟩ := hM.no rfl
        clear hM
        go_enter Try.func6, Try.ntmps6
        go_wp2_with fail
        refine (awake_any _).mono ?_
        rintro e w1 ⟨rfl, hb1⟩
        have hT : Lf w.heap.size (w.heap.size + 1 + 1) [(⟨w.heap.size, 0, none⟩, .int .i64 aU), (⟨w.heap.size, 1, none⟩, .int .i64 aW), (⟨w.heap.size, 2, none⟩, .int .i64 aR), (⟨w.heap.size, 3, none⟩, .int .i64 aH), (⟨w.heap.size + 1, 0, none⟩, .int .i64 bU), (⟨w.heap.size + 1, 1, none⟩, .int .i64 bW), (⟨w.heap.size + 1, 2, none⟩, .int .i64 bR), (⟨w.heap.size + 1, 3, none⟩, .int .i64 bH)] w w1 := Lf.next (w := ((w.alloc (.cells #[.int .i64 aU, .int .i64 aW, .int .i64 aR, .int .i64 aH] 30)).alloc (.cells #[.int .i64 bU, .int .i64 bW, .int .i64 bR, .int .i64 bH] 30))) ⟨by simp [List.forall_mem_cons, go_sem], by simp [List.forall_mem_cons, go_sem], by simp [List.forall_mem_cons] <;> omega, by simp, by (repeat (first | exact Below.refl _ _ | assumption | refine Below.drew ?_ | (refine Below.alloc ?_ (by simp <;> omega) _) | (refine Below.setCell ?_ (by simp <;> omega) _))), by omega⟩ hb1
        clear hb1
        have kc := hT.cells
        have kf := hT.frz
        simp only [List.forall_mem_cons, List.not_mem_nil, false_implies, implies_true, and_true] at kc kf
        obtain ⟨c0, c1, c2, c3, c4, c5, c6, c7⟩ := kc
        obtain ⟨f0, f1, f2, f3, f4, f5, f6, f7⟩ := kf
        go_wp2_with fail
        refine (S0 _).out.mono ?_
        rintro e w2 ⟨rfl, hb2⟩
        have hT := hT.next hb2
        clear hb2 c0 f0 c1 f1 c2 f2 c3 f3 c4 f4 c5 f5 c6 f6 c7 f7
        have kc := hT.cells
        have kf := hT.frz
        simp only [List.forall_mem_cons, List.not_mem_nil, false_implies, implies_true, and_true] at kc kf
        obtain ⟨c0, c1, c2, c3, c4, c5, c6, c7⟩ := kc
        obtain ⟨f0, f1, f2, f3, f4, f5, f6, f7⟩ := kf
        go_wp2_with fail
        refine (S1 _).out.mono ?_
        rintro e w3 ⟨rfl, hb3⟩
        have hT := hT.next hb3
        clear hb3 c0 f0 c1 f1 c2 f2 c3 f3 c4 f4 c5 f5 c6 f6 c7 f7
        have kc := hT.cells
        have kf := hT.frz
        simp only [List.forall_mem_cons, List.not_mem_nil, false_implies, implies_true, and_true] at kc kf
        obtain ⟨c0, c1, c2, c3, c4, c5, c6, c7⟩ := kc
        obtain ⟨f0, f1, f2, f3, f4, f5, f6, f7⟩ := kf
        go_wp2_with fail
        refine (P0 _).out.mono ?_
        rintro e w1 ⟨rfl, hb1⟩
        have hT1 := hT.next hb1
        have hz1 := hT1.lt
        clear c0 f0 c1 f1 c2 f2 c3 f3 c4 f4 c5 f5 c6 f6 c7 f7
        go_upto_region 9 with fail
        refine wp_cls (Lf w.heap.size (w1.heap.size + 1) [(⟨w1.heap.size, 0, none⟩, .int .i64 0), (⟨w1.heap.size, 1, none⟩, .int .i64 0), (⟨w1.heap.size, 2, none⟩, .int .i64 0), (⟨w1.heap.size, 3, none⟩, .int .i64 0), (⟨w.heap.size, 0, none⟩, .int .i64 aU), (⟨w.heap.size, 1, none⟩, .int .i64 aW), (⟨w.heap.size, 2, none⟩, .int .i64 aR), (⟨w.heap.size, 3, none⟩, .int .i64 aH), (⟨w.heap.size + 1, 0, none⟩, .int .i64 bU), (⟨w.heap.size + 1, 1, none⟩, .int .i64 bW), (⟨w.heap.size + 1, 2, none⟩, .int .i64 bR), (⟨w.heap.size + 1, 3, none⟩, .int .i64 bH)] w) (hT1.push #[.int .i64 0, .int .i64 0, .int .i64 0, .int .i64 0] 30) ?_
        intro wx hT2
        have kc := hT2.cells
        have kf := hT2.frz
        simp only [List.forall_mem_cons, List.not_mem_nil, false_implies, implies_true, and_true] at kc kf
        obtain ⟨c0, c1, c2, c3, c4, c5, c6, c7, c8, c9, c10, c11⟩ := kc
        obtain ⟨f0, f1, f2, f3, f4, f5, f6, f7, f8, f9, f10, f11⟩ := kf
        go_wp2_with fail
        go_ret
        exact ⟨rfl, hT2.be⟩
      · obtain ⟨e2, e3, e0, e1⟩ := hM.yes rfl
        have hz := (hM.is.1 rfl).2
        have bu := mdU_bd (full := full) (dir := (-1)) sa sb (by omega)
        have bv := mdW_bd (full := full) (dir := (-1)) sa sb (by omega)
        have np := sum_pos hz (sq_nn _) (sq_nn _)
        have a1 := sa.r1
        have a2 := sa.r2
        have b1 := sb.r1
        have b2 := sb.r2
        have nl := near_len2 (mdU aU aW bU bW (-1) full) (mdW aU aW bU bW (-1) full) ((aR + bR + 1) / 2) _ (by omega) (by omega) (by omega) (by omega) np rfl
        rw [← e0, ← e1, ← e2] at nl
        have q0 := sq_nn m0
        have q1 := sq_nn m1
        have k1 : aR + bR ≤ 2 * m2 := by omega
        have k2 : 2 * m2 ≤ aR + bR + 1 := by omega
        have k3 : 1 ≤ m2 := by omega
        have k4 : m2 ≤ 67108864 := by omega
        have q2 := (sq_bdL (x := m2 + 1) (by omega) (by omega)).2
        have q3 := sq_bdL (x := m2 - 1) (by omega) (by omega)
        have DQ := fun w => Lib.hid (dotR_w m0 m1 m2 m3 m0 m1 m2 m3 w (by omega) (by omega) (by omega) (by omega))
        obtain ⟨n1, n2⟩ := nl
        have q4 : 0 ≤ (m2 + 1) * (m2 + 1) := sq_nn _
        obtain ⟨N, hN⟩ : ∃ N, m0 * m0 + m1 * m1 = N := ⟨_, rfl⟩
        rw [hN] at n1 n2
        simp only [hN] at DQ
        clear hM e0 e1 e2 e3 hz bu bv np sa sb hN q0 q1
        obtain ⟨q5, q6⟩ := q3
        have HK := Lib.hid (And.intro n1 (And.intro n2 (And.intro k1 (And.intro k2 (And.intro k3 (And.intro k4 (And.intro q2 (And.intro q4 (And.intro q5 (And.intro q6 (And.intro a1 (And.intro a2 (And.intro b1 b2)))))))))))))
        clear n1 n2 k1 k2 k3 k4 q2 q4 q5 q6 a1 a2 b1 b2
        go_enter Try.func6, Try.ntmps6
        go_wp2_with fail
        refine (awake_any _).mono ?_
        rintro e w1 ⟨rfl, hb1⟩
        have hT : Lf w.heap.size (w.heap.size + 1 + 1) [(⟨w.heap.size, 0, none⟩, .int .i64 aU), (⟨w.heap.size, 1, none⟩, .int .i64 aW), (⟨w.heap.size, 2, none⟩, .int .i64 aR), (⟨w.heap.size, 3, none⟩, .int .i64 aH), (⟨w.heap.size + 1, 0, none⟩, .int .i64 bU), (⟨w.heap.size + 1, 1, none⟩, .int .i64 bW), (⟨w.heap.size + 1, 2, none⟩, .int .i64 bR), (⟨w.heap.size + 1, 3, none⟩, .int .i64 bH)] w w1 := Lf.next (w := ((w.alloc (.cells #[.int .i64 aU, .int .i64 aW, .int .i64 aR, .int .i64 aH] 30)).alloc (.cells #[.int .i64 bU, .int .i64 bW, .int .i64 bR, .int .i64 bH] 30))) ⟨by simp [List.forall_mem_cons, go_sem], by simp [List.forall_mem_cons, go_sem], by simp [List.forall_mem_cons] <;> omega, by simp, by (repeat (first | exact Below.refl _ _ | assumption | refine Below.drew ?_ | (refine Below.alloc ?_ (by simp <;> omega) _) | (refine Below.setCell ?_ (by simp <;> omega) _))), by omega⟩ hb1
        clear hb1
        have kc := hT.cells
        have kf := hT.frz
        simp only [List.forall_mem_cons, List.not_mem_nil, false_implies, implies_true, and_true] at kc kf
        obtain ⟨c0, c1, c2, c3, c4, c5, c6, c7⟩ := kc
        obtain ⟨f0, f1, f2, f3, f4, f5, f6, f7⟩ := kf
        go_wp2_with fail
        refine (S0 _).out.mono ?_
        rintro e w2 ⟨rfl, hb2⟩
        have hT := hT.next hb2
        clear hb2 c0 f0 c1 f1 c2 f2 c3 f3 c4 f4 c5 f5 c6 f6 c7 f7
        have kc := hT.cells
        have kf := hT.frz
        simp only [List.forall_mem_cons, List.not_mem_nil, false_implies, implies_true, and_true] at kc kf
        obtain ⟨c0, c1, c2, c3, c4, c5, c6, c7⟩ := kc
        obtain ⟨f0, f1, f2, f3, f4, f5, f6, f7⟩ := kf
        go_wp2_with fail
        refine (S1 _).out.mono ?_
        rintro e w3 ⟨rfl, hb3⟩
        have hT := hT.next hb3
        clear hb3 c0 f0 c1 f1 c2 f2 c3 f3 c4 f4 c5 f5 c6 f6 c7 f7
        have kc := hT.cells
        have kf := hT.frz
        simp only [List.forall_mem_cons, List.not_mem_nil, false_implies, implies_true, and_true] at kc kf
        obtain ⟨c0, c1, c2, c3, c4, c5, c6, c7⟩ := kc
        obtain ⟨f0, f1, f2, f3, f4, f5, f6, f7⟩ := kf
        go_wp2_with fail
        refine (P0 _).out.mono ?_
        rintro e w1 ⟨rfl, hb1⟩
        have hT1 := hT.next hb1
        have hz1 := hT1.lt
        clear c0 f0 c1 f1 c2 f2 c3 f3 c4 f4 c5 f5 c6 f6 c7 f7
        go_upto_region 9 with fail
        refine wp_cls (Lf w.heap.size (w1.heap.size + 1) [(⟨w1.heap.size, 0, none⟩, .int .i64 m0), (⟨w1.heap.size, 1, none⟩, .int .i64 m1), (⟨w1.heap.size, 2, none⟩, .int .i64 m2), (⟨w1.heap.size, 3, none⟩, .int .i64 m3), (⟨w.heap.size, 0, none⟩, .int .i64 aU), (⟨w.heap.size, 1, none⟩, .int .i64 aW), (⟨w.heap.size, 2, none⟩, .int .i64 aR), (⟨w.heap.size, 3, none⟩, .int .i64 aH), (⟨w.heap.size + 1, 0, none⟩, .int .i64 bU), (⟨w.heap.size + 1, 1, none⟩, .int .i64 bW), (⟨w.heap.size + 1, 2, none⟩, .int .i64 bR), (⟨w.heap.size + 1, 3, none⟩, .int .i64 bH)] w) (hT1.push #[.int .i64 m0, .int .i64 m1, .int .i64 m2, .int .i64 m3] 30) ?_
        intro wx hT2
        have kc := hT2.cells
        have kf := hT2.frz
        simp only [List.forall_mem_cons, List.not_mem_nil, false_implies, implies_true, and_true] at kc kf
        obtain ⟨c0, c1, c2, c3, c4, c5, c6, c7, c8, c9, c10, c11⟩ := kc
        obtain ⟨f0, f1, f2, f3, f4, f5, f6, f7, f8, f9, f10, f11⟩ := kf
        go_wp2_with fail
        refine (DQ _).out.mono ?_
        rintro e w2 ⟨rfl, hb2⟩
        have hT3 := hT2.next hb2
        clear c0 f0 c1 f1 c2 f2 c3 f3 c4 f4 c5 f5 c6 f6 c7 f7 c8 f8 c9 f9 c10 f10 c11 f11 hb2
        have kc := hT3.cells
        have kf := hT3.frz
        simp only [List.forall_mem_cons, List.not_mem_nil, false_implies, implies_true, and_true] at kc kf
        obtain ⟨c0, c1, c2, c3, c4, c5, c6, c7, c8, c9, c10, c11⟩ := kc
        obtain ⟨f0, f1, f2, f3, f4, f5, f6, f7, f8, f9, f10, f11⟩ := kf
        obtain ⟨n1, n2, k1, k2, k3, k4, q2, q4, q5, q6, a1, a2, b1, b2⟩ := HK.out
        go_wp2_with fail
        go_ret
        exact ⟨rfl, hT3.be⟩
end Go.Proofs.Ytiolnpkieooceaa
