/- Proved here: CurveMiddleBetween returns true for every argument; no conditions but that integers are ints. -/
import Derived.Test.YtiolnpkieooceaaKn2
namespace Go.Proofs.Ytiolnpkieooceaa
open Go.RowKit
set_option linter.unusedVariables false
set_option linter.unusedSimpArgs false
theorem nrI_bd2 {x r n : Int} (hx : -67108864 ≤ x) (hx2 : x ≤ 67108864) (hr : 0 ≤ r) (hr2 : r ≤ 67108864) (hn : 1 ≤ n) (hxn : x * x ≤ n) : -r ≤ nrI x r n ∧ nrI x r n ≤ r := by
  have h := (nrN_spec x r n (by omega) (by omega) hn).1
  have hX : x.natAbs * x.natAbs ≤ n.natAbs := by have := natAbs_sq' x; omega
  have h2 : nrN x r n ≤ r.natAbs := by
    generalize nrN x r n = N at *
    generalize x.natAbs = X at *
    generalize r.natAbs = R at *
    have hd : 0 < n.natAbs := by omega
    generalize n.natAbs = d at *
    have e1 : 4 * (X * R * (X * R)) = 4 * (R * R) * (X * X) := by grind
    have e2 := Nat.mul_le_mul_left (4 * (R * R)) hX
    have e3 : (2 * N - 1) * (2 * N - 1) ≤ 4 * (R * R) := Nat.le_of_mul_le_mul_right (by omega) hd
    have e4 : 2 * R * (2 * R) = 4 * (R * R) := by grind
    have := le_of_sq (a := 2 * N - 1) (b := 2 * R) (by omega)
    omega
  unfold nrI; split <;> omega
def rdB (u v r : Int) : Bool := decide (128 ≤ r) && (decide ((r - 1) * (r - 1) ≤ u * u + v * v) && decide (u * u + v * v ≤ (r + 1) * (r + 1)))
theorem rdB_t {u v r : Int} (h : rdB u v r = true) : Rd u v r := by
  unfold rdB at h
  rw [Bool.and_eq_true, Bool.and_eq_true, decide_eq_true_eq, decide_eq_true_eq, decide_eq_true_eq] at h
  exact ⟨h.1, h.2.1, h.2.2⟩
set_option maxHeartbeats 2000000 in
theorem round_any (u v r h : Int) (w : World) (s : Sp u v r h) : Calls Try.prog 19 #[.agg #[.int .i64 u, .int .i64 v, .int .i64 r, .int .i64 h]] w fun e w' => e = .returned (.bool (rdB u v r)) ∧ Below w.heap.size w w' := by
  obtain ⟨s1, s2, s3, s4, s5, s6, s7, s8⟩ := s
  have q1 := sq_bdK (x := u) (by omega) (by omega)
  have q2 := sq_bdK (x := v) (by omega) (by omega)
  have q3 := sq_bdL (x := r - 1) (by omega) (by omega)
  have q4 := sq_bdL (x := r + 1) (by omega) (by omega)
  have DQ := fun w => Lib.hid (dotR_w u v r h u v r h w (by omega) (by omega) (by omega) (by omega))
  have HB : Hid (rdB u v r = (decide (128 ≤ r) && (decide ((r - 1) * (r - 1) ≤ u * u + v * v) && decide (u * u + v * v ≤ (r + 1) * (r + 1))))) := rfl
  have hn0 : 0 ≤ u * u + v * v := by omega
  have hn1 : u * u + v * v ≤ 9007199254740992 := by omega
  generalize rdB u v r = K at *
  obtain ⟨n, hn⟩ : ∃ n, u * u + v * v = n := ⟨_, rfl⟩
  rw [hn] at hn0 hn1
  simp only [hn] at DQ HB
  clear hn q1 q2
  obtain ⟨q5, q6⟩ := q3
  obtain ⟨q7, q8⟩ := q4
  have hT : Lf w.heap.size (w.heap.size + 1) [(⟨w.heap.size, 0, none⟩, .int .i64 u), (⟨w.heap.size, 1, none⟩, .int .i64 v), (⟨w.heap.size, 2, none⟩, .int .i64 r), (⟨w.heap.size, 3, none⟩, .int .i64 h)] w (w.alloc (.cells #[.int .i64 u, .int .i64 v, .int .i64 r, .int .i64 h] 30)) :=
    ⟨by simp [List.forall_mem_cons, go_sem], by simp [List.forall_mem_cons, go_sem], by simp [List.forall_mem_cons] <;> omega, by simp, by (repeat (first | exact Below.refl _ _ | assumption | refine Below.drew ?_ | (refine Below.alloc ?_ (by simp <;> omega) _) | (refine Below.setCell ?_ (by simp <;> omega) _))), by omega⟩
  by_cases h1 : 128 ≤ r
  · by_cases h2 : (r - 1) * (r - 1) ≤ n
    · have HQ : Hid (K = decide (n ≤ (r + 1) * (r + 1))) := by show K = _; rw [HB.out, decide_eq_true h1, decide_eq_true h2]; simp
      clear HB
      go_enter Try.func19, Try.ntmps19
      go_wp2_with fail
      refine (DQ _).out.mono ?_
      rintro e w1 ⟨rfl, hb1⟩
      have hT := hT.next hb1
      have kc := hT.cells
      have kf := hT.frz
      simp only [List.forall_mem_cons, List.not_mem_nil, false_implies, implies_true, and_true] at kc kf
      obtain ⟨c0, c1, c2, c3⟩ := kc
      obtain ⟨f0, f1, f2, f3⟩ := kf
      go_wp2_with fail
      go_ret
      exact ⟨by rw [HQ.out]; rfl, hT.be⟩
    · have h3 : decide ((r - 1) * (r - 1) ≤ n) = false := decide_eq_false h2
      have HQ : Hid (K = false) := by show K = _; rw [HB.out, h3]; simp
      clear HB
      go_enter Try.func19, Try.ntmps19
      go_wp2_with fail
      refine (DQ _).out.mono ?_
      rintro e w1 ⟨rfl, hb1⟩
      have hT := hT.next hb1
      have kc := hT.cells
      have kf := hT.frz
      simp only [List.forall_mem_cons, List.not_mem_nil, false_implies, implies_true, and_true] at kc kf
      obtain ⟨c0, c1, c2, c3⟩ := kc
      obtain ⟨f0, f1, f2, f3⟩ := kf
      go_wp2_with fail
      go_ret
      exact ⟨by rw [HQ.out]; rfl, hT.be⟩
  · have h3 : decide (128 ≤ r) = false := decide_eq_false h1
    have HQ : Hid (K = false) := by show K = _; rw [HB.out, h3]; simp
    clear HB
    go_enter Try.func19, Try.ntmps19
    go_wp2_with fail
    refine (DQ _).out.mono ?_
    rintro e w1 ⟨rfl, hb1⟩
    have hT := hT.next hb1
    have kc := hT.cells
    have kf := hT.frz
    simp only [List.forall_mem_cons, List.not_mem_nil, false_implies, implies_true, and_true] at kc kf
    obtain ⟨c0, c1, c2, c3⟩ := kc
    obtain ⟨f0, f1, f2, f3⟩ := kf
    go_wp2_with fail
    go_ret
    exact ⟨by rw [HQ.out]; rfl, hT.be⟩
theorem between_p (aU aW aR aH bU bW bR bH m0 m1 m2 m3 : Int) (ok : Bool) (sa : Sp aU aW aR aH) (sb : Sp bU bW bR bH) (ra : Rd aU aW aR) (rb : Rd bU bW bR) (h1 : aR - bR ≤ 16) (h2 : bR - aR ≤ 16) (hX : 0 < aU * bW - aW * bU) (hS : 32 * min aR bR - 64 < (aU - bU) * (aU - bU) + (aW - bW) * (aW - bW)) (hM : Mid aU aW aR aH bU bW bR bH 1 false m0 m1 m2 m3 ok) :
    ok = true ∧ (0 < aU * m1 - aW * m0) ∧ (0 < m0 * bW - m1 * bU) ∧ (-67108864 ≤ m0 ∧ m0 ≤ 67108864) ∧ -67108864 ≤ m1 ∧ m1 ≤ 67108864 := by
  obtain ⟨a1, a2, a3, a4, a5, a6, a7, a8⟩ := sa
  obtain ⟨b1, b2, b3, b4, b5, b6, b7, b8⟩ := sb
  have g1 := ra.big
  have g2 := rb.big
  have hX2 : bU * aW - bW * aU = -(aU * bW - aW * bU) := by grind
  have hS2 : (bU - aU) * (bU - aU) + (bW - aW) * (bW - aW) = (aU - bU) * (aU - bU) + (aW - bW) * (aW - bW) := by grind
  obtain ⟨k1, k2⟩ := between_one aU aW bU bW aR bR (min aR bR) ra rb (by omega) (by omega) (by omega) (by omega) (by omega) (by omega) (by omega) (by omega) ⟨by omega, by omega⟩ ⟨by omega, by omega⟩ ⟨by omega, by omega⟩ ⟨by omega, by omega⟩ (by omega) (by omega)
  rw [show (aR + bR + 1) / 2 = (aR + bR + 1) / 2 by omega] at k1 k2
  have hm : ∀ (x y : Int), mdU aU aW bU bW 1 false = x → mdW aU aW bU bW 1 false = y → -67108864 ≤ x → x ≤ 67108864 → -67108864 ≤ y → y ≤ 67108864 → 1 ≤ x * x + y * y → 0 < aU * nrI y ((aR + bR + 1) / 2) (x * x + y * y) - aW * nrI x ((aR + bR + 1) / 2) (x * x + y * y) → 0 < -bU * nrI y ((aR + bR + 1) / 2) (x * x + y * y) - -bW * nrI x ((aR + bR + 1) / 2) (x * x + y * y) → ok = true ∧ (0 < aU * m1 - aW * m0) ∧ (0 < m0 * bW - m1 * bU) ∧ (-67108864 ≤ m0 ∧ m0 ≤ 67108864) ∧ -67108864 ≤ m1 ∧ m1 ≤ 67108864 := by
    intro x y ex ey x1 x2 y1 y2 hN c1 c2
    have hok : ok = true := hM.is.2 ⟨by omega, by
      rw [ex, ey]
      rintro ⟨rfl, rfl⟩
      simp at hN⟩
    obtain ⟨_, _, e0, e1⟩ := hM.yes hok
    rw [ex, ey] at e0 e1
    rw [← e0, ← e1] at c1 c2
    have t0 := nrI_bd2 (x := x) (r := (aR + bR + 1) / 2) (n := x * x + y * y) x1 x2 (by omega) (by omega) hN (by have := sq_nn y; omega)
    have t1 := nrI_bd2 (x := y) (r := (aR + bR + 1) / 2) (n := x * x + y * y) y1 y2 (by omega) (by omega) hN (by have := sq_nn x; omega)
    rw [← e0] at t0
    rw [← e1] at t1
    have n1 : -bU * m1 - -bW * m0 = m0 * bW - m1 * bU := by grind
    have n3 : -bU * m1 - -bW * m0 = -(bU * m1 - bW * m0) := by grind
    have n2 : aU * m1 - aW * m0 = -(m0 * aW - m1 * aU) := by grind
    exact ⟨hok, by omega, by omega, by omega, by omega⟩
  by_cases hD : aU * bU + aW * bW ≤ 0
  · obtain ⟨c0, c1, c2⟩ := k1 (by exact hD)
    exact hm (bW - aW) (aU - bU) (by unfold mdU; simp only [Bool.false_eq_true, if_false]; rw [if_pos hD]; omega) (by unfold mdW; simp only [Bool.false_eq_true, if_false]; rw [if_pos hD]; omega) (by omega) (by omega) (by omega) (by omega) c0 c1 c2
  · obtain ⟨c0, c1, c2⟩ := k2 (by omega)
    exact hm (aU + bU) (aW + bW) (by unfold mdU; simp only [Bool.false_eq_true, if_false]; rw [if_neg hD, if_neg (by omega)]) (by unfold mdW; simp only [Bool.false_eq_true, if_false]; rw [if_neg hD, if_neg (by omega)]) (by omega) (by omega) (by omega) (by omega) c0 c1 c2
theorem between_m (aU aW aR aH bU bW bR bH m0 m1 m2 m3 : Int) (ok : Bool) (sa : Sp aU aW aR aH) (sb : Sp bU bW bR bH) (ra : Rd aU aW aR) (rb : Rd bU bW bR) (h1 : aR - bR ≤ 16) (h2 : bR - aR ≤ 16) (hX : aU * bW - aW * bU < 0) (hS : 32 * min aR bR - 64 < (aU - bU) * (aU - bU) + (aW - bW) * (aW - bW)) (hM : Mid aU aW aR aH bU bW bR bH (-1) false m0 m1 m2 m3 ok) :
    ok = true ∧ (aU * m1 - aW * m0 < 0) ∧ (m0 * bW - m1 * bU < 0) ∧ (-67108864 ≤ m0 ∧ m0 ≤ 67108864) ∧ -67108864 ≤ m1 ∧ m1 ≤ 67108864 := by
  obtain ⟨a1, a2, a3, a4, a5, a6, a7, a8⟩ := sa
  obtain ⟨b1, b2, b3, b4, b5, b6, b7, b8⟩ := sb
  have g1 := ra.big
  have g2 := rb.big
  have hX2 : bU * aW - bW * aU = -(aU * bW - aW * bU) := by grind
  have hS2 : (bU - aU) * (bU - aU) + (bW - aW) * (bW - aW) = (aU - bU) * (aU - bU) + (aW - bW) * (aW - bW) := by grind
  obtain ⟨k1, k2⟩ := between_one bU bW aU aW bR aR (min aR bR) rb ra (by omega) (by omega) (by omega) (by omega) (by omega) (by omega) (by omega) (by omega) ⟨by omega, by omega⟩ ⟨by omega, by omega⟩ ⟨by omega, by omega⟩ ⟨by omega, by omega⟩ (by omega) (by omega)
  rw [show (bR + aR + 1) / 2 = (aR + bR + 1) / 2 by omega] at k1 k2
  have hm : ∀ (x y : Int), mdU aU aW bU bW (-1) false = x → mdW aU aW bU bW (-1) false = y → -67108864 ≤ x → x ≤ 67108864 → -67108864 ≤ y → y ≤ 67108864 → 1 ≤ x * x + y * y → 0 < bU * nrI y ((aR + bR + 1) / 2) (x * x + y * y) - bW * nrI x ((aR + bR + 1) / 2) (x * x + y * y) → 0 < -aU * nrI y ((aR + bR + 1) / 2) (x * x + y * y) - -aW * nrI x ((aR + bR + 1) / 2) (x * x + y * y) → ok = true ∧ (aU * m1 - aW * m0 < 0) ∧ (m0 * bW - m1 * bU < 0) ∧ (-67108864 ≤ m0 ∧ m0 ≤ 67108864) ∧ -67108864 ≤ m1 ∧ m1 ≤ 67108864 := by
    intro x y ex ey x1 x2 y1 y2 hN c1 c2
    have hok : ok = true := hM.is.2 ⟨by omega, by
      rw [ex, ey]
      rintro ⟨rfl, rfl⟩
      simp at hN⟩
    obtain ⟨_, _, e0, e1⟩ := hM.yes hok
    rw [ex, ey] at e0 e1
    rw [← e0, ← e1] at c1 c2
    have t0 := nrI_bd2 (x := x) (r := (aR + bR + 1) / 2) (n := x * x + y * y) x1 x2 (by omega) (by omega) hN (by have := sq_nn y; omega)
    have t1 := nrI_bd2 (x := y) (r := (aR + bR + 1) / 2) (n := x * x + y * y) y1 y2 (by omega) (by omega) hN (by have := sq_nn x; omega)
    rw [← e0] at t0
    rw [← e1] at t1
    have n1 : -aU * m1 - -aW * m0 = m0 * aW - m1 * aU := by grind
    have n3 : -aU * m1 - -aW * m0 = -(aU * m1 - aW * m0) := by grind
    have n2 : bU * m1 - bW * m0 = -(m0 * bW - m1 * bU) := by grind
    exact ⟨hok, by omega, by omega, by omega, by omega⟩
  by_cases hD : aU * bU + aW * bW ≤ 0
  · obtain ⟨c0, c1, c2⟩ := k1 (by have e9 : bU * aU + bW * aW = aU * bU + aW * bW := (by grind); omega)
    exact hm (aW - bW) (bU - aU) (by unfold mdU; simp only [Bool.false_eq_true, if_false]; rw [if_pos hD]; omega) (by unfold mdW; simp only [Bool.false_eq_true, if_false]; rw [if_pos hD]; omega) (by omega) (by omega) (by omega) (by omega) c0 c1 c2
  · obtain ⟨c0, c1, c2⟩ := k2 (by have e9 : bU * aU + bW * aW = aU * bU + aW * bW := (by grind); omega)
    exact hm (bU + aU) (bW + aW) (by unfold mdU; simp only [Bool.false_eq_true, if_false]; rw [if_neg hD, if_neg (by omega)]; omega) (by unfold mdW; simp only [Bool.false_eq_true, if_false]; rw [if_neg hD, if_neg (by omega)]; omega) (by omega) (by omega) (by omega) (by omega) c0 c1 c2
set_option maxHeartbeats 16000000 in
set_option maxRecDepth 20000 in
theorem law_between_p (aU aW aR aH bU bW bR bH : Int) (w : World) :
    Calls Try.prog 7 #[.agg #[.int .i64 aU, .int .i64 aW, .int .i64 aR, .int .i64 aH], .agg #[.int .i64 bU, .int .i64 bW, .int .i64 bR, .int .i64 bH], .bool false] w fun e w' => e = .returned (.bool true) ∧ Below w.heap.size w w' := by
  have S0 := fun w => Lib.hid (spoke_any aU aW aR aH w)
  have S1 := fun w => Lib.hid (spoke_any bU bW bR bH w)
  cases hA : spB aU aW aR aH
  · rw [hA] at S0
    clear hA
    go_enter Try.func7, Try.ntmps7
    go_wp2_with fail
    refine (awake_any _).mono ?_
    rintro e w1 ⟨rfl, hb1⟩
    have hT : Lf w.heap.size (w.heap.size + 1 + 1) [(⟨w.heap.size, 0, none⟩, .int .i64 aU), (⟨w.heap.size, 1, none⟩, .int .i64 aW), (⟨w.heap.size, 2, none⟩, .int .i64 aR), (⟨w.heap.size, 3, none⟩, .int .i64 aH), (⟨w.heap.size + 1, 0, none⟩, .int .i64 bU), (⟨w.heap.size + 1, 1, none⟩, .int .i64 bW), (⟨w.heap.size + 1, 2, none⟩, .int .i64 bR), (⟨w.heap.size + 1, 3, none⟩, .int .i64 bH)] w w1 := Lf.next (w := ((w.alloc (.cells #[.int .i64 aU, .int .i64 aW, .int .i64 aR, .int .i64 aH] 30)).alloc (.cells #[.int .i64 bU, .int .i64 bW, .int .i64 bR, .int .i64 bH] 30))) ⟨by simp [List.forall_mem_cons, go_sem], by simp [List.forall_mem_cons, go_sem], by simp [List.forall_mem_cons] <;> omega, by simp, by (repeat (first | exact Below.refl _ _ | assumption | refine Below.drew ?_ | (refine Below.alloc ?_ (by simp <;> omega) _) | (refine Below.setCell ?_ (by simp <;> omega) _))), by omega⟩ hb1
    clear hb1
    have kc := hT.cells
    have kf := hT.frz
    simp only [List.forall_mem_cons, List.not_mem_nil, false_implies, implies_true, and_true] at kc kf
    obtain ⟨c0, c1, c2, c3, c4, c5, c6, c7⟩ := kc
    obtain ⟨f0, f1, f2, f3, f4, f5, f6, f7⟩ := kf
    go_wp2_with fail
    refine (S0 _).out.mono ?_
    rintro e w2 ⟨rfl, hb2⟩
    have hT := hT.next hb2
    clear hb2 c0 f0 c1 f1 c2 f2 c3 f3 c4 f4 c5 f5 c6 f6 c7 f7
    have kc := hT.cells
    have kf := hT.frz
    simp only [List.forall_mem_cons, List.not_mem_nil, false_implies, implies_true, and_true] at kc kf
    obtain ⟨c0, c1, c2, c3, c4, c5, c6, c7⟩ := kc
    obtain ⟨f0, f1, f2, f3, f4, f5, f6, f7⟩ := kf
    go_wp2_with fail
    go_ret
    exact ⟨rfl, hT.be⟩
  rw [hA] at S0
  cases hB : spB bU bW bR bH
  · rw [hB] at S1
    clear hA hB
    go_enter Try.func7, Try.ntmps7
    go_wp2_with fail
    refine (awake_any _).mono ?_
    rintro e w1 ⟨rfl, hb1⟩
    have hT : Lf w.heap.size (w.heap.size + 1 + 1) [(⟨w.heap.size, 0, none⟩, .int .i64 aU), (⟨w.heap.size, 1, none⟩, .int .i64 aW), (⟨w.heap.size, 2, none⟩, .int .i64 aR), (⟨w.heap.size, 3, none⟩, .int .i64 aH), (⟨w.heap.size + 1, 0, none⟩, .int .i64 bU), (⟨w.heap.size + 1, 1, none⟩, .int .i64 bW), (⟨w.heap.size + 1, 2, none⟩, .int .i64 bR), (⟨w.heap.size + 1, 3, none⟩, .int .i64 bH)] w w1 := Lf.next (w := ((w.alloc (.cells #[.int .i64 aU, .int .i64 aW, .int .i64 aR, .int .i64 aH] 30)).alloc (.cells #[.int .i64 bU, .int .i64 bW, .int .i64 bR, .int .i64 bH] 30))) ⟨by simp [List.forall_mem_cons, go_sem], by simp [List.forall_mem_cons, go_sem], by simp [List.forall_mem_cons] <;> omega, by simp, by (repeat (first | exact Below.refl _ _ | assumption | refine Below.drew ?_ | (refine Below.alloc ?_ (by simp <;> omega) _) | (refine Below.setCell ?_ (by simp <;> omega) _))), by omega⟩ hb1
    clear hb1
    have kc := hT.cells
    have kf := hT.frz
    simp only [List.forall_mem_cons, List.not_mem_nil, false_implies, implies_true, and_true] at kc kf
    obtain ⟨c0, c1, c2, c3, c4, c5, c6, c7⟩ := kc
    obtain ⟨f0, f1, f2, f3, f4, f5, f6, f7⟩ := kf
    go_wp2_with fail
    refine (S0 _).out.mono ?_
    rintro e w2 ⟨rfl, hb2⟩
    have hT := hT.next hb2
    clear hb2 c0 f0 c1 f1 c2 f2 c3 f3 c4 f4 c5 f5 c6 f6 c7 f7
    have kc := hT.cells
    have kf := hT.frz
    simp only [List.forall_mem_cons, List.not_mem_nil, false_implies, implies_true, and_true] at kc kf
    obtain ⟨c0, c1, c2, c3, c4, c5, c6, c7⟩ := kc
    obtain ⟨f0, f1, f2, f3, f4, f5, f6, f7⟩ := kf
    go_wp2_with fail
    refine (S1 _).out.mono ?_
    rintro e w2 ⟨rfl, hb2⟩
    have hT := hT.next hb2
    clear hb2 c0 f0 c1 f1 c2 f2 c3 f3 c4 f4 c5 f5 c6 f6 c7 f7
    have kc := hT.cells
    have kf := hT.frz
    simp only [List.forall_mem_cons, List.not_mem_nil, false_implies, implies_true, and_true] at kc kf
    obtain ⟨c0, c1, c2, c3, c4, c5, c6, c7⟩ := kc
    obtain ⟨f0, f1, f2, f3, f4, f5, f6, f7⟩ := kf
    go_wp2_with fail
    go_ret
    exact ⟨rfl, hT.be⟩
  rw [hB] at S1
  have sa := spB_t hA
  have sb := spB_t hB
  clear hA hB
  have RA := fun w => Lib.hid (round_any aU aW aR aH w sa)
  have RB := fun w => Lib.hid (round_any bU bW bR bH w sb)
  cases hra : rdB aU aW aR
  · rw [hra] at RA
    clear hra sa sb RB
    go_enter Try.func7, Try.ntmps7
    go_wp2_with fail
    refine (awake_any _).mono ?_
    rintro e w1 ⟨rfl, hb1⟩
    have hT : Lf w.heap.size (w.heap.size + 1 + 1) [(⟨w.heap.size, 0, none⟩, .int .i64 aU), (⟨w.heap.size, 1, none⟩, .int .i64 aW), (⟨w.heap.size, 2, none⟩, .int .i64 aR), (⟨w.heap.size, 3, none⟩, .int .i64 aH), (⟨w.heap.size + 1, 0, none⟩, .int .i64 bU), (⟨w.heap.size + 1, 1, none⟩, .int .i64 bW), (⟨w.heap.size + 1, 2, none⟩, .int .i64 bR), (⟨w.heap.size + 1, 3, none⟩, .int .i64 bH)] w w1 := Lf.next (w := ((w.alloc (.cells #[.int .i64 aU, .int .i64 aW, .int .i64 aR, .int .i64 aH] 30)).alloc (.cells #[.int .i64 bU, .int .i64 bW, .int .i64 bR, .int .i64 bH] 30))) ⟨by simp [List.forall_mem_cons, go_sem], by simp [List.forall_mem_cons, go_sem], by simp [List.forall_mem_cons] <;> omega, by simp, by (repeat (first | exact Below.refl _ _ | assumption | refine Below.drew ?_ | (refine Below.alloc ?_ (by simp <;> omega) _) | (refine Below.setCell ?_ (by simp <;> omega) _))), by omega⟩ hb1
    clear hb1
    have kc := hT.cells
    have kf := hT.frz
    simp only [List.forall_mem_cons, List.not_mem_nil, false_implies, implies_true, and_true] at kc kf
    obtain ⟨c0, c1, c2, c3, c4, c5, c6, c7⟩ := kc
    obtain ⟨f0, f1, f2, f3, f4, f5, f6, f7⟩ := kf
    go_wp2_with fail
    refine (S0 _).out.mono ?_
    rintro e w2 ⟨rfl, hb2⟩
    have hT := hT.next hb2
    clear hb2 c0 f0 c1 f1 c2 f2 c3 f3 c4 f4 c5 f5 c6 f6 c7 f7
    have kc := hT.cells
    have kf := hT.frz
    simp only [List.forall_mem_cons, List.not_mem_nil, false_implies, implies_true, and_true] at kc kf
    obtain ⟨c0, c1, c2, c3, c4, c5, c6, c7⟩ := kc
    obtain ⟨f0, f1, f2, f3, f4, f5, f6, f7⟩ := kf
    go_wp2_with fail
    refine (S1 _).out.mono ?_
    rintro e w2 ⟨rfl, hb2⟩
    have hT := hT.next hb2
    clear hb2 c0 f0 c1 f1 c2 f2 c3 f3 c4 f4 c5 f5 c6 f6 c7 f7
    have kc := hT.cells
    have kf := hT.frz
    simp only [List.forall_mem_cons, List.not_mem_nil, false_implies, implies_true, and_true] at kc kf
    obtain ⟨c0, c1, c2, c3, c4, c5, c6, c7⟩ := kc
    obtain ⟨f0, f1, f2, f3, f4, f5, f6, f7⟩ := kf
    go_wp2_with fail
    refine (RA _).out.mono ?_
    rintro e w2 ⟨rfl, hb2⟩
    have hT := hT.next hb2
    clear hb2 c0 f0 c1 f1 c2 f2 c3 f3 c4 f4 c5 f5 c6 f6 c7 f7
    have kc := hT.cells
    have kf := hT.frz
    simp only [List.forall_mem_cons, List.not_mem_nil, false_implies, implies_true, and_true] at kc kf
    obtain ⟨c0, c1, c2, c3, c4, c5, c6, c7⟩ := kc
    obtain ⟨f0, f1, f2, f3, f4, f5, f6, f7⟩ := kf
    go_wp2_with fail
    go_ret
    exact ⟨rfl, hT.be⟩
  rw [hra] at RA
  cases hrb : rdB bU bW bR
  · rw [hrb] at RB
    clear hra hrb sa sb
    go_enter Try.func7, Try.ntmps7
    go_wp2_with fail
    refine (awake_any _).mono ?_
    rintro e w1 ⟨rfl, hb1⟩
    have hT : Lf w.heap.size (w.heap.size + 1 + 1) [(⟨w.heap.size, 0, none⟩, .int .i64 aU), (⟨w.heap.size, 1, none⟩, .int .i64 aW), (⟨w.heap.size, 2, none⟩, .int .i64 aR), (⟨w.heap.size, 3, none⟩, .int .i64 aH), (⟨w.heap.size + 1, 0, none⟩, .int .i64 bU), (⟨w.heap.size + 1, 1, none⟩, .int .i64 bW), (⟨w.heap.size + 1, 2, none⟩, .int .i64 bR), (⟨w.heap.size + 1, 3, none⟩, .int .i64 bH)] w w1 := Lf.next (w := ((w.alloc (.cells #[.int .i64 aU, .int .i64 aW, .int .i64 aR, .int .i64 aH] 30)).alloc (.cells #[.int .i64 bU, .int .i64 bW, .int .i64 bR, .int .i64 bH] 30))) ⟨by simp [List.forall_mem_cons, go_sem], by simp [List.forall_mem_cons, go_sem], by simp [List.forall_mem_cons] <;> omega, by simp, by (repeat (first | exact Below.refl _ _ | assumption | refine Below.drew ?_ | (refine Below.alloc ?_ (by simp <;> omega) _) | (refine Below.setCell ?_ (by simp <;> omega) _))), by omega⟩ hb1
    clear hb1
    have kc := hT.cells
    have kf := hT.frz
    simp only [List.forall_mem_cons, List.not_mem_nil, false_implies, implies_true, and_true] at kc kf
    obtain ⟨c0, c1, c2, c3, c4, c5, c6, c7⟩ := kc
    obtain ⟨f0, f1, f2, f3, f4, f5, f6, f7⟩ := kf
    go_wp2_with fail
    refine (S0 _).out.mono ?_
    rintro e w2 ⟨rfl, hb2⟩
    have hT := hT.next hb2
    clear hb2 c0 f0 c1 f1 c2 f2 c3 f3 c4 f4 c5 f5 c6 f6 c7 f7
    have kc := hT.cells
    have kf := hT.frz
    simp only [List.forall_mem_cons, List.not_mem_nil, false_implies, implies_true, and_true] at kc kf
    obtain ⟨c0, c1, c2, c3, c4, c5, c6, c7⟩ := kc
    obtain ⟨f0, f1, f2, f3, f4, f5, f6, f7⟩ := kf
    go_wp2_with fail
    refine (S1 _).out.mono ?_
    rintro e w2 ⟨rfl, hb2⟩
    have hT := hT.next hb2
    clear hb2 c0 f0 c1 f1 c2 f2 c3 f3 c4 f4 c5 f5 c6 f6 c7 f7
    have kc := hT.cells
    have kf := hT.frz
    simp only [List.forall_mem_cons, List.not_mem_nil, false_implies, implies_true, and_true] at kc kf
    obtain ⟨c0, c1, c2, c3, c4, c5, c6, c7⟩ := kc
    obtain ⟨f0, f1, f2, f3, f4, f5, f6, f7⟩ := kf
    go_wp2_with fail
    refine (RA _).out.mono ?_
    rintro e w2 ⟨rfl, hb2⟩
    have hT := hT.next hb2
    clear hb2 c0 f0 c1 f1 c2 f2 c3 f3 c4 f4 c5 f5 c6 f6 c7 f7
    have kc := hT.cells
    have kf := hT.frz
    simp only [List.forall_mem_cons, List.not_mem_nil, false_implies, implies_true, and_true] at kc kf
    obtain ⟨c0, c1, c2, c3, c4, c5, c6, c7⟩ := kc
    obtain ⟨f0, f1, f2, f3, f4, f5, f6, f7⟩ := kf
    go_wp2_with fail
    refine (RB _).out.mono ?_
    rintro e w2 ⟨rfl, hb2⟩
    have hT := hT.next hb2
    clear hb2 c0 f0 c1 f1 c2 f2 c3 f3 c4 f4 c5 f5 c6 f6 c7 f7
    have kc := hT.cells
    have kf := hT.frz
    simp only [List.forall_mem_cons, List.not_mem_nil, false_implies, implies_true, and_true] at kc kf
    obtain ⟨c0, c1, c2, c3, c4, c5, c6, c7⟩ := kc
    obtain ⟨f0, f1, f2, f3, f4, f5, f6, f7⟩ := kf
    go_wp2_with fail
    go_ret
    exact ⟨rfl, hT.be⟩
  rw [hrb] at RB
  have ra := rdB_t hra
  have rb := rdB_t hrb
  have CX := fun w => Lib.hid (crossR_any aU aW aR aH bU bW bR bH w sa.sk sb.sk)
  obtain ⟨a1, a2, a3, a4, a5, a6, a7, a8⟩ := id sa
  obtain ⟨b1, b2, b3, b4, b5, b6, b7, b8⟩ := id sb
  have q1 := mul_bdK (x := aU) (y := bW) (by omega) (by omega) (by omega) (by omega)
  have q2 := mul_bdK (x := aW) (y := bU) (by omega) (by omega) (by omega) (by omega)
  obtain ⟨m1a, m1b⟩ := dir_mul2 (d := 1) (by omega) (x := aU * bW - aW * bU) (by omega) (by omega)
  have q3 := sq_bdK (x := aU - bU) (by omega) (by omega)
  have q4 := sq_bdK (x := aW - bW) (by omega) (by omega)
  obtain ⟨q5, q6⟩ := q3
  obtain ⟨q7, q8⟩ := q4
  by_cases h1 : 16 < aR - bR
  · clear hra hrb sa sb ra rb CX q1 q2 m1a m1b
    go_enter Try.func7, Try.ntmps7
    go_wp2_with fail
    refine (awake_any _).mono ?_
    rintro e w1 ⟨rfl, hb1⟩
    have hT : Lf w.heap.size (w.heap.size + 1 + 1) [(⟨w.heap.size, 0, none⟩, .int .i64 aU), (⟨w.heap.size, 1, none⟩, .int .i64 aW), (⟨w.heap.size, 2, none⟩, .int .i64 aR), (⟨w.heap.size, 3, none⟩, .int .i64 aH), (⟨w.heap.size + 1, 0, none⟩, .int .i64 bU), (⟨w.heap.size + 1, 1, none⟩, .int .i64 bW), (⟨w.heap.size + 1, 2, none⟩, .int .i64 bR), (⟨w.heap.size + 1, 3, none⟩, .int .i64 bH)] w w1 := Lf.next (w := ((w.alloc (.cells #[.int .i64 aU, .int .i64 aW, .int .i64 aR, .int .i64 aH] 30)).alloc (.cells #[.int .i64 bU, .int .i64 bW, .int .i64 bR, .int .i64 bH] 30))) ⟨by simp [List.forall_mem_cons, go_sem], by simp [List.forall_mem_cons, go_sem], by simp [List.forall_mem_cons] <;> omega, by simp, by (repeat (first | exact Below.refl _ _ | assumption | refine Below.drew ?_ | (refine Below.alloc ?_ (by simp <;> omega) _) | (refine Below.setCell ?_ (by simp <;> omega) _))), by omega⟩ hb1
    clear hb1
    have kc := hT.cells
    have kf := hT.frz
    simp only [List.forall_mem_cons, List.not_mem_nil, false_implies, implies_true, and_true] at kc kf
    obtain ⟨c0, c1, c2, c3, c4, c5, c6, c7⟩ := kc
    obtain ⟨f0, f1, f2, f3, f4, f5, f6, f7⟩ := kf
    go_wp2_with fail
    refine (S0 _).out.mono ?_
    rintro e w2 ⟨rfl, hb2⟩
    have hT := hT.next hb2
    clear hb2 c0 f0 c1 f1 c2 f2 c3 f3 c4 f4 c5 f5 c6 f6 c7 f7
    have kc := hT.cells
    have kf := hT.frz
    simp only [List.forall_mem_cons, List.not_mem_nil, false_implies, implies_true, and_true] at kc kf
    obtain ⟨c0, c1, c2, c3, c4, c5, c6, c7⟩ := kc
    obtain ⟨f0, f1, f2, f3, f4, f5, f6, f7⟩ := kf
    go_wp2_with fail
    refine (S1 _).out.mono ?_
    rintro e w2 ⟨rfl, hb2⟩
    have hT := hT.next hb2
    clear hb2 c0 f0 c1 f1 c2 f2 c3 f3 c4 f4 c5 f5 c6 f6 c7 f7
    have kc := hT.cells
    have kf := hT.frz
    simp only [List.forall_mem_cons, List.not_mem_nil, false_implies, implies_true, and_true] at kc kf
    obtain ⟨c0, c1, c2, c3, c4, c5, c6, c7⟩ := kc
    obtain ⟨f0, f1, f2, f3, f4, f5, f6, f7⟩ := kf
    go_wp2_with fail
    refine (RA _).out.mono ?_
    rintro e w2 ⟨rfl, hb2⟩
    have hT := hT.next hb2
    clear hb2 c0 f0 c1 f1 c2 f2 c3 f3 c4 f4 c5 f5 c6 f6 c7 f7
    have kc := hT.cells
    have kf := hT.frz
    simp only [List.forall_mem_cons, List.not_mem_nil, false_implies, implies_true, and_true] at kc kf
    obtain ⟨c0, c1, c2, c3, c4, c5, c6, c7⟩ := kc
    obtain ⟨f0, f1, f2, f3, f4, f5, f6, f7⟩ := kf
    go_wp2_with fail
    refine (RB _).out.mono ?_
    rintro e w2 ⟨rfl, hb2⟩
    have hT := hT.next hb2
    clear hb2 c0 f0 c1 f1 c2 f2 c3 f3 c4 f4 c5 f5 c6 f6 c7 f7
    have kc := hT.cells
    have kf := hT.frz
    simp only [List.forall_mem_cons, List.not_mem_nil, false_implies, implies_true, and_true] at kc kf
    obtain ⟨c0, c1, c2, c3, c4, c5, c6, c7⟩ := kc
    obtain ⟨f0, f1, f2, f3, f4, f5, f6, f7⟩ := kf
    go_wp2_with fail
    go_ret
    exact ⟨rfl, hT.be⟩
  by_cases h2 : 16 < bR - aR
  · clear hra hrb sa sb ra rb CX q1 q2 m1a m1b
    go_enter Try.func7, Try.ntmps7
    go_wp2_with fail
    refine (awake_any _).mono ?_
    rintro e w1 ⟨rfl, hb1⟩
    have hT : Lf w.heap.size (w.heap.size + 1 + 1) [(⟨w.heap.size, 0, none⟩, .int .i64 aU), (⟨w.heap.size, 1, none⟩, .int .i64 aW), (⟨w.heap.size, 2, none⟩, .int .i64 aR), (⟨w.heap.size, 3, none⟩, .int .i64 aH), (⟨w.heap.size + 1, 0, none⟩, .int .i64 bU), (⟨w.heap.size + 1, 1, none⟩, .int .i64 bW), (⟨w.heap.size + 1, 2, none⟩, .int .i64 bR), (⟨w.heap.size + 1, 3, none⟩, .int .i64 bH)] w w1 := Lf.next (w := ((w.alloc (.cells #[.int .i64 aU, .int .i64 aW, .int .i64 aR, .int .i64 aH] 30)).alloc (.cells #[.int .i64 bU, .int .i64 bW, .int .i64 bR, .int .i64 bH] 30))) ⟨by simp [List.forall_mem_cons, go_sem], by simp [List.forall_mem_cons, go_sem], by simp [List.forall_mem_cons] <;> omega, by simp, by (repeat (first | exact Below.refl _ _ | assumption | refine Below.drew ?_ | (refine Below.alloc ?_ (by simp <;> omega) _) | (refine Below.setCell ?_ (by simp <;> omega) _))), by omega⟩ hb1
    clear hb1
    have kc := hT.cells
    have kf := hT.frz
    simp only [List.forall_mem_cons, List.not_mem_nil, false_implies, implies_true, and_true] at kc kf
    obtain ⟨c0, c1, c2, c3, c4, c5, c6, c7⟩ := kc
    obtain ⟨f0, f1, f2, f3, f4, f5, f6, f7⟩ := kf
    go_wp2_with fail
    refine (S0 _).out.mono ?_
    rintro e w2 ⟨rfl, hb2⟩
    have hT := hT.next hb2
    clear hb2 c0 f0 c1 f1 c2 f2 c3 f3 c4 f4 c5 f5 c6 f6 c7 f7
    have kc := hT.cells
    have kf := hT.frz
    simp only [List.forall_mem_cons, List.not_mem_nil, false_implies, implies_true, and_true] at kc kf
    obtain ⟨c0, c1, c2, c3, c4, c5, c6, c7⟩ := kc
    obtain ⟨f0, f1, f2, f3, f4, f5, f6, f7⟩ := kf
    go_wp2_with fail
    refine (S1 _).out.mono ?_
    rintro e w2 ⟨rfl, hb2⟩
    have hT := hT.next hb2
    clear hb2 c0 f0 c1 f1 c2 f2 c3 f3 c4 f4 c5 f5 c6 f6 c7 f7
    have kc := hT.cells
    have kf := hT.frz
    simp only [List.forall_mem_cons, List.not_mem_nil, false_implies, implies_true, and_true] at kc kf
    obtain ⟨c0, c1, c2, c3, c4, c5, c6, c7⟩ := kc
    obtain ⟨f0, f1, f2, f3, f4, f5, f6, f7⟩ := kf
    go_wp2_with fail
    refine (RA _).out.mono ?_
    rintro e w2 ⟨rfl, hb2⟩
    have hT := hT.next hb2
    clear hb2 c0 f0 c1 f1 c2 f2 c3 f3 c4 f4 c5 f5 c6 f6 c7 f7
    have kc := hT.cells
    have kf := hT.frz
    simp only [List.forall_mem_cons, List.not_mem_nil, false_implies, implies_true, and_true] at kc kf
    obtain ⟨c0, c1, c2, c3, c4, c5, c6, c7⟩ := kc
    obtain ⟨f0, f1, f2, f3, f4, f5, f6, f7⟩ := kf
    go_wp2_with fail
    refine (RB _).out.mono ?_
    rintro e w2 ⟨rfl, hb2⟩
    have hT := hT.next hb2
    clear hb2 c0 f0 c1 f1 c2 f2 c3 f3 c4 f4 c5 f5 c6 f6 c7 f7
    have kc := hT.cells
    have kf := hT.frz
    simp only [List.forall_mem_cons, List.not_mem_nil, false_implies, implies_true, and_true] at kc kf
    obtain ⟨c0, c1, c2, c3, c4, c5, c6, c7⟩ := kc
    obtain ⟨f0, f1, f2, f3, f4, f5, f6, f7⟩ := kf
    go_wp2_with fail
    go_ret
    exact ⟨rfl, hT.be⟩
  by_cases h3 : aU * bW - aW * bU ≤ 0
  · clear hra hrb sa sb ra rb q1 q2
    go_enter Try.func7, Try.ntmps7
    go_wp2_with fail
    refine (awake_any _).mono ?_
    rintro e w1 ⟨rfl, hb1⟩
    have hT : Lf w.heap.size (w.heap.size + 1 + 1) [(⟨w.heap.size, 0, none⟩, .int .i64 aU), (⟨w.heap.size, 1, none⟩, .int .i64 aW), (⟨w.heap.size, 2, none⟩, .int .i64 aR), (⟨w.heap.size, 3, none⟩, .int .i64 aH), (⟨w.heap.size + 1, 0, none⟩, .int .i64 bU), (⟨w.heap.size + 1, 1, none⟩, .int .i64 bW), (⟨w.heap.size + 1, 2, none⟩, .int .i64 bR), (⟨w.heap.size + 1, 3, none⟩, .int .i64 bH)] w w1 := Lf.next (w := ((w.alloc (.cells #[.int .i64 aU, .int .i64 aW, .int .i64 aR, .int .i64 aH] 30)).alloc (.cells #[.int .i64 bU, .int .i64 bW, .int .i64 bR, .int .i64 bH] 30))) ⟨by simp [List.forall_mem_cons, go_sem], by simp [List.forall_mem_cons, go_sem], by simp [List.forall_mem_cons] <;> omega, by simp, by (repeat (first | exact Below.refl _ _ | assumption | refine Below.drew ?_ | (refine Below.alloc ?_ (by simp <;> omega) _) | (refine Below.setCell ?_ (by simp <;> omega) _))), by omega⟩ hb1
    clear hb1
    have kc := hT.cells
    have kf := hT.frz
    simp only [List.forall_mem_cons, List.not_mem_nil, false_implies, implies_true, and_true] at kc kf
    obtain ⟨c0, c1, c2, c3, c4, c5, c6, c7⟩ := kc
    obtain ⟨f0, f1, f2, f3, f4, f5, f6, f7⟩ := kf
    go_wp2_with fail
    refine (S0 _).out.mono ?_
    rintro e w2 ⟨rfl, hb2⟩
    have hT := hT.next hb2
    clear hb2 c0 f0 c1 f1 c2 f2 c3 f3 c4 f4 c5 f5 c6 f6 c7 f7
    have kc := hT.cells
    have kf := hT.frz
    simp only [List.forall_mem_cons, List.not_mem_nil, false_implies, implies_true, and_true] at kc kf
    obtain ⟨c0, c1, c2, c3, c4, c5, c6, c7⟩ := kc
    obtain ⟨f0, f1, f2, f3, f4, f5, f6, f7⟩ := kf
    go_wp2_with fail
    refine (S1 _).out.mono ?_
    rintro e w2 ⟨rfl, hb2⟩
    have hT := hT.next hb2
    clear hb2 c0 f0 c1 f1 c2 f2 c3 f3 c4 f4 c5 f5 c6 f6 c7 f7
    have kc := hT.cells
    have kf := hT.frz
    simp only [List.forall_mem_cons, List.not_mem_nil, false_implies, implies_true, and_true] at kc kf
    obtain ⟨c0, c1, c2, c3, c4, c5, c6, c7⟩ := kc
    obtain ⟨f0, f1, f2, f3, f4, f5, f6, f7⟩ := kf
    go_wp2_with fail
    refine (RA _).out.mono ?_
    rintro e w2 ⟨rfl, hb2⟩
    have hT := hT.next hb2
    clear hb2 c0 f0 c1 f1 c2 f2 c3 f3 c4 f4 c5 f5 c6 f6 c7 f7
    have kc := hT.cells
    have kf := hT.frz
    simp only [List.forall_mem_cons, List.not_mem_nil, false_implies, implies_true, and_true] at kc kf
    obtain ⟨c0, c1, c2, c3, c4, c5, c6, c7⟩ := kc
    obtain ⟨f0, f1, f2, f3, f4, f5, f6, f7⟩ := kf
    go_wp2_with fail
    refine (RB _).out.mono ?_
    rintro e w2 ⟨rfl, hb2⟩
    have hT := hT.next hb2
    clear hb2 c0 f0 c1 f1 c2 f2 c3 f3 c4 f4 c5 f5 c6 f6 c7 f7
    have kc := hT.cells
    have kf := hT.frz
    simp only [List.forall_mem_cons, List.not_mem_nil, false_implies, implies_true, and_true] at kc kf
    obtain ⟨c0, c1, c2, c3, c4, c5, c6, c7⟩ := kc
    obtain ⟨f0, f1, f2, f3, f4, f5, f6, f7⟩ := kf
    go_wp2_with fail
    refine (CX _).out.mono ?_
    rintro e w2 ⟨rfl, hb2⟩
    have hT := hT.next hb2
    clear hb2 c0 f0 c1 f1 c2 f2 c3 f3 c4 f4 c5 f5 c6 f6 c7 f7
    have kc := hT.cells
    have kf := hT.frz
    simp only [List.forall_mem_cons, List.not_mem_nil, false_implies, implies_true, and_true] at kc kf
    obtain ⟨c0, c1, c2, c3, c4, c5, c6, c7⟩ := kc
    obtain ⟨f0, f1, f2, f3, f4, f5, f6, f7⟩ := kf
    go_wp2_with fail
    go_ret
    exact ⟨rfl, hT.be⟩
  have h4 : 0 < aU * bW - aW * bU := by omega
  have FL := fun w => Lib.hid ((flatR_any (min aR bR) ((aU - bU) * (aU - bU) + (aW - bW) * (aW - bW)) w (by omega) (by omega)).mono fun e w' h => (⟨h.1, by rw [← h.2]; exact Below.refl _ _⟩ : _ ∧ Below w.heap.size w w'))
  by_cases h5 : (aU - bU) * (aU - bU) + (aW - bW) * (aW - bW) ≤ 8 * min aR bR * 4 - 64
  · rw [decide_eq_true h5] at FL
    clear hra hrb sa sb ra rb q1 q2 h3 h5
    go_enter Try.func7, Try.ntmps7
    go_wp2_with fail
    refine (awake_any _).mono ?_
    rintro e w1 ⟨rfl, hb1⟩
    have hT : Lf w.heap.size (w.heap.size + 1 + 1) [(⟨w.heap.size, 0, none⟩, .int .i64 aU), (⟨w.heap.size, 1, none⟩, .int .i64 aW), (⟨w.heap.size, 2, none⟩, .int .i64 aR), (⟨w.heap.size, 3, none⟩, .int .i64 aH), (⟨w.heap.size + 1, 0, none⟩, .int .i64 bU), (⟨w.heap.size + 1, 1, none⟩, .int .i64 bW), (⟨w.heap.size + 1, 2, none⟩, .int .i64 bR), (⟨w.heap.size + 1, 3, none⟩, .int .i64 bH)] w w1 := Lf.next (w := ((w.alloc (.cells #[.int .i64 aU, .int .i64 aW, .int .i64 aR, .int .i64 aH] 30)).alloc (.cells #[.int .i64 bU, .int .i64 bW, .int .i64 bR, .int .i64 bH] 30))) ⟨by simp [List.forall_mem_cons, go_sem], by simp [List.forall_mem_cons, go_sem], by simp [List.forall_mem_cons] <;> omega, by simp, by (repeat (first | exact Below.refl _ _ | assumption | refine Below.drew ?_ | (refine Below.alloc ?_ (by simp <;> omega) _) | (refine Below.setCell ?_ (by simp <;> omega) _))), by omega⟩ hb1
    clear hb1
    have kc := hT.cells
    have kf := hT.frz
    simp only [List.forall_mem_cons, List.not_mem_nil, false_implies, implies_true, and_true] at kc kf
    obtain ⟨c0, c1, c2, c3, c4, c5, c6, c7⟩ := kc
    obtain ⟨f0, f1, f2, f3, f4, f5, f6, f7⟩ := kf
    go_wp2_with fail
    refine (S0 _).out.mono ?_
    rintro e w2 ⟨rfl, hb2⟩
    have hT := hT.next hb2
    clear hb2 c0 f0 c1 f1 c2 f2 c3 f3 c4 f4 c5 f5 c6 f6 c7 f7
    have kc := hT.cells
    have kf := hT.frz
    simp only [List.forall_mem_cons, List.not_mem_nil, false_implies, implies_true, and_true] at kc kf
    obtain ⟨c0, c1, c2, c3, c4, c5, c6, c7⟩ := kc
    obtain ⟨f0, f1, f2, f3, f4, f5, f6, f7⟩ := kf
    go_wp2_with fail
    refine (S1 _).out.mono ?_
    rintro e w2 ⟨rfl, hb2⟩
    have hT := hT.next hb2
    clear hb2 c0 f0 c1 f1 c2 f2 c3 f3 c4 f4 c5 f5 c6 f6 c7 f7
    have kc := hT.cells
    have kf := hT.frz
    simp only [List.forall_mem_cons, List.not_mem_nil, false_implies, implies_true, and_true] at kc kf
    obtain ⟨c0, c1, c2, c3, c4, c5, c6, c7⟩ := kc
    obtain ⟨f0, f1, f2, f3, f4, f5, f6, f7⟩ := kf
    go_wp2_with fail
    refine (RA _).out.mono ?_
    rintro e w2 ⟨rfl, hb2⟩
    have hT := hT.next hb2
    clear hb2 c0 f0 c1 f1 c2 f2 c3 f3 c4 f4 c5 f5 c6 f6 c7 f7
    have kc := hT.cells
    have kf := hT.frz
    simp only [List.forall_mem_cons, List.not_mem_nil, false_implies, implies_true, and_true] at kc kf
    obtain ⟨c0, c1, c2, c3, c4, c5, c6, c7⟩ := kc
    obtain ⟨f0, f1, f2, f3, f4, f5, f6, f7⟩ := kf
    go_wp2_with fail
    refine (RB _).out.mono ?_
    rintro e w2 ⟨rfl, hb2⟩
    have hT := hT.next hb2
    clear hb2 c0 f0 c1 f1 c2 f2 c3 f3 c4 f4 c5 f5 c6 f6 c7 f7
    have kc := hT.cells
    have kf := hT.frz
    simp only [List.forall_mem_cons, List.not_mem_nil, false_implies, implies_true, and_true] at kc kf
    obtain ⟨c0, c1, c2, c3, c4, c5, c6, c7⟩ := kc
    obtain ⟨f0, f1, f2, f3, f4, f5, f6, f7⟩ := kf
    go_wp2_with fail
    refine (CX _).out.mono ?_
    rintro e w2 ⟨rfl, hb2⟩
    have hT := hT.next hb2
    clear hb2 c0 f0 c1 f1 c2 f2 c3 f3 c4 f4 c5 f5 c6 f6 c7 f7
    have kc := hT.cells
    have kf := hT.frz
    simp only [List.forall_mem_cons, List.not_mem_nil, false_implies, implies_true, and_true] at kc kf
    obtain ⟨c0, c1, c2, c3, c4, c5, c6, c7⟩ := kc
    obtain ⟨f0, f1, f2, f3, f4, f5, f6, f7⟩ := kf
    go_wp2_with fail
    refine (FL _).out.mono ?_
    rintro e w2 ⟨rfl, hb2⟩
    have hT := hT.next hb2
    clear hb2 c0 f0 c1 f1 c2 f2 c3 f3 c4 f4 c5 f5 c6 f6 c7 f7
    have kc := hT.cells
    have kf := hT.frz
    simp only [List.forall_mem_cons, List.not_mem_nil, false_implies, implies_true, and_true] at kc kf
    obtain ⟨c0, c1, c2, c3, c4, c5, c6, c7⟩ := kc
    obtain ⟨f0, f1, f2, f3, f4, f5, f6, f7⟩ := kf
    go_wp2_with fail
    go_ret
    exact ⟨rfl, hT.be⟩
  rw [decide_eq_false h5] at FL
  obtain ⟨m0, m1, m2, m3, ok, hM, P0, _⟩ := mid_any aU aW aR aH bU bW bR bH 1 false sa sb
  obtain ⟨rfl, g1, g2, g3, g4⟩ := between_p aU aW aR aH bU bW bR bH m0 m1 m2 m3 ok sa sb ra rb (by omega) (by omega) h4 (by omega) hM
  have C1 := fun w => Lib.hid (crossR_any aU aW aR aH m0 m1 m2 m3 w sa.sk ⟨⟨g3.1, g3.2⟩, g4.1, g4.2⟩)
  have C2 := fun w => Lib.hid (crossR_any m0 m1 m2 m3 bU bW bR bH w ⟨⟨g3.1, g3.2⟩, g4.1, g4.2⟩ sb.sk)
  have t1 := mul_bdK (x := aU) (y := m1) (by omega) (by omega) (by omega) (by omega)
  have t2 := mul_bdK (x := aW) (y := m0) (by omega) (by omega) (by omega) (by omega)
  have t3 := mul_bdK (x := m0) (y := bW) (by omega) (by omega) (by omega) (by omega)
  have t4 := mul_bdK (x := m1) (y := bU) (by omega) (by omega) (by omega) (by omega)
  obtain ⟨n1a, n1b⟩ := dir_mul2 (d := 1) (by omega) (x := aU * m1 - aW * m0) (by omega) (by omega)
  obtain ⟨n2a, n2b⟩ := dir_mul2 (d := 1) (by omega) (x := m0 * bW - m1 * bU) (by omega) (by omega)
  have HG := Lib.hid (And.intro g1 (And.intro g2 (And.intro n1a (And.intro n1b (And.intro n2a n2b)))))
  clear hra hrb sa sb ra rb q1 q2 h3 h5 hM g1 g2 g3 g4 t1 t2 t3 t4 n1a n1b n2a n2b
  go_enter Try.func7, Try.ntmps7
  go_wp2_with fail
  refine (awake_any _).mono ?_
  rintro e w1 ⟨rfl, hb1⟩
  have hT : Lf w.heap.size (w.heap.size + 1 + 1) [(⟨w.heap.size, 0, none⟩, .int .i64 aU), (⟨w.heap.size, 1, none⟩, .int .i64 aW), (⟨w.heap.size, 2, none⟩, .int .i64 aR), (⟨w.heap.size, 3, none⟩, .int .i64 aH), (⟨w.heap.size + 1, 0, none⟩, .int .i64 bU), (⟨w.heap.size + 1, 1, none⟩, .int .i64 bW), (⟨w.heap.size + 1, 2, none⟩, .int .i64 bR), (⟨w.heap.size + 1, 3, none⟩, .int .i64 bH)] w w1 := Lf.next (w := ((w.alloc (.cells #[.int .i64 aU, .int .i64 aW, .int .i64 aR, .int .i64 aH] 30)).alloc (.cells #[.int .i64 bU, .int .i64 bW, .int .i64 bR, .int .i64 bH] 30))) ⟨by simp [List.forall_mem_cons, go_sem], by simp [List.forall_mem_cons, go_sem], by simp [List.forall_mem_cons] <;> omega, by simp, by (repeat (first | exact Below.refl _ _ | assumption | refine Below.drew ?_ | (refine Below.alloc ?_ (by simp <;> omega) _) | (refine Below.setCell ?_ (by simp <;> omega) _))), by omega⟩ hb1
  clear hb1
  have kc := hT.cells
  have kf := hT.frz
  simp only [List.forall_mem_cons, List.not_mem_nil, false_implies, implies_true, and_true] at kc kf
  obtain ⟨c0, c1, c2, c3, c4, c5, c6, c7⟩ := kc
  obtain ⟨f0, f1, f2, f3, f4, f5, f6, f7⟩ := kf
  go_wp2_with fail
  refine (S0 _).out.mono ?_
  rintro e w2 ⟨rfl, hb2⟩
  have hT := hT.next hb2
  clear hb2 c0 f0 c1 f1 c2 f2 c3 f3 c4 f4 c5 f5 c6 f6 c7 f7
  have kc := hT.cells
  have kf := hT.frz
  simp only [List.forall_mem_cons, List.not_mem_nil, false_implies, implies_true, and_true] at kc kf
  obtain ⟨c0, c1, c2, c3, c4, c5, c6, c7⟩ := kc
  obtain ⟨f0, f1, f2, f3, f4, f5, f6, f7⟩ := kf
  go_wp2_with fail
  refine (S1 _).out.mono ?_
  rintro e w2 ⟨rfl, hb2⟩
  have hT := hT.next hb2
  clear hb2 c0 f0 c1 f1 c2 f2 c3 f3 c4 f4 c5 f5 c6 f6 c7 f7
  have kc := hT.cells
  have kf := hT.frz
  simp only [List.forall_mem_cons, List.not_mem_nil, false_implies, implies_true, and_true] at kc kf
  obtain ⟨c0, c1, c2, c3, c4, c5, c6, c7⟩ := kc
  obtain ⟨f0, f1, f2, f3, f4, f5, f6, f7⟩ := kf
  go_wp2_with fail
  refine (RA _).out.mono ?_
  rintro e w2 ⟨rfl, hb2⟩
  have hT := hT.next hb2
  clear hb2 c0 f0 c1 f1 c2 f2 c3 f3 c4 f4 c5 f5 c6 f6 c7 f7
  have kc := hT.cells
  have kf := hT.frz
  simp only [List.forall_mem_cons, List.not_mem_nil, false_implies, implies_true, and_true] at kc kf
  obtain ⟨c0, c1, c2, c3, c4, c5, c6, c7⟩ := kc
  obtain ⟨f0, f1, f2, f3, f4, f5, f6, f7⟩ := kf
  go_wp2_with fail
  refine (RB _).out.mono ?_
  rintro e w2 ⟨rfl, hb2⟩
  have hT := hT.next hb2
  clear hb2 c0 f0 c1 f1 c2 f2 c3 f3 c4 f4 c5 f5 c6 f6 c7 f7
  have kc := hT.cells
  have kf := hT.frz
  simp only [List.forall_mem_cons, List.not_mem_nil, false_implies, implies_true, and_true] at kc kf
  obtain ⟨c0, c1, c2, c3, c4, c5, c6, c7⟩ := kc
  obtain ⟨f0, f1, f2, f3, f4, f5, f6, f7⟩ := kf
  go_wp2_with fail
  refine (CX _).out.mono ?_
  rintro e w2 ⟨rfl, hb2⟩
  have hT := hT.next hb2
  clear hb2 c0 f0 c1 f1 c2 f2 c3 f3 c4 f4 c5 f5 c6 f6 c7 f7
  have kc := hT.cells
  have kf := hT.frz
  simp only [List.forall_mem_cons, List.not_mem_nil, false_implies, implies_true, and_true] at kc kf
  obtain ⟨c0, c1, c2, c3, c4, c5, c6, c7⟩ := kc
  obtain ⟨f0, f1, f2, f3, f4, f5, f6, f7⟩ := kf
  go_wp2_with fail
  refine (FL _).out.mono ?_
  rintro e w2 ⟨rfl, hb2⟩
  have hT := hT.next hb2
  clear hb2 c0 f0 c1 f1 c2 f2 c3 f3 c4 f4 c5 f5 c6 f6 c7 f7
  have kc := hT.cells
  have kf := hT.frz
  simp only [List.forall_mem_cons, List.not_mem_nil, false_implies, implies_true, and_true] at kc kf
  obtain ⟨c0, c1, c2, c3, c4, c5, c6, c7⟩ := kc
  obtain ⟨f0, f1, f2, f3, f4, f5, f6, f7⟩ := kf
  go_wp2_with fail
  clear CX FL m1a m1b h4
  refine (P0 _).out.mono ?_
  rintro e w1 ⟨rfl, hb1⟩
  have hT1 := hT.next hb1
  have hz1 := hT1.lt
  clear c0 f0 c1 f1 c2 f2 c3 f3 c4 f4 c5 f5 c6 f6 c7 f7
  go_upto_region 11 with fail
  refine wp_cls (Lf w.heap.size (w1.heap.size + 1) [(⟨w1.heap.size, 0, none⟩, .int .i64 m0), (⟨w1.heap.size, 1, none⟩, .int .i64 m1), (⟨w1.heap.size, 2, none⟩, .int .i64 m2), (⟨w1.heap.size, 3, none⟩, .int .i64 m3), (⟨w.heap.size, 0, none⟩, .int .i64 aU), (⟨w.heap.size, 1, none⟩, .int .i64 aW), (⟨w.heap.size, 2, none⟩, .int .i64 aR), (⟨w.heap.size, 3, none⟩, .int .i64 aH), (⟨w.heap.size + 1, 0, none⟩, .int .i64 bU), (⟨w.heap.size + 1, 1, none⟩, .int .i64 bW), (⟨w.heap.size + 1, 2, none⟩, .int .i64 bR), (⟨w.heap.size + 1, 3, none⟩, .int .i64 bH)] w) (hT1.push #[.int .i64 m0, .int .i64 m1, .int .i64 m2, .int .i64 m3] 30) ?_
  intro wx hT2
  have kc := hT2.cells
  have kf := hT2.frz
  simp only [List.forall_mem_cons, List.not_mem_nil, false_implies, implies_true, and_true] at kc kf
  obtain ⟨c0, c1, c2, c3, c4, c5, c6, c7, c8, c9, c10, c11⟩ := kc
  obtain ⟨f0, f1, f2, f3, f4, f5, f6, f7, f8, f9, f10, f11⟩ := kf
  obtain ⟨g1, g2, n1a, n1b, n2a, n2b⟩ := HG.out
  go_wp2_with fail
  refine (C1 _).out.mono ?_
  rintro e w2 ⟨rfl, hb2⟩
  have hT3 := hT2.next hb2
  clear c0 f0 c1 f1 c2 f2 c3 f3 c4 f4 c5 f5 c6 f6 c7 f7 c8 f8 c9 f9 c10 f10 c11 f11 hb2
  have kc := hT3.cells
  have kf := hT3.frz
  simp only [List.forall_mem_cons, List.not_mem_nil, false_implies, implies_true, and_true] at kc kf
  obtain ⟨c0, c1, c2, c3, c4, c5, c6, c7, c8, c9, c10, c11⟩ := kc
  obtain ⟨f0, f1, f2, f3, f4, f5, f6, f7, f8, f9, f10, f11⟩ := kf
  go_wp2_with fail
  refine (C2 _).out.mono ?_
  rintro e w3 ⟨rfl, hb3⟩
  have hT4 := hT3.next hb3
  go_wp2_with fail
  go_ret
  exact ⟨by first | rfl | (simp; omega) | (simp; exact g2), hT4.be⟩
set_option maxHeartbeats 16000000 in
set_option maxRecDepth 20000 in
theorem law_between_m (aU aW aR aH bU bW bR bH : Int) (w : World) :
    Calls Try.prog 7 #[.agg #[.int .i64 aU, .int .i64 aW, .int .i64 aR, .int .i64 aH], .agg #[.int .i64 bU, .int .i64 bW, .int .i64 bR, .int .i64 bH], .bool true] w fun e w' => e = .returned (.bool true) ∧ Below w.heap.size w w' := by
  have S0 := fun w => Lib.hid (spoke_any aU aW aR aH w)
  have S1 := fun w => Lib.hid (spoke_any bU bW bR bH w)
  cases hA : spB aU aW aR aH
  · rw [hA] at S0
    clear hA
    go_enter Try.func7, Try.ntmps7
    go_wp2_with fail
    refine (awake_any _).mono ?_
    rintro e w1 ⟨rfl, hb1⟩
    have hT : Lf w.heap.size (w.heap.size + 1 + 1) [(⟨w.heap.size, 0, none⟩, .int .i64 aU), (⟨w.heap.size, 1, none⟩, .int .i64 aW), (⟨w.heap.size, 2, none⟩, .int .i64 aR), (⟨w.heap.size, 3, none⟩, .int .i64 aH), (⟨w.heap.size + 1, 0, none⟩, .int .i64 bU), (⟨w.heap.size + 1, 1, none⟩, .int .i64 bW), (⟨w.heap.size + 1, 2, none⟩, .int .i64 bR), (⟨w.heap.size + 1, 3, none⟩, .int .i64 bH)] w w1 := Lf.next (w := ((w.alloc (.cells #[.int .i64 aU, .int .i64 aW, .int .i64 aR, .int .i64 aH] 30)).alloc (.cells #[.int .i64 bU, .int .i64 bW, .int .i64 bR, .int .i64 bH] 30))) ⟨by simp [List.forall_mem_cons, go_sem], by simp [List.forall_mem_cons, go_sem], by simp [List.forall_mem_cons] <;> omega, by simp, by (repeat (first | exact Below.refl _ _ | assumption | refine Below.drew ?_ | (refine Below.alloc ?_ (by simp <;> omega) _) | (refine Below.setCell ?_ (by simp <;> omega) _))), by omega⟩ hb1
    clear hb1
    have kc := hT.cells
    have kf := hT.frz
    simp only [List.forall_mem_cons, List.not_mem_nil, false_implies, implies_true, and_true] at kc kf
    obtain ⟨c0, c1, c2, c3, c4, c5, c6, c7⟩ := kc
    obtain ⟨f0, f1, f2, f3, f4, f5, f6, f7⟩ := kf
    go_wp2_with fail
    refine (S0 _).out.mono ?_
    rintro e w2 ⟨rfl, hb2⟩
    have hT := hT.next hb2
    clear hb2 c0 f0 c1 f1 c2 f2 c3 f3 c4 f4 c5 f5 c6 f6 c7 f7
    have kc := hT.cells
    have kf := hT.frz
    simp only [List.forall_mem_cons, List.not_mem_nil, false_implies, implies_true, and_true] at kc kf
    obtain ⟨c0, c1, c2, c3, c4, c5, c6, c7⟩ := kc
    obtain ⟨f0, f1, f2, f3, f4, f5, f6, f7⟩ := kf
    go_wp2_with fail
    go_ret
    exact ⟨rfl, hT.be⟩
  rw [hA] at S0
  cases hB : spB bU bW bR bH
  · rw [hB] at S1
    clear hA hB
    go_enter Try.func7, Try.ntmps7
    go_wp2_with fail
    refine (awake_any _).mono ?_
    rintro e w1 ⟨rfl, hb1⟩
    have hT : Lf w.heap.size (w.heap.size + 1 + 1) [(⟨w.heap.size, 0, none⟩, .int .i64 aU), (⟨w.heap.size, 1, none⟩, .int .i64 aW), (⟨w.heap.size, 2, none⟩, .int .i64 aR), (⟨w.heap.size, 3, none⟩, .int .i64 aH), (⟨w.heap.size + 1, 0, none⟩, .int .i64 bU), (⟨w.heap.size + 1, 1, none⟩, .int .i64 bW), (⟨w.heap.size + 1, 2, none⟩, .int .i64 bR), (⟨w.heap.size + 1, 3, none⟩, .int .i64 bH)] w w1 := Lf.next (w := ((w.alloc (.cells #[.int .i64 aU, .int .i64 aW, .int .i64 aR, .int .i64 aH] 30)).alloc (.cells #[.int .i64 bU, .int .i64 bW, .int .i64 bR, .int .i64 bH] 30))) ⟨by simp [List.forall_mem_cons, go_sem], by simp [List.forall_mem_cons, go_sem], by simp [List.forall_mem_cons] <;> omega, by simp, by (repeat (first | exact Below.refl _ _ | assumption | refine Below.drew ?_ | (refine Below.alloc ?_ (by simp <;> omega) _) | (refine Below.setCell ?_ (by simp <;> omega) _))), by omega⟩ hb1
    clear hb1
    have kc := hT.cells
    have kf := hT.frz
    simp only [List.forall_mem_cons, List.not_mem_nil, false_implies, implies_true, and_true] at kc kf
    obtain ⟨c0, c1, c2, c3, c4, c5, c6, c7⟩ := kc
    obtain ⟨f0, f1, f2, f3, f4, f5, f6, f7⟩ := kf
    go_wp2_with fail
    refine (S0 _).out.mono ?_
    rintro e w2 ⟨rfl, hb2⟩
    have hT := hT.next hb2
    clear hb2 c0 f0 c1 f1 c2 f2 c3 f3 c4 f4 c5 f5 c6 f6 c7 f7
    have kc := hT.cells
    have kf := hT.frz
    simp only [List.forall_mem_cons, List.not_mem_nil, false_implies, implies_true, and_true] at kc kf
    obtain ⟨c0, c1, c2, c3, c4, c5, c6, c7⟩ := kc
    obtain ⟨f0, f1, f2, f3, f4, f5, f6, f7⟩ := kf
    go_wp2_with fail
    refine (S1 _).out.mono ?_
    rintro e w2 ⟨rfl, hb2⟩
    have hT := hT.next hb2
    clear hb2 c0 f0 c1 f1 c2 f2 c3 f3 c4 f4 c5 f5 c6 f6 c7 f7
    have kc := hT.cells
    have kf := hT.frz
    simp only [List.forall_mem_cons, List.not_mem_nil, false_implies, implies_true, and_true] at kc kf
    obtain ⟨c0, c1, c2, c3, c4, c5, c6, c7⟩ := kc
    obtain ⟨f0, f1, f2, f3, f4, f5, f6, f7⟩ := kf
    go_wp2_with fail
    go_ret
    exact ⟨rfl, hT.be⟩
  rw [hB] at S1
  have sa := spB_t hA
  have sb := spB_t hB
  clear hA hB
  have RA := fun w => Lib.hid (round_any aU aW aR aH w sa)
  have RB := fun w => Lib.hid (round_any bU bW bR bH w sb)
  cases hra : rdB aU aW aR
  · rw [hra] at RA
    clear hra sa sb RB
    go_enter Try.func7, Try.ntmps7
    go_wp2_with fail
    refine (awake_any _).mono ?_
    rintro e w1 ⟨rfl, hb1⟩
    have hT : Lf w.heap.size (w.heap.size + 1 + 1) [(⟨w.heap.size, 0, none⟩, .int .i64 aU), (⟨w.heap.size, 1, none⟩, .int .i64 aW), (⟨w.heap.size, 2, none⟩, .int .i64 aR), (⟨w.heap.size, 3, none⟩, .int .i64 aH), (⟨w.heap.size + 1, 0, none⟩, .int .i64 bU), (⟨w.heap.size + 1, 1, none⟩, .int .i64 bW), (⟨w.heap.size + 1, 2, none⟩, .int .i64 bR), (⟨w.heap.size + 1, 3, none⟩, .int .i64 bH)] w w1 := Lf.next (w := ((w.alloc (.cells #[.int .i64 aU, .int .i64 aW, .int .i64 aR, .int .i64 aH] 30)).alloc (.cells #[.int .i64 bU, .int .i64 bW, .int .i64 bR, .int .i64 bH] 30))) ⟨by simp [List.forall_mem_cons, go_sem], by simp [List.forall_mem_cons, go_sem], by simp [List.forall_mem_cons] <;> omega, by simp, by (repeat (first | exact Below.refl _ _ | assumption | refine Below.drew ?_ | (refine Below.alloc ?_ (by simp <;> omega) _) | (refine Below.setCell ?_ (by simp <;> omega) _))), by omega⟩ hb1
    clear hb1
    have kc := hT.cells
    have kf := hT.frz
    simp only [List.forall_mem_cons, List.not_mem_nil, false_implies, implies_true, and_true] at kc kf
    obtain ⟨c0, c1, c2, c3, c4, c5, c6, c7⟩ := kc
    obtain ⟨f0, f1, f2, f3, f4, f5, f6, f7⟩ := kf
    go_wp2_with fail
    refine (S0 _).out.mono ?_
    rintro e w2 ⟨rfl, hb2⟩
    have hT := hT.next hb2
    clear hb2 c0 f0 c1 f1 c2 f2 c3 f3 c4 f4 c5 f5 c6 f6 c7 f7
    have kc := hT.cells
    have kf := hT.frz
    simp only [List.forall_mem_cons, List.not_mem_nil, false_implies, implies_true, and_true] at kc kf
    obtain ⟨c0, c1, c2, c3, c4, c5, c6, c7⟩ := kc
    obtain ⟨f0, f1, f2, f3, f4, f5, f6, f7⟩ := kf
    go_wp2_with fail
    refine (S1 _).out.mono ?_
    rintro e w2 ⟨rfl, hb2⟩
    have hT := hT.next hb2
    clear hb2 c0 f0 c1 f1 c2 f2 c3 f3 c4 f4 c5 f5 c6 f6 c7 f7
    have kc := hT.cells
    have kf := hT.frz
    simp only [List.forall_mem_cons, List.not_mem_nil, false_implies, implies_true, and_true] at kc kf
    obtain ⟨c0, c1, c2, c3, c4, c5, c6, c7⟩ := kc
    obtain ⟨f0, f1, f2, f3, f4, f5, f6, f7⟩ := kf
    go_wp2_with fail
    refine (RA _).out.mono ?_
    rintro e w2 ⟨rfl, hb2⟩
    have hT := hT.next hb2
    clear hb2 c0 f0 c1 f1 c2 f2 c3 f3 c4 f4 c5 f5 c6 f6 c7 f7
    have kc := hT.cells
    have kf := hT.frz
    simp only [List.forall_mem_cons, List.not_mem_nil, false_implies, implies_true, and_true] at kc kf
    obtain ⟨c0, c1, c2, c3, c4, c5, c6, c7⟩ := kc
    obtain ⟨f0, f1, f2, f3, f4, f5, f6, f7⟩ := kf
    go_wp2_with fail
    go_ret
    exact ⟨rfl, hT.be⟩
  rw [hra] at RA
  cases hrb : rdB bU bW bR
  · rw [hrb] at RB
    clear hra hrb sa sb
    go_enter Try.func7, Try.ntmps7
    go_wp2_with fail
    refine (awake_any _).mono ?_
    rintro e w1 ⟨rfl, hb1⟩
    have hT : Lf w.heap.size (w.heap.size + 1 + 1) [(⟨w.heap.size, 0, none⟩, .int .i64 aU), (⟨w.heap.size, 1, none⟩, .int .i64 aW), (⟨w.heap.size, 2, none⟩, .int .i64 aR), (⟨w.heap.size, 3, none⟩, .int .i64 aH), (⟨w.heap.size + 1, 0, none⟩, .int .i64 bU), (⟨w.heap.size + 1, 1, none⟩, .int .i64 bW), (⟨w.heap.size + 1, 2, none⟩, .int .i64 bR), (⟨w.heap.size + 1, 3, none⟩, .int .i64 bH)] w w1 := Lf.next (w := ((w.alloc (.cells #[.int .i64 aU, .int .i64 aW, .int .i64 aR, .int .i64 aH] 30)).alloc (.cells #[.int .i64 bU, .int .i64 bW, .int .i64 bR, .int .i64 bH] 30))) ⟨by simp [List.forall_mem_cons, go_sem], by simp [List.forall_mem_cons, go_sem], by simp [List.forall_mem_cons] <;> omega, by simp, by (repeat (first | exact Below.refl _ _ | assumption | refine Below.drew ?_ | (refine Below.alloc ?_ (by simp <;> omega) _) | (refine Below.setCell ?_ (by simp <;> omega) _))), by omega⟩ hb1
    clear hb1
    have kc := hT.cells
    have kf := hT.frz
    simp only [List.forall_mem_cons, List.not_mem_nil, false_implies, implies_true, and_true] at kc kf
    obtain ⟨c0, c1, c2, c3, c4, c5, c6, c7⟩ := kc
    obtain ⟨f0, f1, f2, f3, f4, f5, f6, f7⟩ := kf
    go_wp2_with fail
    refine (S0 _).out.mono ?_
    rintro e w2 ⟨rfl, hb2⟩
    have hT := hT.next hb2
    clear hb2 c0 f0 c1 f1 c2 f2 c3 f3 c4 f4 c5 f5 c6 f6 c7 f7
    have kc := hT.cells
    have kf := hT.frz
    simp only [List.forall_mem_cons, List.not_mem_nil, false_implies, implies_true, and_true] at kc kf
    obtain ⟨c0, c1, c2, c3, c4, c5, c6, c7⟩ := kc
    obtain ⟨f0, f1, f2, f3, f4, f5, f6, f7⟩ := kf
    go_wp2_with fail
    refine (S1 _).out.mono ?_
    rintro e w2 ⟨rfl, hb2⟩
    have hT := hT.next hb2
    clear hb2 c0 f0 c1 f1 c2 f2 c3 f3 c4 f4 c5 f5 c6 f6 c7 f7
    have kc := hT.cells
    have kf := hT.frz
    simp only [List.forall_mem_cons, List.not_mem_nil, false_implies, implies_true, and_true] at kc kf
    obtain ⟨c0, c1, c2, c3, c4, c5, c6, c7⟩ := kc
    obtain ⟨f0, f1, f2, f3, f4, f5, f6, f7⟩ := kf
    go_wp2_with fail
    refine (RA _).out.mono ?_
    rintro e w2 ⟨rfl, hb2⟩
    have hT := hT.next hb2
    clear hb2 c0 f0 c1 f1 c2 f2 c3 f3 c4 f4 c5 f5 c6 f6 c7 f7
    have kc := hT.cells
    have kf := hT.frz
    simp only [List.forall_mem_cons, List.not_mem_nil, false_implies, implies_true, and_true] at kc kf
    obtain ⟨c0, c1, c2, c3, c4, c5, c6, c7⟩ := kc
    obtain ⟨f0, f1, f2, f3, f4, f5, f6, f7⟩ := kf
    go_wp2_with fail
    refine (RB _).out.mono ?_
    rintro e w2 ⟨rfl, hb2⟩
    have hT := hT.next hb2
    clear hb2 c0 f0 c1 f1 c2 f2 c3 f3 c4 f4 c5 f5 c6 f6 c7 f7
    have kc := hT.cells
    have kf := hT.frz
    simp only [List.forall_mem_cons, List.not_mem_nil, false_implies, implies_true, and_true] at kc kf
    obtain ⟨c0, c1, c2, c3, c4, c5, c6, c7⟩ := kc
    obtain ⟨f0, f1, f2, f3, f4, f5, f6, f7⟩ := kf
    go_wp2_with fail
    go_ret
    exact ⟨rfl, hT.be⟩
  rw [hrb] at RB
  have ra := rdB_t hra
  have rb := rdB_t hrb
  have CX := fun w => Lib.hid (crossR_any aU aW aR aH bU bW bR bH w sa.sk sb.sk)
  obtain ⟨a1, a2, a3, a4, a5, a6, a7, a8⟩ := id sa
  obtain ⟨b1, b2, b3, b4, b5, b6, b7, b8⟩ := id sb
  have q1 := mul_bdK (x := aU) (y := bW) (by omega) (by omega) (by omega) (by omega)
  have q2 := mul_bdK (x := aW) (y := bU) (by omega) (by omega) (by omega) (by omega)
  obtain ⟨m1a, m1b⟩ := dir_mul2 (d := (-1)) (by omega) (x := aU * bW - aW * bU) (by omega) (by omega)
  have q3 := sq_bdK (x := aU - bU) (by omega) (by omega)
  have q4 := sq_bdK (x := aW - bW) (by omega) (by omega)
  obtain ⟨q5, q6⟩ := q3
  obtain ⟨q7, q8⟩ := q4
  by_cases h1 : 16 < aR - bR
  · clear hra hrb sa sb ra rb CX q1 q2 m1a m1b
    go_enter Try.func7, Try.ntmps7
    go_wp2_with fail
    refine (awake_any _).mono ?_
    rintro e w1 ⟨rfl, hb1⟩
    have hT : Lf w.heap.size (w.heap.size + 1 + 1) [(⟨w.heap.size, 0, none⟩, .int .i64 aU), (⟨w.heap.size, 1, none⟩, .int .i64 aW), (⟨w.heap.size, 2, none⟩, .int .i64 aR), (⟨w.heap.size, 3, none⟩, .int .i64 aH), (⟨w.heap.size + 1, 0, none⟩, .int .i64 bU), (⟨w.heap.size + 1, 1, none⟩, .int .i64 bW), (⟨w.heap.size + 1, 2, none⟩, .int .i64 bR), (⟨w.heap.size + 1, 3, none⟩, .int .i64 bH)] w w1 := Lf.next (w := ((w.alloc (.cells #[.int .i64 aU, .int .i64 aW, .int .i64 aR, .int .i64 aH] 30)).alloc (.cells #[.int .i64 bU, .int .i64 bW, .int .i64 bR, .int .i64 bH] 30))) ⟨by simp [List.forall_mem_cons, go_sem], by simp [List.forall_mem_cons, go_sem], by simp [List.forall_mem_cons] <;> omega, by simp, by (repeat (first | exact Below.refl _ _ | assumption | refine Below.drew ?_ | (refine Below.alloc ?_ (by simp <;> omega) _) | (refine Below.setCell ?_ (by simp <;> omega) _))), by omega⟩ hb1
    clear hb1
    have kc := hT.cells
    have kf := hT.frz
    simp only [List.forall_mem_cons, List.not_mem_nil, false_implies, implies_true, and_true] at kc kf
    obtain ⟨c0, c1, c2, c3, c4, c5, c6, c7⟩ := kc
    obtain ⟨f0, f1, f2, f3, f4, f5, f6, f7⟩ := kf
    go_wp2_with fail
    refine (S0 _).out.mono ?_
    rintro e w2 ⟨rfl, hb2⟩
    have hT := hT.next hb2
    clear hb2 c0 f0 c1 f1 c2 f2 c3 f3 c4 f4 c5 f5 c6 f6 c7 f7
    have kc := hT.cells
    have kf := hT.frz
    simp only [List.forall_mem_cons, List.not_mem_nil, false_implies, implies_true, and_true] at kc kf
    obtain ⟨c0, c1, c2, c3, c4, c5, c6, c7⟩ := kc
    obtain ⟨f0, f1, f2, f3, f4, f5, f6, f7⟩ := kf
    go_wp2_with fail
    refine (S1 _).out.mono ?_
    rintro e w2 ⟨rfl, hb2⟩
    have hT := hT.next hb2
    clear hb2 c0 f0 c1 f1 c2 f2 c3 f3 c4 f4 c5 f5 c6 f6 c7 f7
    have kc := hT.cells
    have kf := hT.frz
    simp only [List.forall_mem_cons, List.not_mem_nil, false_implies, implies_true, and_true] at kc kf
    obtain ⟨c0, c1, c2, c3, c4, c5, c6, c7⟩ := kc
    obtain ⟨f0, f1, f2, f3, f4, f5, f6, f7⟩ := kf
    go_wp2_with fail
    refine (RA _).out.mono ?_
    rintro e w2 ⟨rfl, hb2⟩
    have hT := hT.next hb2
    clear hb2 c0 f0 c1 f1 c2 f2 c3 f3 c4 f4 c5 f5 c6 f6 c7 f7
    have kc := hT.cells
    have kf := hT.frz
    simp only [List.forall_mem_cons, List.not_mem_nil, false_implies, implies_true, and_true] at kc kf
    obtain ⟨c0, c1, c2, c3, c4, c5, c6, c7⟩ := kc
    obtain ⟨f0, f1, f2, f3, f4, f5, f6, f7⟩ := kf
    go_wp2_with fail
    refine (RB _).out.mono ?_
    rintro e w2 ⟨rfl, hb2⟩
    have hT := hT.next hb2
    clear hb2 c0 f0 c1 f1 c2 f2 c3 f3 c4 f4 c5 f5 c6 f6 c7 f7
    have kc := hT.cells
    have kf := hT.frz
    simp only [List.forall_mem_cons, List.not_mem_nil, false_implies, implies_true, and_true] at kc kf
    obtain ⟨c0, c1, c2, c3, c4, c5, c6, c7⟩ := kc
    obtain ⟨f0, f1, f2, f3, f4, f5, f6, f7⟩ := kf
    go_wp2_with fail
    go_ret
    exact ⟨rfl, hT.be⟩
  by_cases h2 : 16 < bR - aR
  · clear hra hrb sa sb ra rb CX q1 q2 m1a m1b
    go_enter Try.func7, Try.ntmps7
    go_wp2_with fail
    refine (awake_any _).mono ?_
    rintro e w1 ⟨rfl, hb1⟩
    have hT : Lf w.heap.size (w.heap.size + 1 + 1) [(⟨w.heap.size, 0, none⟩, .int .i64 aU), (⟨w.heap.size, 1, none⟩, .int .i64 aW), (⟨w.heap.size, 2, none⟩, .int .i64 aR), (⟨w.heap.size, 3, none⟩, .int .i64 aH), (⟨w.heap.size + 1, 0, none⟩, .int .i64 bU), (⟨w.heap.size + 1, 1, none⟩, .int .i64 bW), (⟨w.heap.size + 1, 2, none⟩, .int .i64 bR), (⟨w.heap.size + 1, 3, none⟩, .int .i64 bH)] w w1 := Lf.next (w := ((w.alloc (.cells #[.int .i64 aU, .int .i64 aW, .int .i64 aR, .int .i64 aH] 30)).alloc (.cells #[.int .i64 bU, .int .i64 bW, .int .i64 bR, .int .i64 bH] 30))) ⟨by simp [List.forall_mem_cons, go_sem], by simp [List.forall_mem_cons, go_sem], by simp [List.forall_mem_cons] <;> omega, by simp, by (repeat (first | exact Below.refl _ _ | assumption | refine Below.drew ?_ | (refine Below.alloc ?_ (by simp <;> omega) _) | (refine Below.setCell ?_ (by simp <;> omega) _))), by omega⟩ hb1
    clear hb1
    have kc := hT.cells
    have kf := hT.frz
    simp only [List.forall_mem_cons, List.not_mem_nil, false_implies, implies_true, and_true] at kc kf
    obtain ⟨c0, c1, c2, c3, c4, c5, c6, c7⟩ := kc
    obtain ⟨f0, f1, f2, f3, f4, f5, f6, f7⟩ := kf
    go_wp2_with fail
    refine (S0 _).out.mono ?_
    rintro e w2 ⟨rfl, hb2⟩
    have hT := hT.next hb2
    clear hb2 c0 f0 c1 f1 c2 f2 c3 f3 c4 f4 c5 f5 c6 f6 c7 f7
    have kc := hT.cells
    have kf := hT.frz
    simp only [List.forall_mem_cons, List.not_mem_nil, false_implies, implies_true, and_true] at kc kf
    obtain ⟨c0, c1, c2, c3, c4, c5, c6, c7⟩ := kc
    obtain ⟨f0, f1, f2, f3, f4, f5, f6, f7⟩ := kf
    go_wp2_with fail
    refine (S1 _).out.mono ?_
    rintro e w2 ⟨rfl, hb2⟩
    have hT := hT.next hb2
    clear hb2 c0 f0 c1 f1 c2 f2 c3 f3 c4 f4 c5 f5 c6 f6 c7 f7
    have kc := hT.cells
    have kf := hT.frz
    simp only [List.forall_mem_cons, List.not_mem_nil, false_implies, implies_true, and_true] at kc kf
    obtain ⟨c0, c1, c2, c3, c4, c5, c6, c7⟩ := kc
    obtain ⟨f0, f1, f2, f3, f4, f5, f6, f7⟩ := kf
    go_wp2_with fail
    refine (RA _).out.mono ?_
    rintro e w2 ⟨rfl, hb2⟩
    have hT := hT.next hb2
    clear hb2 c0 f0 c1 f1 c2 f2 c3 f3 c4 f4 c5 f5 c6 f6 c7 f7
    have kc := hT.cells
    have kf := hT.frz
    simp only [List.forall_mem_cons, List.not_mem_nil, false_implies, implies_true, and_true] at kc kf
    obtain ⟨c0, c1, c2, c3, c4, c5, c6, c7⟩ := kc
    obtain ⟨f0, f1, f2, f3, f4, f5, f6, f7⟩ := kf
    go_wp2_with fail
    refine (RB _).out.mono ?_
    rintro e w2 ⟨rfl, hb2⟩
    have hT := hT.next hb2
    clear hb2 c0 f0 c1 f1 c2 f2 c3 f3 c4 f4 c5 f5 c6 f6 c7 f7
    have kc := hT.cells
    have kf := hT.frz
    simp only [List.forall_mem_cons, List.not_mem_nil, false_implies, implies_true, and_true] at kc kf
    obtain ⟨c0, c1, c2, c3, c4, c5, c6, c7⟩ := kc
    obtain ⟨f0, f1, f2, f3, f4, f5, f6, f7⟩ := kf
    go_wp2_with fail
    go_ret
    exact ⟨rfl, hT.be⟩
  by_cases h3 : 0 ≤ aU * bW - aW * bU
  · clear hra hrb sa sb ra rb q1 q2
    go_enter Try.func7, Try.ntmps7
    go_wp2_with fail
    refine (awake_any _).mono ?_
    rintro e w1 ⟨rfl, hb1⟩
    have hT : Lf w.heap.size (w.heap.size + 1 + 1) [(⟨w.heap.size, 0, none⟩, .int .i64 aU), (⟨w.heap.size, 1, none⟩, .int .i64 aW), (⟨w.heap.size, 2, none⟩, .int .i64 aR), (⟨w.heap.size, 3, none⟩, .int .i64 aH), (⟨w.heap.size + 1, 0, none⟩, .int .i64 bU), (⟨w.heap.size + 1, 1, none⟩, .int .i64 bW), (⟨w.heap.size + 1, 2, none⟩, .int .i64 bR), (⟨w.heap.size + 1, 3, none⟩, .int .i64 bH)] w w1 := Lf.next (w := ((w.alloc (.cells #[.int .i64 aU, .int .i64 aW, .int .i64 aR, .int .i64 aH] 30)).alloc (.cells #[.int .i64 bU, .int .i64 bW, .int .i64 bR, .int .i64 bH] 30))) ⟨by simp [List.forall_mem_cons, go_sem], by simp [List.forall_mem_cons, go_sem], by simp [List.forall_mem_cons] <;> omega, by simp, by (repeat (first | exact Below.refl _ _ | assumption | refine Below.drew ?_ | (refine Below.alloc ?_ (by simp <;> omega) _) | (refine Below.setCell ?_ (by simp <;> omega) _))), by omega⟩ hb1
    clear hb1
    have kc := hT.cells
    have kf := hT.frz
    simp only [List.forall_mem_cons, List.not_mem_nil, false_implies, implies_true, and_true] at kc kf
    obtain ⟨c0, c1, c2, c3, c4, c5, c6, c7⟩ := kc
    obtain ⟨f0, f1, f2, f3, f4, f5, f6, f7⟩ := kf
    go_wp2_with fail
    refine (S0 _).out.mono ?_
    rintro e w2 ⟨rfl, hb2⟩
    have hT := hT.next hb2
    clear hb2 c0 f0 c1 f1 c2 f2 c3 f3 c4 f4 c5 f5 c6 f6 c7 f7
    have kc := hT.cells
    have kf := hT.frz
    simp only [List.forall_mem_cons, List.not_mem_nil, false_implies, implies_true, and_true] at kc kf
    obtain ⟨c0, c1, c2, c3, c4, c5, c6, c7⟩ := kc
    obtain ⟨f0, f1, f2, f3, f4, f5, f6, f7⟩ := kf
    go_wp2_with fail
    refine (S1 _).out.mono ?_
    rintro e w2 ⟨rfl, hb2⟩
    have hT := hT.next hb2
    clear hb2 c0 f0 c1 f1 c2 f2 c3 f3 c4 f4 c5 f5 c6 f6 c7 f7
    have kc := hT.cells
    have kf := hT.frz
    simp only [List.forall_mem_cons, List.not_mem_nil, false_implies, implies_true, and_true] at kc kf
    obtain ⟨c0, c1, c2, c3, c4, c5, c6, c7⟩ := kc
    obtain ⟨f0, f1, f2, f3, f4, f5, f6, f7⟩ := kf
    go_wp2_with fail
    refine (RA _).out.mono ?_
    rintro e w2 ⟨rfl, hb2⟩
    have hT := hT.next hb2
    clear hb2 c0 f0 c1 f1 c2 f2 c3 f3 c4 f4 c5 f5 c6 f6 c7 f7
    have kc := hT.cells
    have kf := hT.frz
    simp only [List.forall_mem_cons, List.not_mem_nil, false_implies, implies_true, and_true] at kc kf
    obtain ⟨c0, c1, c2, c3, c4, c5, c6, c7⟩ := kc
    obtain ⟨f0, f1, f2, f3, f4, f5, f6, f7⟩ := kf
    go_wp2_with fail
    refine (RB _).out.mono ?_
    rintro e w2 ⟨rfl, hb2⟩
    have hT := hT.next hb2
    clear hb2 c0 f0 c1 f1 c2 f2 c3 f3 c4 f4 c5 f5 c6 f6 c7 f7
    have kc := hT.cells
    have kf := hT.frz
    simp only [List.forall_mem_cons, List.not_mem_nil, false_implies, implies_true, and_true] at kc kf
    obtain ⟨c0, c1, c2, c3, c4, c5, c6, c7⟩ := kc
    obtain ⟨f0, f1, f2, f3, f4, f5, f6, f7⟩ := kf
    go_wp2_with fail
    refine (CX _).out.mono ?_
    rintro e w2 ⟨rfl, hb2⟩
    have hT := hT.next hb2
    clear hb2 c0 f0 c1 f1 c2 f2 c3 f3 c4 f4 c5 f5 c6 f6 c7 f7
    have kc := hT.cells
    have kf := hT.frz
    simp only [List.forall_mem_cons, List.not_mem_nil, false_implies, implies_true, and_true] at kc kf
    obtain ⟨c0, c1, c2, c3, c4, c5, c6, c7⟩ := kc
    obtain ⟨f0, f1, f2, f3, f4, f5, f6, f7⟩ := kf
    go_wp2_with fail
    go_ret
    exact ⟨rfl, hT.be⟩
  have h4 : aU * bW - aW * bU < 0 := by omega
  have FL := fun w => Lib.hid ((flatR_any (min aR bR) ((aU - bU) * (aU - bU) + (aW - bW) * (aW - bW)) w (by omega) (by omega)).mono fun e w' h => (⟨h.1, by rw [← h.2]; exact Below.refl _ _⟩ : _ ∧ Below w.heap.size w w'))
  by_cases h5 : (aU - bU) * (aU - bU) + (aW - bW) * (aW - bW) ≤ 8 * min aR bR * 4 - 64
  · rw [decide_eq_true h5] at FL
    clear hra hrb sa sb ra rb q1 q2 h3 h5
    go_enter Try.func7, Try.ntmps7
    go_wp2_with fail
    refine (awake_any _).mono ?_
    rintro e w1 ⟨rfl, hb1⟩
    have hT : Lf w.heap.size (w.heap.size + 1 + 1) [(⟨w.heap.size, 0, none⟩, .int .i64 aU), (⟨w.heap.size, 1, none⟩, .int .i64 aW), (⟨w.heap.size, 2, none⟩, .int .i64 aR), (⟨w.heap.size, 3, none⟩, .int .i64 aH), (⟨w.heap.size + 1, 0, none⟩, .int .i64 bU), (⟨w.heap.size + 1, 1, none⟩, .int .i64 bW), (⟨w.heap.size + 1, 2, none⟩, .int .i64 bR), (⟨w.heap.size + 1, 3, none⟩, .int .i64 bH)] w w1 := Lf.next (w := ((w.alloc (.cells #[.int .i64 aU, .int .i64 aW, .int .i64 aR, .int .i64 aH] 30)).alloc (.cells #[.int .i64 bU, .int .i64 bW, .int .i64 bR, .int .i64 bH] 30))) ⟨by simp [List.forall_mem_cons, go_sem], by simp [List.forall_mem_cons, go_sem], by simp [List.forall_mem_cons] <;> omega, by simp, by (repeat (first | exact Below.refl _ _ | assumption | refine Below.drew ?_ | (refine Below.alloc ?_ (by simp <;> omega) _) | (refine Below.setCell ?_ (by simp <;> omega) _))), by omega⟩ hb1
    clear hb1
    have kc := hT.cells
    have kf := hT.frz
    simp only [List.forall_mem_cons, List.not_mem_nil, false_implies, implies_true, and_true] at kc kf
    obtain ⟨c0, c1, c2, c3, c4, c5, c6, c7⟩ := kc
    obtain ⟨f0, f1, f2, f3, f4, f5, f6, f7⟩ := kf
    go_wp2_with fail
    refine (S0 _).out.mono ?_
    rintro e w2 ⟨rfl, hb2⟩
    have hT := hT.next hb2
    clear hb2 c0 f0 c1 f1 c2 f2 c3 f3 c4 f4 c5 f5 c6 f6 c7 f7
    have kc := hT.cells
    have kf := hT.frz
    simp only [List.forall_mem_cons, List.not_mem_nil, false_implies, implies_true, and_true] at kc kf
    obtain ⟨c0, c1, c2, c3, c4, c5, c6, c7⟩ := kc
    obtain ⟨f0, f1, f2, f3, f4, f5, f6, f7⟩ := kf
    go_wp2_with fail
    refine (S1 _).out.mono ?_
    rintro e w2 ⟨rfl, hb2⟩
    have hT := hT.next hb2
    clear hb2 c0 f0 c1 f1 c2 f2 c3 f3 c4 f4 c5 f5 c6 f6 c7 f7
    have kc := hT.cells
    have kf := hT.frz
    simp only [List.forall_mem_cons, List.not_mem_nil, false_implies, implies_true, and_true] at kc kf
    obtain ⟨c0, c1, c2, c3, c4, c5, c6, c7⟩ := kc
    obtain ⟨f0, f1, f2, f3, f4, f5, f6, f7⟩ := kf
    go_wp2_with fail
    refine (RA _).out.mono ?_
    rintro e w2 ⟨rfl, hb2⟩
    have hT := hT.next hb2
    clear hb2 c0 f0 c1 f1 c2 f2 c3 f3 c4 f4 c5 f5 c6 f6 c7 f7
    have kc := hT.cells
    have kf := hT.frz
    simp only [List.forall_mem_cons, List.not_mem_nil, false_implies, implies_true, and_true] at kc kf
    obtain ⟨c0, c1, c2, c3, c4, c5, c6, c7⟩ := kc
    obtain ⟨f0, f1, f2, f3, f4, f5, f6, f7⟩ := kf
    go_wp2_with fail
    refine (RB _).out.mono ?_
    rintro e w2 ⟨rfl, hb2⟩
    have hT := hT.next hb2
    clear hb2 c0 f0 c1 f1 c2 f2 c3 f3 c4 f4 c5 f5 c6 f6 c7 f7
    have kc := hT.cells
    have kf := hT.frz
    simp only [List.forall_mem_cons, List.not_mem_nil, false_implies, implies_true, and_true] at kc kf
    obtain ⟨c0, c1, c2, c3, c4, c5, c6, c7⟩ := kc
    obtain ⟨f0, f1, f2, f3, f4, f5, f6, f7⟩ := kf
    go_wp2_with fail
    refine (CX _).out.mono ?_
    rintro e w2 ⟨rfl, hb2⟩
    have hT := hT.next hb2
    clear hb2 c0 f0 c1 f1 c2 f2 c3 f3 c4 f4 c5 f5 c6 f6 c7 f7
    have kc := hT.cells
    have kf := hT.frz
    simp only [List.forall_mem_cons, List.not_mem_nil, false_implies, implies_true, and_true] at kc kf
    obtain ⟨c0, c1, c2, c3, c4, c5, c6, c7⟩ := kc
    obtain ⟨f0, f1, f2, f3, f4, f5, f6, f7⟩ := kf
    go_wp2_with fail
    refine (FL _).out.mono ?_
    rintro e w2 ⟨rfl, hb2⟩
    have hT := hT.next hb2
    clear hb2 c0 f0 c1 f1 c2 f2 c3 f3 c4 f4 c5 f5 c6 f6 c7 f7
    have kc := hT.cells
    have kf := hT.frz
    simp only [List.forall_mem_cons, List.not_mem_nil, false_implies, implies_true, and_true] at kc kf
    obtain ⟨c0, c1, c2, c3, c4, c5, c6, c7⟩ := kc
    obtain ⟨f0, f1, f2, f3, f4, f5, f6, f7⟩ := kf
    go_wp2_with fail
    go_ret
    exact ⟨rfl, hT.be⟩
  rw [decide_eq_false h5] at FL
  obtain ⟨m0, m1, m2, m3, ok, hM, P0, _⟩ := mid_any aU aW aR aH bU bW bR bH (-1) false sa sb
  obtain ⟨rfl, g1, g2, g3, g4⟩ := between_m aU aW aR aH bU bW bR bH m0 m1 m2 m3 ok sa sb ra rb (by omega) (by omega) h4 (by omega) hM
  have C1 := fun w => Lib.hid (crossR_any aU aW aR aH m0 m1 m2 m3 w sa.sk ⟨⟨g3.1, g3.2⟩, g4.1, g4.2⟩)
  have C2 := fun w => Lib.hid (crossR_any m0 m1 m2 m3 bU bW bR bH w ⟨⟨g3.1, g3.2⟩, g4.1, g4.2⟩ sb.sk)
  have t1 := mul_bdK (x := aU) (y := m1) (by omega) (by omega) (by omega) (by omega)
  have t2 := mul_bdK (x := aW) (y := m0) (by omega) (by omega) (by omega) (by omega)
  have t3 := mul_bdK (x := m0) (y := bW) (by omega) (by omega) (by omega) (by omega)
  have t4 := mul_bdK (x := m1) (y := bU) (by omega) (by omega) (by omega) (by omega)
  obtain ⟨n1a, n1b⟩ := dir_mul2 (d := (-1)) (by omega) (x := aU * m1 - aW * m0) (by omega) (by omega)
  obtain ⟨n2a, n2b⟩ := dir_mul2 (d := (-1)) (by omega) (x := m0 * bW - m1 * bU) (by omega) (by omega)
  have HG := Lib.hid (And.intro g1 (And.intro g2 (And.intro n1a (And.intro n1b (And.intro n2a n2b)))))
  clear hra hrb sa sb ra rb q1 q2 h3 h5 hM g1 g2 g3 g4 t1 t2 t3 t4 n1a n1b n2a n2b
  go_enter Try.func7, Try.ntmps7
  go_wp2_with fail
  refine (awake_any _).mono ?_
  rintro e w1 ⟨rfl, hb1⟩
  have hT : Lf w.heap.size (w.heap.size + 1 + 1) [(⟨w.heap.size, 0, none⟩, .int .i64 aU), (⟨w.heap.size, 1, none⟩, .int .i64 aW), (⟨w.heap.size, 2, none⟩, .int .i64 aR), (⟨w.heap.size, 3, none⟩, .int .i64 aH), (⟨w.heap.size + 1, 0, none⟩, .int .i64 bU), (⟨w.heap.size + 1, 1, none⟩, .int .i64 bW), (⟨w.heap.size + 1, 2, none⟩, .int .i64 bR), (⟨w.heap.size + 1, 3, none⟩, .int .i64 bH)] w w1 := Lf.next (w := ((w.alloc (.cells #[.int .i64 aU, .int .i64 aW, .int .i64 aR, .int .i64 aH] 30)).alloc (.cells #[.int .i64 bU, .int .i64 bW, .int .i64 bR, .int .i64 bH] 30))) ⟨by simp [List.forall_mem_cons, go_sem], by simp [List.forall_mem_cons, go_sem], by simp [List.forall_mem_cons] <;> omega, by simp, by (repeat (first | exact Below.refl _ _ | assumption | refine Below.drew ?_ | (refine Below.alloc ?_ (by simp <;> omega) _) | (refine Below.setCell ?_ (by simp <;> omega) _))), by omega⟩ hb1
  clear hb1
  have kc := hT.cells
  have kf := hT.frz
  simp only [List.forall_mem_cons, List.not_mem_nil, false_implies, implies_true, and_true] at kc kf
  obtain ⟨c0, c1, c2, c3, c4, c5, c6, c7⟩ := kc
  obtain ⟨f0, f1, f2, f3, f4, f5, f6, f7⟩ := kf
  go_wp2_with fail
  refine (S0 _).out.mono ?_
  rintro e w2 ⟨rfl, hb2⟩
  have hT := hT.next hb2
  clear hb2 c0 f0 c1 f1 c2 f2 c3 f3 c4 f4 c5 f5 c6 f6 c7 f7
  have kc := hT.cells
  have kf := hT.frz
  simp only [List.forall_mem_cons, List.not_mem_nil, false_implies, implies_true, and_true] at kc kf
  obtain ⟨c0, c1, c2, c3, c4, c5, c6, c7⟩ := kc
  obtain ⟨f0, f1, f2, f3, f4, f5, f6, f7⟩ := kf
  go_wp2_with fail
  refine (S1 _).out.mono ?_
  rintro e w2 ⟨rfl, hb2⟩
  have hT := hT.next hb2
  clear hb2 c0 f0 c1 f1 c2 f2 c3 f3 c4 f4 c5 f5 c6 f6 c7 f7
  have kc := hT.cells
  have kf := hT.frz
  simp only [List.forall_mem_cons, List.not_mem_nil, false_implies, implies_true, and_true] at kc kf
  obtain ⟨c0, c1, c2, c3, c4, c5, c6, c7⟩ := kc
  obtain ⟨f0, f1, f2, f3, f4, f5, f6, f7⟩ := kf
  go_wp2_with fail
  refine (RA _).out.mono ?_
  rintro e w2 ⟨rfl, hb2⟩
  have hT := hT.next hb2
  clear hb2 c0 f0 c1 f1 c2 f2 c3 f3 c4 f4 c5 f5 c6 f6 c7 f7
  have kc := hT.cells
  have kf := hT.frz
  simp only [List.forall_mem_cons, List.not_mem_nil, false_implies, implies_true, and_true] at kc kf
  obtain ⟨c0, c1, c2, c3, c4, c5, c6, c7⟩ := kc
  obtain ⟨f0, f1, f2, f3, f4, f5, f6, f7⟩ := kf
  go_wp2_with fail
  refine (RB _).out.mono ?_
  rintro e w2 ⟨rfl, hb2⟩
  have hT := hT.next hb2
  clear hb2 c0 f0 c1 f1 c2 f2 c3 f3 c4 f4 c5 f5 c6 f6 c7 f7
  have kc := hT.cells
  have kf := hT.frz
  simp only [List.forall_mem_cons, List.not_mem_nil, false_implies, implies_true, and_true] at kc kf
  obtain ⟨c0, c1, c2, c3, c4, c5, c6, c7⟩ := kc
  obtain ⟨f0, f1, f2, f3, f4, f5, f6, f7⟩ := kf
  go_wp2_with fail
  refine (CX _).out.mono ?_
  rintro e w2 ⟨rfl, hb2⟩
  have hT := hT.next hb2
  clear hb2 c0 f0 c1 f1 c2 f2 c3 f3 c4 f4 c5 f5 c6 f6 c7 f7
  have kc := hT.cells
  have kf := hT.frz
  simp only [List.forall_mem_cons, List.not_mem_nil, false_implies, implies_true, and_true] at kc kf
  obtain ⟨c0, c1, c2, c3, c4, c5, c6, c7⟩ := kc
  obtain ⟨f0, f1, f2, f3, f4, f5, f6, f7⟩ := kf
  go_wp2_with fail
  refine (FL _).out.mono ?_
  rintro e w2 ⟨rfl, hb2⟩
  have hT := hT.next hb2
  clear hb2 c0 f0 c1 f1 c2 f2 c3 f3 c4 f4 c5 f5 c6 f6 c7 f7
  have kc := hT.cells
  have kf := hT.frz
  simp only [List.forall_mem_cons, List.not_mem_nil, false_implies, implies_true, and_true] at kc kf
  obtain ⟨c0, c1, c2, c3, c4, c5, c6, c7⟩ := kc
  obtain ⟨f0, f1, f2, f3, f4, f5, f6, f7⟩ := kf
  go_wp2_with fail
  clear CX FL m1a m1b h4
  refine (P0 _).out.mono ?_
  rintro e w1 ⟨rfl, hb1⟩
  have hT1 := hT.next hb1
  have hz1 := hT1.lt
  clear c0 f0 c1 f1 c2 f2 c3 f3 c4 f4 c5 f5 c6 f6 c7 f7
  go_upto_region 11 with fail
  refine wp_cls (Lf w.heap.size (w1.heap.size + 1) [(⟨w1.heap.size, 0, none⟩, .int .i64 m0), (⟨w1.heap.size, 1, none⟩, .int .i64 m1), (⟨w1.heap.size, 2, none⟩, .int .i64 m2), (⟨w1.heap.size, 3, none⟩, .int .i64 m3), (⟨w.heap.size, 0, none⟩, .int .i64 aU), (⟨w.heap.size, 1, none⟩, .int .i64 aW), (⟨w.heap.size, 2, none⟩, .int .i64 aR), (⟨w.heap.size, 3, none⟩, .int .i64 aH), (⟨w.heap.size + 1, 0, none⟩, .int .i64 bU), (⟨w.heap.size + 1, 1, none⟩, .int .i64 bW), (⟨w.heap.size + 1, 2, none⟩, .int .i64 bR), (⟨w.heap.size + 1, 3, none⟩, .int .i64 bH)] w) (hT1.push #[.int .i64 m0, .int .i64 m1, .int .i64 m2, .int .i64 m3] 30) ?_
  intro wx hT2
  have kc := hT2.cells
  have kf := hT2.frz
  simp only [List.forall_mem_cons, List.not_mem_nil, false_implies, implies_true, and_true] at kc kf
  obtain ⟨c0, c1, c2, c3, c4, c5, c6, c7, c8, c9, c10, c11⟩ := kc
  obtain ⟨f0, f1, f2, f3, f4, f5, f6, f7, f8, f9, f10, f11⟩ := kf
  obtain ⟨g1, g2, n1a, n1b, n2a, n2b⟩ := HG.out
  go_wp2_with fail
  refine (C1 _).out.mono ?_
  rintro e w2 ⟨rfl, hb2⟩
  have hT3 := hT2.next hb2
  clear c0 f0 c1 f1 c2 f2 c3 f3 c4 f4 c5 f5 c6 f6 c7 f7 c8 f8 c9 f9 c10 f10 c11 f11 hb2
  have kc := hT3.cells
  have kf := hT3.frz
  simp only [List.forall_mem_cons, List.not_mem_nil, false_implies, implies_true, and_true] at kc kf
  obtain ⟨c0, c1, c2, c3, c4, c5, c6, c7, c8, c9, c10, c11⟩ := kc
  obtain ⟨f0, f1, f2, f3, f4, f5, f6, f7, f8, f9, f10, f11⟩ := kf
  go_wp2_with fail
  refine (C2 _).out.mono ?_
  rintro e w3 ⟨rfl, hb3⟩
  have hT4 := hT3.next hb3
  go_wp2_with fail
  go_ret
  exact ⟨by first | rfl | (simp; omega) | (simp; exact g2), hT4.be⟩
theorem law_between (aU aW aR aH bU bW bR bH : Int) (back : Bool) (w : World) (laU : -9223372036854775808 ≤ aU) (uaU : aU ≤ 9223372036854775807) (laW : -9223372036854775808 ≤ aW) (uaW : aW ≤ 9223372036854775807) (laR : -9223372036854775808 ≤ aR) (uaR : aR ≤ 9223372036854775807) (laH : -9223372036854775808 ≤ aH) (uaH : aH ≤ 9223372036854775807) (lbU : -9223372036854775808 ≤ bU) (ubU : bU ≤ 9223372036854775807) (lbW : -9223372036854775808 ≤ bW) (ubW : bW ≤ 9223372036854775807) (lbR : -9223372036854775808 ≤ bR) (ubR : bR ≤ 9223372036854775807) (lbH : -9223372036854775808 ≤ bH) (ubH : bH ≤ 9223372036854775807) :
    Calls Try.prog 7 #[.agg #[.int .i64 aU, .int .i64 aW, .int .i64 aR, .int .i64 aH], .agg #[.int .i64 bU, .int .i64 bW, .int .i64 bR, .int .i64 bH], .bool back] w fun e w' => e = .returned (.bool true) ∧ Below w.heap.size w w' := by
  cases back
  · exact law_between_p aU aW aR aH bU bW bR bH w
  · exact law_between_m aU aW aR aH bU bW bR bH w
end Go.Proofs.Ytiolnpkieooceaa
