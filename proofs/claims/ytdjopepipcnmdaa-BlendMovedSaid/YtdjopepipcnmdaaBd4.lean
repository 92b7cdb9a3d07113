/- Proved here: the sanity check of the laws of chapter 24; BlendToward and BlendDistance return true for every argument; no conditions but that integers are ints. -/
import Derived.Test.YtdjopepipcnmdaaBd2
import Derived.Test.YtdjopepipcnmdaaBd3
namespace Go.Proofs.Ytdjopepipcnmdaa
open Go.RowKit
set_option linter.unusedVariables false
set_option linter.unusedSimpArgs false
theorem aw_n : nrI 30 10 2500 = 6 ∧ nrI 40 10 2500 = 8 ∧ nrI 0 10 2500 = 0 := by decide +kernel
theorem aw_r : rcI 10000 0 0 0 0 0 0 10000 0 160 = 452 := by decide +kernel
theorem smB_pk {a b c : Int} (h : smB 33554432 a b c = true) : Pk a b c := by
  obtain ⟨⟨h1, h2⟩, ⟨h3, h4⟩, h5, h6⟩ := smB_iff.1 h
  exact ⟨h1, h2, h3, h4, h5, h6⟩
set_option maxHeartbeats 2000000 in
theorem awake_any (w : World) : Calls Try.prog 12 #[] w fun e w' => e = .returned (.bool true) ∧ Below w.heap.size w w' := by
  have TA : ∀ w, Hid (Calls Try.prog 14 #[.agg #[.int .i64 0, .int .i64 0, .int .i64 0], .agg #[.int .i64 30, .int .i64 40, .int .i64 0], .int .i64 10] w fun e w' => e = .returned (.tuple #[.agg #[.int .i64 6, .int .i64 8, .int .i64 0], .bool true]) ∧ Below w.heap.size w w') := fun w =>
    towardP_main 0 0 0 30 40 0 10 6 8 0 w ⟨by omega, by omega, by omega, by omega, by omega, by omega⟩ ⟨by omega, by omega, by omega, by omega, by omega, by omega⟩ (by decide) (by decide) (by omega) (by omega) aw_n.1 aw_n.2.1 aw_n.2.2
  have RE : ∀ w, Hid (Calls Try.prog 18 #[.agg #[.int .i64 10000, .int .i64 0, .int .i64 0], .agg #[.int .i64 0, .int .i64 0, .int .i64 0], .agg #[.int .i64 0, .int .i64 10000, .int .i64 0], .int .i64 160] w fun e w' => e = .returned (.int .i64 452) ∧ Below w.heap.size w w') := by
    intro w
    have h := reachP_main 10000 0 0 0 0 0 0 10000 0 160 w ⟨by omega, by omega, by omega, by omega, by omega, by omega⟩ ⟨by omega, by omega, by omega, by omega, by omega, by omega⟩ ⟨by omega, by omega, by omega, by omega, by omega, by omega⟩ (by decide) (by decide) (by omega) (by omega)
    rw [aw_r] at h
    exact h
  go_enter Try.func12, Try.ntmps12
  go_wp2_with fail
  refine (TA _).out.mono ?_
  rintro e w1 ⟨rfl, hb1⟩
  have g0 : Below w.heap.size w (w1.alloc (.cells #[.int .i64 6, .int .i64 8, .int .i64 0] 23)) := hb1.alloc hb1.size _
  go_wp2_with fail
  refine (RE _).out.mono ?_
  rintro e w2 ⟨rfl, hb2⟩
  go_wp2_with fail
  go_ret
  exact ⟨rfl, g0.trans (hb2.mono (by have := hb1.size; simp; omega))⟩
theorem tow_any (c0 c1 c2 a0 a1 a2 d : Int) (hc : Pk c0 c1 c2) (ha : Pk a0 a1 a2) :
    ∃ (p0 p1 p2 : Int) (ok : Bool), (ok = true ↔ sameB a0 a1 a2 c0 c1 c2 = false ∧ 0 ≤ d ∧ d ≤ 33554432) ∧ (ok = true → p0 = c0 + nrI (a0 - c0) d (sqD a0 a1 a2 c0 c1 c2) ∧ p1 = c1 + nrI (a1 - c1) d (sqD a0 a1 a2 c0 c1 c2) ∧ p2 = c2 + nrI (a2 - c2) d (sqD a0 a1 a2 c0 c1 c2)) ∧
      (∀ w, Hid (Calls Try.prog 14 #[.agg #[.int .i64 c0, .int .i64 c1, .int .i64 c2], .agg #[.int .i64 a0, .int .i64 a1, .int .i64 a2], .int .i64 d] w fun e w' => e = .returned (.tuple #[.agg #[.int .i64 p0, .int .i64 p1, .int .i64 p2], .bool ok]) ∧ Below w.heap.size w w')) ∧ (∀ w, Hid (Calls Try.prog 15 #[.agg #[.int .i64 c0, .int .i64 c1, .int .i64 c2], .agg #[.int .i64 a0, .int .i64 a1, .int .i64 a2], .int .i64 d] w fun e w' => e = .returned (.tuple #[.agg #[.int .i64 p0, .int .i64 p1, .int .i64 p2], .bool ok]) ∧ Below w.heap.size w w')) := by
  cases hs : sameB a0 a1 a2 c0 c1 c2
  · have hn := sameB_f hs
    by_cases h1 : d < 0
    · exact ⟨0, 0, 0, false, ⟨fun h => (nomatch h), fun h => by omega⟩, fun h => (nomatch h), fun w => towardP_neg c0 c1 c2 a0 a1 a2 d w hs h1, fun w => towardR_neg c0 c1 c2 a0 a1 a2 d w hc ha h1⟩
    · by_cases h2 : 33554432 < d
      · exact ⟨0, 0, 0, false, ⟨fun h => (nomatch h), fun h => by omega⟩, fun h => (nomatch h), fun w => towardP_big c0 c1 c2 a0 a1 a2 d w hs h2, fun w => towardR_big c0 c1 c2 a0 a1 a2 d w hc ha h2⟩
      · exact ⟨_, _, _, true, ⟨fun _ => ⟨rfl, by omega, by omega⟩, fun _ => rfl⟩, fun _ => ⟨rfl, rfl, rfl⟩, fun w => towardP_main c0 c1 c2 a0 a1 a2 d _ _ _ w hc ha hs hn (by omega) (by omega) rfl rfl rfl, fun w => towardR_main c0 c1 c2 a0 a1 a2 d _ _ _ w hc ha hn (by omega) (by omega) rfl rfl rfl⟩
  · obtain ⟨rfl, rfl, rfl⟩ := sameB_t hs
    refine ⟨0, 0, 0, false, ⟨fun h => (nomatch h), fun h => (nomatch h.1)⟩, fun h => (nomatch h), fun w => towardP_same a0 a1 a2 d w, fun w => towardR_zero a0 a1 a2 a0 a1 a2 d w hc ha (sqD_zero.2 ⟨rfl, rfl, rfl⟩)⟩
set_option maxHeartbeats 8000000 in
set_option maxRecDepth 20000 in
theorem law_toward (c0 c1 c2 a0 a1 a2 d : Int) (w : World) (lc0 : -9223372036854775808 ≤ c0) (uc0 : c0 ≤ 9223372036854775807) (lc1 : -9223372036854775808 ≤ c1) (uc1 : c1 ≤ 9223372036854775807) (lc2 : -9223372036854775808 ≤ c2) (uc2 : c2 ≤ 9223372036854775807) (la0 : -9223372036854775808 ≤ a0) (ua0 : a0 ≤ 9223372036854775807) (la1 : -9223372036854775808 ≤ a1) (ua1 : a1 ≤ 9223372036854775807) (la2 : -9223372036854775808 ≤ a2) (ua2 : a2 ≤ 9223372036854775807) (ld : -9223372036854775808 ≤ d) (ud : d ≤ 9223372036854775807) :
    Calls Try.prog 3 #[.agg #[.int .i64 c0, .int .i64 c1, .int .i64 c2], .agg #[.int .i64 a0, .int .i64 a1, .int .i64 a2], .int .i64 d] w fun e w' => e = .returned (.bool true) ∧ Below w.heap.size w w' := by
  have S0 := fun w => Lib.hid (Small_any c0 c1 c2 w)
  have S1 := fun w => Lib.hid (Small_any a0 a1 a2 w)
  clear lc0 uc0 lc1 uc1 lc2 uc2 la0 ua0 la1 ua1 la2 ua2 ld ud
  cases hA : smB 33554432 c0 c1 c2
  · rw [hA] at S0
    clear hA
    go_enter Try.func3, Try.ntmps3
    go_wp2_with fail
    refine (awake_any _).mono ?_
    rintro e w1 ⟨rfl, hb1⟩
    have hT : Lf w.heap.size (w.heap.size + 1 + 1) [(⟨w.heap.size, 0, none⟩, .int .i64 c0), (⟨w.heap.size, 1, none⟩, .int .i64 c1), (⟨w.heap.size, 2, none⟩, .int .i64 c2), (⟨w.heap.size + 1, 0, none⟩, .int .i64 a0), (⟨w.heap.size + 1, 1, none⟩, .int .i64 a1), (⟨w.heap.size + 1, 2, none⟩, .int .i64 a2)] w w1 := Lf.next (w := ((w.alloc (.cells #[.int .i64 c0, .int .i64 c1, .int .i64 c2] 23)).alloc (.cells #[.int .i64 a0, .int .i64 a1, .int .i64 a2] 23))) ⟨by simp [List.forall_mem_cons, go_sem], by simp [List.forall_mem_cons, go_sem], by simp [List.forall_mem_cons] <;> omega, by simp, by (repeat (first | exact Below.refl _ _ | assumption | refine Below.drew ?_ | (refine Below.alloc ?_ (by simp <;> omega) _) | (refine Below.setCell ?_ (by simp <;> omega) _))), by omega⟩ hb1
    clear hb1
    have kc := hT.cells
    have kf := hT.frz
    simp only [List.forall_mem_cons, List.not_mem_nil, false_implies, implies_true, and_true] at kc kf
    obtain ⟨yc0, yc1, yc2, yc3, yc4, yc5⟩ := kc
    obtain ⟨yf0, yf1, yf2, yf3, yf4, yf5⟩ := kf
    go_wp2_with fail
    refine (S0 _).out.mono ?_
    rintro e w2 ⟨rfl, hb2⟩
    have hT := hT.next hb2
    clear hb2 yc0 yf0 yc1 yf1 yc2 yf2 yc3 yf3 yc4 yf4 yc5 yf5
    have kc := hT.cells
    have kf := hT.frz
    simp only [List.forall_mem_cons, List.not_mem_nil, false_implies, implies_true, and_true] at kc kf
    obtain ⟨yc0, yc1, yc2, yc3, yc4, yc5⟩ := kc
    obtain ⟨yf0, yf1, yf2, yf3, yf4, yf5⟩ := kf
    go_wp2_with fail
    go_ret
    exact ⟨rfl, hT.be⟩
  rw [hA] at S0
  cases hB : smB 33554432 a0 a1 a2
  · rw [hB] at S1
    clear hA hB
    go_enter Try.func3, Try.ntmps3
    go_wp2_with fail
    refine (awake_any _).mono ?_
    rintro e w1 ⟨rfl, hb1⟩
    have hT : Lf w.heap.size (w.heap.size + 1 + 1) [(⟨w.heap.size, 0, none⟩, .int .i64 c0), (⟨w.heap.size, 1, none⟩, .int .i64 c1), (⟨w.heap.size, 2, none⟩, .int .i64 c2), (⟨w.heap.size + 1, 0, none⟩, .int .i64 a0), (⟨w.heap.size + 1, 1, none⟩, .int .i64 a1), (⟨w.heap.size + 1, 2, none⟩, .int .i64 a2)] w w1 := Lf.next (w := ((w.alloc (.cells #[.int .i64 c0, .int .i64 c1, .int .i64 c2] 23)).alloc (.cells #[.int .i64 a0, .int .i64 a1, .int .i64 a2] 23))) ⟨by simp [List.forall_mem_cons, go_sem], by simp [List.forall_mem_cons, go_sem], by simp [List.forall_mem_cons] <;> omega, by simp, by (repeat (first | exact Below.refl _ _ | assumption | refine Below.drew ?_ | (refine Below.alloc ?_ (by simp <;> omega) _) | (refine Below.setCell ?_ (by simp <;> omega) _))), by omega⟩ hb1
    clear hb1
    have kc := hT.cells
    have kf := hT.frz
    simp only [List.forall_mem_cons, List.not_mem_nil, false_implies, implies_true, and_true] at kc kf
    obtain ⟨yc0, yc1, yc2, yc3, yc4, yc5⟩ := kc
    obtain ⟨yf0, yf1, yf2, yf3, yf4, yf5⟩ := kf
    go_wp2_with fail
    refine (S0 _).out.mono ?_
    rintro e w2 ⟨rfl, hb2⟩
    have hT := hT.next hb2
    clear hb2 yc0 yf0 yc1 yf1 yc2 yf2 yc3 yf3 yc4 yf4 yc5 yf5
    have kc := hT.cells
    have kf := hT.frz
    simp only [List.forall_mem_cons, List.not_mem_nil, false_implies, implies_true, and_true] at kc kf
    obtain ⟨yc0, yc1, yc2, yc3, yc4, yc5⟩ := kc
    obtain ⟨yf0, yf1, yf2, yf3, yf4, yf5⟩ := kf
    go_wp2_with fail
    refine (S1 _).out.mono ?_
    rintro e w3 ⟨rfl, hb3⟩
    have hT := hT.next hb3
    clear hb3 yc0 yf0 yc1 yf1 yc2 yf2 yc3 yf3 yc4 yf4 yc5 yf5
    have kc := hT.cells
    have kf := hT.frz
    simp only [List.forall_mem_cons, List.not_mem_nil, false_implies, implies_true, and_true] at kc kf
    obtain ⟨yc0, yc1, yc2, yc3, yc4, yc5⟩ := kc
    obtain ⟨yf0, yf1, yf2, yf3, yf4, yf5⟩ := kf
    go_wp2_with fail
    go_ret
    exact ⟨rfl, hT.be⟩
  rw [hB] at S1
  have hc := smB_pk hA
  have ha := smB_pk hB
  clear hA hB
  obtain ⟨p0, p1, p2, ok, hi, hv, P0, R0⟩ := tow_any c0 c1 c2 a0 a1 a2 d hc ha
  clear hi hv hc ha
  cases ok
  all_goals
    go_enter Try.func3, Try.ntmps3
    go_wp2_with fail
    refine (awake_any _).mono ?_
    rintro e w1 ⟨rfl, hb1⟩
    have hT : Lf w.heap.size (w.heap.size + 1 + 1) [(⟨w.heap.size, 0, none⟩, .int .i64 c0), (⟨w.heap.size, 1, none⟩, .int .i64 c1), (⟨w.heap.size, 2, none⟩, .int .i64 c2), (⟨w.heap.size + 1, 0, none⟩, .int .i64 a0), (⟨w.heap.size + 1, 1, none⟩, .int .i64 a1), (⟨w.heap.size + 1, 2, none⟩, .int .i64 a2)] w w1 := Lf.next (w := ((w.alloc (.cells #[.int .i64 c0, .int .i64 c1, .int .i64 c2] 23)).alloc (.cells #[.int .i64 a0, .int .i64 a1, .int .i64 a2] 23))) ⟨by simp [List.forall_mem_cons, go_sem], by simp [List.forall_mem_cons, go_sem], by simp [List.forall_mem_cons] <;> omega, by simp, by (repeat (first | exact Below.refl _ _ | assumption | refine Below.drew ?_ | (refine Below.alloc ?_ (by simp <;> omega) _) | (refine Below.setCell ?_ (by simp <;> omega) _))), by omega⟩ hb1
    clear hb1
    have kc := hT.cells
    have kf := hT.frz
    simp only [List.forall_mem_cons, List.not_mem_nil, false_implies, implies_true, and_true] at kc kf
    obtain ⟨yc0, yc1, yc2, yc3, yc4, yc5⟩ := kc
    obtain ⟨yf0, yf1, yf2, yf3, yf4, yf5⟩ := kf
    go_wp2_with fail
    refine (S0 _).out.mono ?_
    rintro e w2 ⟨rfl, hb2⟩
    have hT := hT.next hb2
    clear hb2 yc0 yf0 yc1 yf1 yc2 yf2 yc3 yf3 yc4 yf4 yc5 yf5
    have kc := hT.cells
    have kf := hT.frz
    simp only [List.forall_mem_cons, List.not_mem_nil, false_implies, implies_true, and_true] at kc kf
    obtain ⟨yc0, yc1, yc2, yc3, yc4, yc5⟩ := kc
    obtain ⟨yf0, yf1, yf2, yf3, yf4, yf5⟩ := kf
    go_wp2_with fail
    refine (S1 _).out.mono ?_
    rintro e w3 ⟨rfl, hb3⟩
    have hT := hT.next hb3
    clear hb3 yc0 yf0 yc1 yf1 yc2 yf2 yc3 yf3 yc4 yf4 yc5 yf5
    have kc := hT.cells
    have kf := hT.frz
    simp only [List.forall_mem_cons, List.not_mem_nil, false_implies, implies_true, and_true] at kc kf
    obtain ⟨yc0, yc1, yc2, yc3, yc4, yc5⟩ := kc
    obtain ⟨yf0, yf1, yf2, yf3, yf4, yf5⟩ := kf
    go_wp2_with fail
    refine (P0 _).out.mono ?_
    rintro e w1 ⟨rfl, hb1⟩
    have hT1 := hT.next hb1
    have hz1 := hT1.lt
    clear yc0 yf0 yc1 yf1 yc2 yf2 yc3 yf3 yc4 yf4 yc5 yf5
    go_upto_region 6 with fail
    refine wp_cls (Lf w.heap.size (w1.heap.size + 1) [(⟨w1.heap.size, 0, none⟩, .int .i64 p0), (⟨w1.heap.size, 1, none⟩, .int .i64 p1), (⟨w1.heap.size, 2, none⟩, .int .i64 p2), (⟨w.heap.size, 0, none⟩, .int .i64 c0), (⟨w.heap.size, 1, none⟩, .int .i64 c1), (⟨w.heap.size, 2, none⟩, .int .i64 c2), (⟨w.heap.size + 1, 0, none⟩, .int .i64 a0), (⟨w.heap.size + 1, 1, none⟩, .int .i64 a1), (⟨w.heap.size + 1, 2, none⟩, .int .i64 a2)] w) (hT1.push #[.int .i64 p0, .int .i64 p1, .int .i64 p2] 23) ?_
    intro wx hT2
    have kc := hT2.cells
    have kf := hT2.frz
    simp only [List.forall_mem_cons, List.not_mem_nil, false_implies, implies_true, and_true] at kc kf
    obtain ⟨yc0, yc1, yc2, yc3, yc4, yc5, yc6, yc7, yc8⟩ := kc
    obtain ⟨yf0, yf1, yf2, yf3, yf4, yf5, yf6, yf7, yf8⟩ := kf
    go_wp2_with fail
    refine (R0 _).out.mono ?_
    rintro e w2 ⟨rfl, hb2⟩
    have hT3 := hT2.next hb2
    have hz2 := hT3.lt
    clear yc0 yf0 yc1 yf1 yc2 yf2 yc3 yf3 yc4 yf4 yc5 yf5 yc6 yf6 yc7 yf7 yc8 yf8
    go_upto_region 7 with fail
    refine wp_cls (Lf w.heap.size (w2.heap.size + 1) [(⟨w2.heap.size, 0, none⟩, .int .i64 p0), (⟨w2.heap.size, 1, none⟩, .int .i64 p1), (⟨w2.heap.size, 2, none⟩, .int .i64 p2), (⟨w1.heap.size, 0, none⟩, .int .i64 p0), (⟨w1.heap.size, 1, none⟩, .int .i64 p1), (⟨w1.heap.size, 2, none⟩, .int .i64 p2), (⟨w.heap.size, 0, none⟩, .int .i64 c0), (⟨w.heap.size, 1, none⟩, .int .i64 c1), (⟨w.heap.size, 2, none⟩, .int .i64 c2), (⟨w.heap.size + 1, 0, none⟩, .int .i64 a0), (⟨w.heap.size + 1, 1, none⟩, .int .i64 a1), (⟨w.heap.size + 1, 2, none⟩, .int .i64 a2)] w) (hT3.push #[.int .i64 p0, .int .i64 p1, .int .i64 p2] 23) ?_
    intro wy hT4
    have kc := hT4.cells
    have kf := hT4.frz
    simp only [List.forall_mem_cons, List.not_mem_nil, false_implies, implies_true, and_true] at kc kf
    obtain ⟨yc0, yc1, yc2, yc3, yc4, yc5, yc6, yc7, yc8, yc9, yc10, yc11⟩ := kc
    obtain ⟨yf0, yf1, yf2, yf3, yf4, yf5, yf6, yf7, yf8, yf9, yf10, yf11⟩ := kf
    go_wp2_with fail
    go_ret
    exact ⟨rfl, hT4.be⟩
set_option maxHeartbeats 8000000 in
set_option maxRecDepth 20000 in
theorem law_distance (c0 c1 c2 a0 a1 a2 d : Int) (w : World) (lc0 : -9223372036854775808 ≤ c0) (uc0 : c0 ≤ 9223372036854775807) (lc1 : -9223372036854775808 ≤ c1) (uc1 : c1 ≤ 9223372036854775807) (lc2 : -9223372036854775808 ≤ c2) (uc2 : c2 ≤ 9223372036854775807) (la0 : -9223372036854775808 ≤ a0) (ua0 : a0 ≤ 9223372036854775807) (la1 : -9223372036854775808 ≤ a1) (ua1 : a1 ≤ 9223372036854775807) (la2 : -9223372036854775808 ≤ a2) (ua2 : a2 ≤ 9223372036854775807) (ld : -9223372036854775808 ≤ d) (ud : d ≤ 9223372036854775807) :
    Calls Try.prog 4 #[.agg #[.int .i64 c0, .int .i64 c1, .int .i64 c2], .agg #[.int .i64 a0, .int .i64 a1, .int .i64 a2], .int .i64 d] w fun e w' => e = .returned (.bool true) ∧ Below w.heap.size w w' := by
  have S0 := fun w => Lib.hid (Small_any c0 c1 c2 w)
  have S1 := fun w => Lib.hid (Small_any a0 a1 a2 w)
  clear lc0 uc0 lc1 uc1 lc2 uc2 la0 ua0 la1 ua1 la2 ua2 ld ud
  cases hA : smB 33554432 c0 c1 c2
  · rw [hA] at S0
    clear hA
    go_enter Try.func4, Try.ntmps4
    go_wp2_with fail
    refine (awake_any _).mono ?_
    rintro e w1 ⟨rfl, hb1⟩
    have hT : Lf w.heap.size (w.heap.size + 1 + 1) [(⟨w.heap.size, 0, none⟩, .int .i64 c0), (⟨w.heap.size, 1, none⟩, .int .i64 c1), (⟨w.heap.size, 2, none⟩, .int .i64 c2), (⟨w.heap.size + 1, 0, none⟩, .int .i64 a0), (⟨w.heap.size + 1, 1, none⟩, .int .i64 a1), (⟨w.heap.size + 1, 2, none⟩, .int .i64 a2)] w w1 := Lf.next (w := ((w.alloc (.cells #[.int .i64 c0, .int .i64 c1, .int .i64 c2] 23)).alloc (.cells #[.int .i64 a0, .int .i64 a1, .int .i64 a2] 23))) ⟨by simp [List.forall_mem_cons, go_sem], by simp [List.forall_mem_cons, go_sem], by simp [List.forall_mem_cons] <;> omega, by simp, by (repeat (first | exact Below.refl _ _ | assumption | refine Below.drew ?_ | (refine Below.alloc ?_ (by simp <;> omega) _) | (refine Below.setCell ?_ (by simp <;> omega) _))), by omega⟩ hb1
    clear hb1
    have kc := hT.cells
    have kf := hT.frz
    simp only [List.forall_mem_cons, List.not_mem_nil, false_implies, implies_true, and_true] at kc kf
    obtain ⟨yc0, yc1, yc2, yc3, yc4, yc5⟩ := kc
    obtain ⟨yf0, yf1, yf2, yf3, yf4, yf5⟩ := kf
    go_wp2_with fail
    refine (S0 _).out.mono ?_
    rintro e w2 ⟨rfl, hb2⟩
    have hT := hT.next hb2
    clear hb2 yc0 yf0 yc1 yf1 yc2 yf2 yc3 yf3 yc4 yf4 yc5 yf5
    have kc := hT.cells
    have kf := hT.frz
    simp only [List.forall_mem_cons, List.not_mem_nil, false_implies, implies_true, and_true] at kc kf
    obtain ⟨yc0, yc1, yc2, yc3, yc4, yc5⟩ := kc
    obtain ⟨yf0, yf1, yf2, yf3, yf4, yf5⟩ := kf
    go_wp2_with fail
    go_ret
    exact ⟨rfl, hT.be⟩
  rw [hA] at S0
  cases hB : smB 33554432 a0 a1 a2
  · rw [hB] at S1
    clear hA hB
    go_enter Try.func4, Try.ntmps4
    go_wp2_with fail
    refine (awake_any _).mono ?_
    rintro e w1 ⟨rfl, hb1⟩
    have hT : Lf w.heap.size (w.heap.size + 1 + 1) [(⟨w.heap.size, 0, none⟩, .int .i64 c0), (⟨w.heap.size, 1, none⟩, .int .i64 c1), (⟨w.heap.size, 2, none⟩, .int .i64 c2), (⟨w.heap.size + 1, 0, none⟩, .int .i64 a0), (⟨w.heap.size + 1, 1, none⟩, .int .i64 a1), (⟨w.heap.size + 1, 2, none⟩, .int .i64 a2)] w w1 := Lf.next (w := ((w.alloc (.cells #[.int .i64 c0, .int .i64 c1, .int .i64 c2] 23)).alloc (.cells #[.int .i64 a0, .int .i64 a1, .int .i64 a2] 23))) ⟨by simp [List.forall_mem_cons, go_sem], by simp [List.forall_mem_cons, go_sem], by simp [List.forall_mem_cons] <;> omega, by simp, by (repeat (first | exact Below.refl _ _ | assumption | refine Below.drew ?_ | (refine Below.alloc ?_ (by simp <;> omega) _) | (refine Below.setCell ?_ (by simp <;> omega) _))), by omega⟩ hb1
    clear hb1
    have kc := hT.cells
    have kf := hT.frz
    simp only [List.forall_mem_cons, List.not_mem_nil, false_implies, implies_true, and_true] at kc kf
    obtain ⟨yc0, yc1, yc2, yc3, yc4, yc5⟩ := kc
    obtain ⟨yf0, yf1, yf2, yf3, yf4, yf5⟩ := kf
    go_wp2_with fail
    refine (S0 _).out.mono ?_
    rintro e w2 ⟨rfl, hb2⟩
    have hT := hT.next hb2
    clear hb2 yc0 yf0 yc1 yf1 yc2 yf2 yc3 yf3 yc4 yf4 yc5 yf5
    have kc := hT.cells
    have kf := hT.frz
    simp only [List.forall_mem_cons, List.not_mem_nil, false_implies, implies_true, and_true] at kc kf
    obtain ⟨yc0, yc1, yc2, yc3, yc4, yc5⟩ := kc
    obtain ⟨yf0, yf1, yf2, yf3, yf4, yf5⟩ := kf
    go_wp2_with fail
    refine (S1 _).out.mono ?_
    rintro e w3 ⟨rfl, hb3⟩
    have hT := hT.next hb3
    clear hb3 yc0 yf0 yc1 yf1 yc2 yf2 yc3 yf3 yc4 yf4 yc5 yf5
    have kc := hT.cells
    have kf := hT.frz
    simp only [List.forall_mem_cons, List.not_mem_nil, false_implies, implies_true, and_true] at kc kf
    obtain ⟨yc0, yc1, yc2, yc3, yc4, yc5⟩ := kc
    obtain ⟨yf0, yf1, yf2, yf3, yf4, yf5⟩ := kf
    go_wp2_with fail
    go_ret
    exact ⟨rfl, hT.be⟩
  rw [hB] at S1
  have hc := smB_pk hA
  have ha := smB_pk hB
  clear hA hB
  obtain ⟨p0, p1, p2, ok, hi, hv, P0, R0⟩ := tow_any c0 c1 c2 a0 a1 a2 d hc ha
  clear R0
  cases hs : (c0 == a0 && c1 == a1 && c2 == a2)
  rotate_left
  · clear P0 hi hv hc ha
    go_enter Try.func4, Try.ntmps4
    go_wp2_with fail
    refine (awake_any _).mono ?_
    rintro e w1 ⟨rfl, hb1⟩
    have hT : Lf w.heap.size (w.heap.size + 1 + 1) [(⟨w.heap.size, 0, none⟩, .int .i64 c0), (⟨w.heap.size, 1, none⟩, .int .i64 c1), (⟨w.heap.size, 2, none⟩, .int .i64 c2), (⟨w.heap.size + 1, 0, none⟩, .int .i64 a0), (⟨w.heap.size + 1, 1, none⟩, .int .i64 a1), (⟨w.heap.size + 1, 2, none⟩, .int .i64 a2)] w w1 := Lf.next (w := ((w.alloc (.cells #[.int .i64 c0, .int .i64 c1, .int .i64 c2] 23)).alloc (.cells #[.int .i64 a0, .int .i64 a1, .int .i64 a2] 23))) ⟨by simp [List.forall_mem_cons, go_sem], by simp [List.forall_mem_cons, go_sem], by simp [List.forall_mem_cons] <;> omega, by simp, by (repeat (first | exact Below.refl _ _ | assumption | refine Below.drew ?_ | (refine Below.alloc ?_ (by simp <;> omega) _) | (refine Below.setCell ?_ (by simp <;> omega) _))), by omega⟩ hb1
    clear hb1
    have kc := hT.cells
    have kf := hT.frz
    simp only [List.forall_mem_cons, List.not_mem_nil, false_implies, implies_true, and_true] at kc kf
    obtain ⟨yc0, yc1, yc2, yc3, yc4, yc5⟩ := kc
    obtain ⟨yf0, yf1, yf2, yf3, yf4, yf5⟩ := kf
    go_wp2_with fail
    refine (S0 _).out.mono ?_
    rintro e w2 ⟨rfl, hb2⟩
    have hT := hT.next hb2
    clear hb2 yc0 yf0 yc1 yf1 yc2 yf2 yc3 yf3 yc4 yf4 yc5 yf5
    have kc := hT.cells
    have kf := hT.frz
    simp only [List.forall_mem_cons, List.not_mem_nil, false_implies, implies_true, and_true] at kc kf
    obtain ⟨yc0, yc1, yc2, yc3, yc4, yc5⟩ := kc
    obtain ⟨yf0, yf1, yf2, yf3, yf4, yf5⟩ := kf
    go_wp2_with fail
    refine (S1 _).out.mono ?_
    rintro e w3 ⟨rfl, hb3⟩
    have hT := hT.next hb3
    clear hb3 yc0 yf0 yc1 yf1 yc2 yf2 yc3 yf3 yc4 yf4 yc5 yf5
    have kc := hT.cells
    have kf := hT.frz
    simp only [List.forall_mem_cons, List.not_mem_nil, false_implies, implies_true, and_true] at kc kf
    obtain ⟨yc0, yc1, yc2, yc3, yc4, yc5⟩ := kc
    obtain ⟨yf0, yf1, yf2, yf3, yf4, yf5⟩ := kf
    go_wp2_with fail
    go_ret
    exact ⟨rfl, hT.be⟩
  by_cases h1 : d < 1
  · clear P0 hi hv hc ha
    go_enter Try.func4, Try.ntmps4
    go_wp2_with fail
    refine (awake_any _).mono ?_
    rintro e w1 ⟨rfl, hb1⟩
    have hT : Lf w.heap.size (w.heap.size + 1 + 1) [(⟨w.heap.size, 0, none⟩, .int .i64 c0), (⟨w.heap.size, 1, none⟩, .int .i64 c1), (⟨w.heap.size, 2, none⟩, .int .i64 c2), (⟨w.heap.size + 1, 0, none⟩, .int .i64 a0), (⟨w.heap.size + 1, 1, none⟩, .int .i64 a1), (⟨w.heap.size + 1, 2, none⟩, .int .i64 a2)] w w1 := Lf.next (w := ((w.alloc (.cells #[.int .i64 c0, .int .i64 c1, .int .i64 c2] 23)).alloc (.cells #[.int .i64 a0, .int .i64 a1, .int .i64 a2] 23))) ⟨by simp [List.forall_mem_cons, go_sem], by simp [List.forall_mem_cons, go_sem], by simp [List.forall_mem_cons] <;> omega, by simp, by (repeat (first | exact Below.refl _ _ | assumption | refine Below.drew ?_ | (refine Below.alloc ?_ (by simp <;> omega) _) | (refine Below.setCell ?_ (by simp <;> omega) _))), by omega⟩ hb1
    clear hb1
    have kc := hT.cells
    have kf := hT.frz
    simp only [List.forall_mem_cons, List.not_mem_nil, false_implies, implies_true, and_true] at kc kf
    obtain ⟨yc0, yc1, yc2, yc3, yc4, yc5⟩ := kc
    obtain ⟨yf0, yf1, yf2, yf3, yf4, yf5⟩ := kf
    go_wp2_with fail
    refine (S0 _).out.mono ?_
    rintro e w2 ⟨rfl, hb2⟩
    have hT := hT.next hb2
    clear hb2 yc0 yf0 yc1 yf1 yc2 yf2 yc3 yf3 yc4 yf4 yc5 yf5
    have kc := hT.cells
    have kf := hT.frz
    simp only [List.forall_mem_cons, List.not_mem_nil, false_implies, implies_true, and_true] at kc kf
    obtain ⟨yc0, yc1, yc2, yc3, yc4, yc5⟩ := kc
    obtain ⟨yf0, yf1, yf2, yf3, yf4, yf5⟩ := kf
    go_wp2_with fail
    refine (S1 _).out.mono ?_
    rintro e w3 ⟨rfl, hb3⟩
    have hT := hT.next hb3
    clear hb3 yc0 yf0 yc1 yf1 yc2 yf2 yc3 yf3 yc4 yf4 yc5 yf5
    have kc := hT.cells
    have kf := hT.frz
    simp only [List.forall_mem_cons, List.not_mem_nil, false_implies, implies_true, and_true] at kc kf
    obtain ⟨yc0, yc1, yc2, yc3, yc4, yc5⟩ := kc
    obtain ⟨yf0, yf1, yf2, yf3, yf4, yf5⟩ := kf
    go_wp2_with fail
    go_ret
    exact ⟨rfl, hT.be⟩
  by_cases h2 : 33554432 < d
  · clear P0 hi hv hc ha
    go_enter Try.func4, Try.ntmps4
    go_wp2_with fail
    refine (awake_any _).mono ?_
    rintro e w1 ⟨rfl, hb1⟩
    have hT : Lf w.heap.size (w.heap.size + 1 + 1) [(⟨w.heap.size, 0, none⟩, .int .i64 c0), (⟨w.heap.size, 1, none⟩, .int .i64 c1), (⟨w.heap.size, 2, none⟩, .int .i64 c2), (⟨w.heap.size + 1, 0, none⟩, .int .i64 a0), (⟨w.heap.size + 1, 1, none⟩, .int .i64 a1), (⟨w.heap.size + 1, 2, none⟩, .int .i64 a2)] w w1 := Lf.next (w := ((w.alloc (.cells #[.int .i64 c0, .int .i64 c1, .int .i64 c2] 23)).alloc (.cells #[.int .i64 a0, .int .i64 a1, .int .i64 a2] 23))) ⟨by simp [List.forall_mem_cons, go_sem], by simp [List.forall_mem_cons, go_sem], by simp [List.forall_mem_cons] <;> omega, by simp, by (repeat (first | exact Below.refl _ _ | assumption | refine Below.drew ?_ | (refine Below.alloc ?_ (by simp <;> omega) _) | (refine Below.setCell ?_ (by simp <;> omega) _))), by omega⟩ hb1
    clear hb1
    have kc := hT.cells
    have kf := hT.frz
    simp only [List.forall_mem_cons, List.not_mem_nil, false_implies, implies_true, and_true] at kc kf
    obtain ⟨yc0, yc1, yc2, yc3, yc4, yc5⟩ := kc
    obtain ⟨yf0, yf1, yf2, yf3, yf4, yf5⟩ := kf
    go_wp2_with fail
    refine (S0 _).out.mono ?_
    rintro e w2 ⟨rfl, hb2⟩
    have hT := hT.next hb2
    clear hb2 yc0 yf0 yc1 yf1 yc2 yf2 yc3 yf3 yc4 yf4 yc5 yf5
    have kc := hT.cells
    have kf := hT.frz
    simp only [List.forall_mem_cons, List.not_mem_nil, false_implies, implies_true, and_true] at kc kf
    obtain ⟨yc0, yc1, yc2, yc3, yc4, yc5⟩ := kc
    obtain ⟨yf0, yf1, yf2, yf3, yf4, yf5⟩ := kf
    go_wp2_with fail
    refine (S1 _).out.mono ?_
    rintro e w3 ⟨rfl, hb3⟩
    have hT := hT.next hb3
    clear hb3 yc0 yf0 yc1 yf1 yc2 yf2 yc3 yf3 yc4 yf4 yc5 yf5
    have kc := hT.cells
    have kf := hT.frz
    simp only [List.forall_mem_cons, List.not_mem_nil, false_implies, implies_true, and_true] at kc kf
    obtain ⟨yc0, yc1, yc2, yc3, yc4, yc5⟩ := kc
    obtain ⟨yf0, yf1, yf2, yf3, yf4, yf5⟩ := kf
    go_wp2_with fail
    go_ret
    exact ⟨rfl, hT.be⟩
  have hs2 : sameB a0 a1 a2 c0 c1 c2 = false := by
    unfold sameB
    cases hx : (a0 == c0 && a1 == c1 && a2 == c2)
    · rfl
    · obtain ⟨rfl, rfl, rfl⟩ := sameB_t (show sameB a0 a1 a2 c0 c1 c2 = true from hx)
      simp at hs
  have hok : ok = true := hi.2 ⟨hs2, by omega, by omega⟩
  subst hok
  obtain ⟨e0, e1, e2⟩ := hv rfl
  have hn := sameB_f hs2
  obtain ⟨x1, x2, x3, x4, x5, x6⟩ := hc
  obtain ⟨z1, z2, z3, z4, z5, z6⟩ := ha
  have hS : sqD a0 a1 a2 c0 c1 c2 = (a0 - c0) * (a0 - c0) + (a1 - c1) * (a1 - c1) + (a2 - c2) * (a2 - c2) := rfl
  have q0 := sq_nn (a0 - c0)
  have q1 := sq_nn (a1 - c1)
  have q2 := sq_nn (a2 - c2)
  have b0 := nrI_bd (x := a0 - c0) (r := d) (n := sqD a0 a1 a2 c0 c1 c2) (by omega) (by omega) (by omega) (by omega) hn (by omega)
  have b1 := nrI_bd (x := a1 - c1) (r := d) (n := sqD a0 a1 a2 c0 c1 c2) (by omega) (by omega) (by omega) (by omega) hn (by omega)
  have b2 := nrI_bd (x := a2 - c2) (r := d) (n := sqD a0 a1 a2 c0 c1 c2) (by omega) (by omega) (by omega) (by omega) hn (by omega)
  have nl := near_len (a0 - c0) (a1 - c1) (a2 - c2) d (sqD a0 a1 a2 c0 c1 c2) (by omega) (by omega) (by omega) (by omega) (by omega) hn hS
  have SQ := fun w => Lib.hid (square_any p0 p1 p2 c0 c1 c2 w (by omega) (by omega) (by omega))
  have hD : sqD p0 p1 p2 c0 c1 c2 = nrI (a0 - c0) d (sqD a0 a1 a2 c0 c1 c2) * nrI (a0 - c0) d (sqD a0 a1 a2 c0 c1 c2) + nrI (a1 - c1) d (sqD a0 a1 a2 c0 c1 c2) * nrI (a1 - c1) d (sqD a0 a1 a2 c0 c1 c2) + nrI (a2 - c2) d (sqD a0 a1 a2 c0 c1 c2) * nrI (a2 - c2) d (sqD a0 a1 a2 c0 c1 c2) := by
    rw [e0, e1, e2]
    generalize nrI (a0 - c0) d (sqD a0 a1 a2 c0 c1 c2) = X0
    generalize nrI (a1 - c1) d (sqD a0 a1 a2 c0 c1 c2) = X1
    generalize nrI (a2 - c2) d (sqD a0 a1 a2 c0 c1 c2) = X2
    unfold sqD
    rw [show c0 + X0 - c0 = X0 by omega, show c1 + X1 - c1 = X1 by omega, show c2 + X2 - c2 = X2 by omega]
  rw [← hD] at nl
  generalize sqD p0 p1 p2 c0 c1 c2 = D at *
  have q3 := sq_bdK (x := d - 1) (by omega) (by omega)
  have q4 := sq_bdK (x := d + 1) (by omega) (by omega)
  obtain ⟨n1, n2⟩ := nl
  obtain ⟨q5, q6⟩ := q3
  obtain ⟨q7, q8⟩ := q4
  have HK := Lib.hid (And.intro n1 (And.intro n2 (And.intro q5 (And.intro q6 (And.intro q7 q8)))))
  clear hi hv hs2 e0 e1 e2 hn hS q0 q1 q2 b0 b1 b2 hD n1 n2 q5 q6 q7 q8 x1 x2 x3 x4 x5 x6 z1 z2 z3 z4 z5 z6
  go_enter Try.func4, Try.ntmps4
  go_wp2_with fail
  refine (awake_any _).mono ?_
  rintro e w1 ⟨rfl, hb1⟩
  have hT : Lf w.heap.size (w.heap.size + 1 + 1) [(⟨w.heap.size, 0, none⟩, .int .i64 c0), (⟨w.heap.size, 1, none⟩, .int .i64 c1), (⟨w.heap.size, 2, none⟩, .int .i64 c2), (⟨w.heap.size + 1, 0, none⟩, .int .i64 a0), (⟨w.heap.size + 1, 1, none⟩, .int .i64 a1), (⟨w.heap.size + 1, 2, none⟩, .int .i64 a2)] w w1 := Lf.next (w := ((w.alloc (.cells #[.int .i64 c0, .int .i64 c1, .int .i64 c2] 23)).alloc (.cells #[.int .i64 a0, .int .i64 a1, .int .i64 a2] 23))) ⟨by simp [List.forall_mem_cons, go_sem], by simp [List.forall_mem_cons, go_sem], by simp [List.forall_mem_cons] <;> omega, by simp, by (repeat (first | exact Below.refl _ _ | assumption | refine Below.drew ?_ | (refine Below.alloc ?_ (by simp <;> omega) _) | (refine Below.setCell ?_ (by simp <;> omega) _))), by omega⟩ hb1
  clear hb1
  have kc := hT.cells
  have kf := hT.frz
  simp only [List.forall_mem_cons, List.not_mem_nil, false_implies, implies_true, and_true] at kc kf
  obtain ⟨yc0, yc1, yc2, yc3, yc4, yc5⟩ := kc
  obtain ⟨yf0, yf1, yf2, yf3, yf4, yf5⟩ := kf
  go_wp2_with fail
  refine (S0 _).out.mono ?_
  rintro e w2 ⟨rfl, hb2⟩
  have hT := hT.next hb2
  clear hb2 yc0 yf0 yc1 yf1 yc2 yf2 yc3 yf3 yc4 yf4 yc5 yf5
  have kc := hT.cells
  have kf := hT.frz
  simp only [List.forall_mem_cons, List.not_mem_nil, false_implies, implies_true, and_true] at kc kf
  obtain ⟨yc0, yc1, yc2, yc3, yc4, yc5⟩ := kc
  obtain ⟨yf0, yf1, yf2, yf3, yf4, yf5⟩ := kf
  go_wp2_with fail
  refine (S1 _).out.mono ?_
  rintro e w3 ⟨rfl, hb3⟩
  have hT := hT.next hb3
  clear hb3 yc0 yf0 yc1 yf1 yc2 yf2 yc3 yf3 yc4 yf4 yc5 yf5
  have kc := hT.cells
  have kf := hT.frz
  simp only [List.forall_mem_cons, List.not_mem_nil, false_implies, implies_true, and_true] at kc kf
  obtain ⟨yc0, yc1, yc2, yc3, yc4, yc5⟩ := kc
  obtain ⟨yf0, yf1, yf2, yf3, yf4, yf5⟩ := kf
  go_wp2_with fail
  refine (P0 _).out.mono ?_
  rintro e w1 ⟨rfl, hb1⟩
  have hT1 := hT.next hb1
  have hz1 := hT1.lt
  clear yc0 yf0 yc1 yf1 yc2 yf2 yc3 yf3 yc4 yf4 yc5 yf5
  go_upto_region 6 with fail
  refine wp_cls (Lf w.heap.size (w1.heap.size + 1) [(⟨w1.heap.size, 0, none⟩, .int .i64 p0), (⟨w1.heap.size, 1, none⟩, .int .i64 p1), (⟨w1.heap.size, 2, none⟩, .int .i64 p2), (⟨w.heap.size, 0, none⟩, .int .i64 c0), (⟨w.heap.size, 1, none⟩, .int .i64 c1), (⟨w.heap.size, 2, none⟩, .int .i64 c2), (⟨w.heap.size + 1, 0, none⟩, .int .i64 a0), (⟨w.heap.size + 1, 1, none⟩, .int .i64 a1), (⟨w.heap.size + 1, 2, none⟩, .int .i64 a2)] w) (hT1.push #[.int .i64 p0, .int .i64 p1, .int .i64 p2] 23) ?_
  intro wx hT2
  have kc := hT2.cells
  have kf := hT2.frz
  simp only [List.forall_mem_cons, List.not_mem_nil, false_implies, implies_true, and_true] at kc kf
  obtain ⟨yc0, yc1, yc2, yc3, yc4, yc5, yc6, yc7, yc8⟩ := kc
  obtain ⟨yf0, yf1, yf2, yf3, yf4, yf5, yf6, yf7, yf8⟩ := kf
  go_wp2_with fail
  refine (SQ _).out.mono ?_
  rintro e w2 ⟨rfl, hb2⟩
  have hT3 := hT2.next hb2
  clear yc0 yf0 yc1 yf1 yc2 yf2 yc3 yf3 yc4 yf4 yc5 yf5 yc6 yf6 yc7 yf7 yc8 yf8
  obtain ⟨n1, n2, q5, q6, q7, q8⟩ := HK.out
  go_wp2_with fail
  go_ret
  exact ⟨rfl, hT3.be⟩
end Go.Proofs.Ytdjopepipcnmdaa
