/- Proved here: VecPlanes returns true for every argument; no conditions but that integers are ints. -/
import Derived.Test.YtlblodiamcnnpaaVw13
import Derived.Deep.RegionHeld3
namespace Go.Proofs.Ytlblodiamcnnpaa
open Go.RowKit
set_option linter.unusedVariables false
set_option linter.unusedSimpArgs false
/-- the ten cells of a round's own variables are forgotten -/
theorem Lay.drop10 {B n : Nat} {p0 p1 p2 p3 p4 p5 p6 p7 p8 p9 : Addr × Value} {cs : List (Addr × Value)} {w0 w : World} (h : Lay B n (p0 :: p1 :: p2 :: p3 :: p4 :: p5 :: p6 :: p7 :: p8 :: p9 :: cs) w0 w) : Lay B n cs w0 w :=
  ⟨fun p hp => h.cells p (by simp [hp]), fun p hp => h.inn p (by simp [hp]), h.lt, h.be, h.le⟩
set_option maxRecDepth 20000 in
set_option maxHeartbeats 8000000 in
theorem law_planes (k a b c x y j : Int) (w : World) (lk : -9223372036854775808 ≤ k) (hk : k ≤ 9223372036854775807) (la : -9223372036854775808 ≤ a) (ha : a ≤ 9223372036854775807) (lb : -9223372036854775808 ≤ b) (hb : b ≤ 9223372036854775807) (lc : -9223372036854775808 ≤ c) (hc : c ≤ 9223372036854775807) (lx : -9223372036854775808 ≤ x) (hx : x ≤ 9223372036854775807) (ly : -9223372036854775808 ≤ y) (hy : y ≤ 9223372036854775807) (lj : -9223372036854775808 ≤ j) (hj : j ≤ 9223372036854775807) :
    Calls Try.prog 11 #[.int .i64 k, .agg #[.int .i64 a, .int .i64 b, .int .i64 c], .agg #[.int .i64 x, .int .i64 y], .int .i64 j] w fun e w' => e = .returned (.bool true) ∧ Below w.heap.size w w' := by
  have P1 := fun w => Lib.hid (vector_ex a b c w la ha lb hb lc hc)
  have P2 := fun w => Lib.hid (point_ex x y w lx hx ly hy)
  have P3 := fun w => Lib.hid (small_st j w lj hj)
  clear la ha lb hb lc hc lx hx ly hy lj hj
  go_enter Try.func11, Try.ntmps11
  go_wp2_with fail
  go_cut [3] (fun s wx => s = .int .i64 (smI j) ∧ Lay w.heap.size (w.heap.size + 2) (vcells w.heap.size (smI a) (smI b) (smI c) ++ pcells (w.heap.size + 1) (smI x) (smI y)) w wx)
  case first =>
    go_region_with (first
      | (go_at_call 14; refine (P1 _).out.mono ?_; rintro e w2 ⟨rfl, rfl⟩)
      | (go_at_call 31; refine (P2 _).out.mono ?_; rintro e w3 ⟨rfl, rfl⟩)
      | (go_at_call 35; refine (P3 _).out.mono ?_; rintro e w3 ⟨rfl, rfl⟩))
    all_goals
      go_wp2_with fail
      go_meet
      refine ⟨rfl, ?_⟩
      unfold vcells pcells
      (refine ⟨by simp [List.forall_mem_cons, go_sem], by simp [List.forall_mem_cons] <;> omega, by simp, by (repeat (first | exact Below.refl _ _ | assumption | refine Below.drew ?_ | (refine Below.alloc ?_ (by simp <;> omega) _) | (refine Below.setCell ?_ (by simp <;> omega) _))), by omega⟩)
  case rest =>
    obtain ⟨rfl, hT⟩ := hcut
    unfold vcells pcells at hT
    simp only [List.cons_append, List.nil_append] at hT
    obtain ⟨a, ha⟩ : ∃ t0, smI a = t0 := ⟨_, rfl⟩
    rw [ha] at hT
    clear ha
    obtain ⟨b, hb⟩ : ∃ t0, smI b = t0 := ⟨_, rfl⟩
    rw [hb] at hT
    clear hb
    obtain ⟨c, hc⟩ : ∃ t0, smI c = t0 := ⟨_, rfl⟩
    rw [hc] at hT
    clear hc
    obtain ⟨x, hx⟩ : ∃ t0, smI x = t0 := ⟨_, rfl⟩
    rw [hx] at hT
    clear hx
    obtain ⟨y, hy⟩ : ∃ t0, smI y = t0 := ⟨_, rfl⟩
    rw [hy] at hT
    clear hy
    generalize smI j = j at *
    go_wp2_with fail
    go_loopw [0, 9] (fun s i wr => ∃ (q : Int) (t n : Nat), s = .int .i64 q ∧ -9223372036854775808 ≤ q ∧ q ≤ 9223372036854775807 ∧ i = .int .i64 t ∧ t ≤ 2 ∧ Lay w.heap.size n [(⟨w.heap.size, 0, none⟩, .int .i64 a), (⟨w.heap.size, 1, none⟩, .int .i64 b), (⟨w.heap.size, 2, none⟩, .int .i64 c), (⟨w.heap.size + 1, 0, none⟩, .int .i64 x), (⟨w.heap.size + 1, 1, none⟩, .int .i64 y)] w wr) (fun _ i _ => 2 - (intOf i).toNat)
    case atStart => exact ⟨k, 0, _, rfl, lk, hk, rfl, by omega, hT⟩
    case round =>
    clear hT
    obtain ⟨q, t, n, rfl, ql, qh, rfl, ht, hT⟩ := hrel
    have q1 := Int.emod_nonneg q (b := 3) (by decide)
    have q2 := Int.emod_lt_of_pos q (b := 3) (by decide)
    by_cases h2 : t < 2
    rotate_left
    · go_wp2_with fail
      refine (awake_any _).mono ?_
      rintro e w1 ⟨rfl, hb1⟩
      have hT := hT.next hb1
      go_wp2_with fail
      go_ret
      exact ⟨rfl, hT.be⟩
    rcases (show q = 17 ∨ q = 18 ∨ q = 19 ∨ (q ≠ 17 ∧ q ≠ 18 ∧ q ≠ 19) by omega) with hk | hk | hk | hk
    · -- plane 17
      subst hk
      have F1 := fun w => Lib.hid (flatP_17 a b c w)
      have F2 := fun w => Lib.hid (flatR_17 a b c w)
      have S1 := fun w => Lib.hid (solidP_17 x y j w)
      have S2 := fun w => Lib.hid (solidR_17 x y j w)
      (have qk9 := Lay.cells hT; simp only [List.forall_mem_cons, List.not_mem_nil, false_implies, implies_true, and_true] at qk9; repeat (obtain ⟨qk8, qk9⟩ := qk9))
      go_wp2_with fail
      refine (F1 _).out.mono ?_
      rintro e w1 ⟨rfl, hb1⟩
      have hT := hT.next hb1
      go_upto_region 6 with fail
      refine wp_cls (Lay w.heap.size (w1.heap.size + 1) _ w) (hT.push2 a b 33) ?_
      obtain ⟨n1, hn1⟩ : ∃ t0, w1.heap.size = t0 := ⟨_, rfl⟩
      rw [hn1]
      clear hT
      intro wx hT
      unfold pcells at hT
      simp only [List.cons_append, List.nil_append] at hT
      (have qk9 := Lay.cells hT; simp only [List.forall_mem_cons, List.not_mem_nil, false_implies, implies_true, and_true] at qk9; repeat (obtain ⟨qk8, qk9⟩ := qk9))
      go_wp2_with fail
      refine (F2 _).out.mono ?_
      rintro e w2 ⟨rfl, hb2⟩
      have hT := hT.next hb2
      go_upto_region 7 with fail
      refine wp_cls (Lay w.heap.size (w2.heap.size + 1) _ w) (hT.push2 a b 33) ?_
      obtain ⟨n2, hn2⟩ : ∃ t0, w2.heap.size = t0 := ⟨_, rfl⟩
      rw [hn2]
      clear hT
      intro wx hT
      unfold pcells at hT
      simp only [List.cons_append, List.nil_append] at hT
      (have qk9 := Lay.cells hT; simp only [List.forall_mem_cons, List.not_mem_nil, false_implies, implies_true, and_true] at qk9; repeat (obtain ⟨qk8, qk9⟩ := qk9))
      go_wp2_with fail
      refine (S1 _).out.mono ?_
      rintro e w3 ⟨rfl, hb3⟩
      have hT := hT.next hb3
      go_upto_region 8 with fail
      refine wp_cls (Lay w.heap.size (w3.heap.size + 1) _ w) (hT.push x y j 23) ?_
      obtain ⟨n3, hn3⟩ : ∃ t0, w3.heap.size = t0 := ⟨_, rfl⟩
      rw [hn3]
      clear hT
      intro wx hT
      unfold vcells at hT
      simp only [List.cons_append, List.nil_append] at hT
      (have qk9 := Lay.cells hT; simp only [List.forall_mem_cons, List.not_mem_nil, false_implies, implies_true, and_true] at qk9; repeat (obtain ⟨qk8, qk9⟩ := qk9))
      go_wp2_with fail
      refine (S2 _).out.mono ?_
      rintro e w4 ⟨rfl, hb4⟩
      have hT := hT.next hb4
      go_upto_region 9 with fail
      refine wp_cls (Lay w.heap.size (w4.heap.size + 1) _ w) (hT.push x y j 23) ?_
      obtain ⟨n4, hn4⟩ : ∃ t0, w4.heap.size = t0 := ⟨_, rfl⟩
      rw [hn4]
      clear hT
      intro wx hT
      unfold vcells at hT
      simp only [List.cons_append, List.nil_append] at hT
      (have qk9 := Lay.cells hT; simp only [List.forall_mem_cons, List.not_mem_nil, false_implies, implies_true, and_true] at qk9; repeat (obtain ⟨qk8, qk9⟩ := qk9))
      go_wp2_with fail
      refine (mod_any _ _ _ ql qh (by omega) (by omega)).mono ?_
      rintro e w5 ⟨rfl, rfl⟩
      go_wp2_with fail
      go_roundw
      case rel => exact ⟨_, t + 1, _, rfl, by omega, by omega, by go_num, by omega, hT.drop10⟩
      case measure => simp [intOf]; omega
    · -- plane 18
      subst hk
      have F1 := fun w => Lib.hid (flatP_18 a b c w)
      have F2 := fun w => Lib.hid (flatR_18 a b c w)
      have S1 := fun w => Lib.hid (solidP_18 x y j w)
      have S2 := fun w => Lib.hid (solidR_18 x y j w)
      (have qk9 := Lay.cells hT; simp only [List.forall_mem_cons, List.not_mem_nil, false_implies, implies_true, and_true] at qk9; repeat (obtain ⟨qk8, qk9⟩ := qk9))
      go_wp2_with fail
      refine (F1 _).out.mono ?_
      rintro e w1 ⟨rfl, hb1⟩
      have hT := hT.next hb1
      go_upto_region 6 with fail
      refine wp_cls (Lay w.heap.size (w1.heap.size + 1) _ w) (hT.push2 c a 33) ?_
      obtain ⟨n1, hn1⟩ : ∃ t0, w1.heap.size = t0 := ⟨_, rfl⟩
      rw [hn1]
      clear hT
      intro wx hT
      unfold pcells at hT
      simp only [List.cons_append, List.nil_append] at hT
      (have qk9 := Lay.cells hT; simp only [List.forall_mem_cons, List.not_mem_nil, false_implies, implies_true, and_true] at qk9; repeat (obtain ⟨qk8, qk9⟩ := qk9))
      go_wp2_with fail
      refine (F2 _).out.mono ?_
      rintro e w2 ⟨rfl, hb2⟩
      have hT := hT.next hb2
      go_upto_region 7 with fail
      refine wp_cls (Lay w.heap.size (w2.heap.size + 1) _ w) (hT.push2 c a 33) ?_
      obtain ⟨n2, hn2⟩ : ∃ t0, w2.heap.size = t0 := ⟨_, rfl⟩
      rw [hn2]
      clear hT
      intro wx hT
      unfold pcells at hT
      simp only [List.cons_append, List.nil_append] at hT
      (have qk9 := Lay.cells hT; simp only [List.forall_mem_cons, List.not_mem_nil, false_implies, implies_true, and_true] at qk9; repeat (obtain ⟨qk8, qk9⟩ := qk9))
      go_wp2_with fail
      refine (S1 _).out.mono ?_
      rintro e w3 ⟨rfl, hb3⟩
      have hT := hT.next hb3
      go_upto_region 8 with fail
      refine wp_cls (Lay w.heap.size (w3.heap.size + 1) _ w) (hT.push y j x 23) ?_
      obtain ⟨n3, hn3⟩ : ∃ t0, w3.heap.size = t0 := ⟨_, rfl⟩
      rw [hn3]
      clear hT
      intro wx hT
      unfold vcells at hT
      simp only [List.cons_append, List.nil_append] at hT
      (have qk9 := Lay.cells hT; simp only [List.forall_mem_cons, List.not_mem_nil, false_implies, implies_true, and_true] at qk9; repeat (obtain ⟨qk8, qk9⟩ := qk9))
      go_wp2_with fail
      refine (S2 _).out.mono ?_
      rintro e w4 ⟨rfl, hb4⟩
      have hT := hT.next hb4
      go_upto_region 9 with fail
      refine wp_cls (Lay w.heap.size (w4.heap.size + 1) _ w) (hT.push y j x 23) ?_
      obtain ⟨n4, hn4⟩ : ∃ t0, w4.heap.size = t0 := ⟨_, rfl⟩
      rw [hn4]
      clear hT
      intro wx hT
      unfold vcells at hT
      simp only [List.cons_append, List.nil_append] at hT
      (have qk9 := Lay.cells hT; simp only [List.forall_mem_cons, List.not_mem_nil, false_implies, implies_true, and_true] at qk9; repeat (obtain ⟨qk8, qk9⟩ := qk9))
      go_wp2_with fail
      refine (mod_any _ _ _ ql qh (by omega) (by omega)).mono ?_
      rintro e w5 ⟨rfl, rfl⟩
      go_wp2_with fail
      go_roundw
      case rel => exact ⟨_, t + 1, _, rfl, by omega, by omega, by go_num, by omega, hT.drop10⟩
      case measure => simp [intOf]; omega
    · -- plane 19
      subst hk
      have F1 := fun w => Lib.hid (flatP_19 a b c w)
      have F2 := fun w => Lib.hid (flatR_19 a b c w)
      have S1 := fun w => Lib.hid (solidP_19 x y j w)
      have S2 := fun w => Lib.hid (solidR_19 x y j w)
      (have qk9 := Lay.cells hT; simp only [List.forall_mem_cons, List.not_mem_nil, false_implies, implies_true, and_true] at qk9; repeat (obtain ⟨qk8, qk9⟩ := qk9))
      go_wp2_with fail
      refine (F1 _).out.mono ?_
      rintro e w1 ⟨rfl, hb1⟩
      have hT := hT.next hb1
      go_upto_region 6 with fail
      refine wp_cls (Lay w.heap.size (w1.heap.size + 1) _ w) (hT.push2 b c 33) ?_
      obtain ⟨n1, hn1⟩ : ∃ t0, w1.heap.size = t0 := ⟨_, rfl⟩
      rw [hn1]
      clear hT
      intro wx hT
      unfold pcells at hT
      simp only [List.cons_append, List.nil_append] at hT
      (have qk9 := Lay.cells hT; simp only [List.forall_mem_cons, List.not_mem_nil, false_implies, implies_true, and_true] at qk9; repeat (obtain ⟨qk8, qk9⟩ := qk9))
      go_wp2_with fail
      refine (F2 _).out.mono ?_
      rintro e w2 ⟨rfl, hb2⟩
      have hT := hT.next hb2
      go_upto_region 7 with fail
      refine wp_cls (Lay w.heap.size (w2.heap.size + 1) _ w) (hT.push2 b c 33) ?_
      obtain ⟨n2, hn2⟩ : ∃ t0, w2.heap.size = t0 := ⟨_, rfl⟩
      rw [hn2]
      clear hT
      intro wx hT
      unfold pcells at hT
      simp only [List.cons_append, List.nil_append] at hT
      (have qk9 := Lay.cells hT; simp only [List.forall_mem_cons, List.not_mem_nil, false_implies, implies_true, and_true] at qk9; repeat (obtain ⟨qk8, qk9⟩ := qk9))
      go_wp2_with fail
      refine (S1 _).out.mono ?_
      rintro e w3 ⟨rfl, hb3⟩
      have hT := hT.next hb3
      go_upto_region 8 with fail
      refine wp_cls (Lay w.heap.size (w3.heap.size + 1) _ w) (hT.push j x y 23) ?_
      obtain ⟨n3, hn3⟩ : ∃ t0, w3.heap.size = t0 := ⟨_, rfl⟩
      rw [hn3]
      clear hT
      intro wx hT
      unfold vcells at hT
      simp only [List.cons_append, List.nil_append] at hT
      (have qk9 := Lay.cells hT; simp only [List.forall_mem_cons, List.not_mem_nil, false_implies, implies_true, and_true] at qk9; repeat (obtain ⟨qk8, qk9⟩ := qk9))
      go_wp2_with fail
      refine (S2 _).out.mono ?_
      rintro e w4 ⟨rfl, hb4⟩
      have hT := hT.next hb4
      go_upto_region 9 with fail
      refine wp_cls (Lay w.heap.size (w4.heap.size + 1) _ w) (hT.push j x y 23) ?_
      obtain ⟨n4, hn4⟩ : ∃ t0, w4.heap.size = t0 := ⟨_, rfl⟩
      rw [hn4]
      clear hT
      intro wx hT
      unfold vcells at hT
      simp only [List.cons_append, List.nil_append] at hT
      (have qk9 := Lay.cells hT; simp only [List.forall_mem_cons, List.not_mem_nil, false_implies, implies_true, and_true] at qk9; repeat (obtain ⟨qk8, qk9⟩ := qk9))
      go_wp2_with fail
      refine (mod_any _ _ _ ql qh (by omega) (by omega)).mono ?_
      rintro e w5 ⟨rfl, rfl⟩
      go_wp2_with fail
      go_roundw
      case rel => exact ⟨_, t + 1, _, rfl, by omega, by omega, by go_num, by omega, hT.drop10⟩
      case measure => simp [intOf]; omega
    · -- no plane
      have e1 : (q == 17) = false := by simp; omega
      have e2 : (q == 18) = false := by simp; omega
      have e3 : (q == 19) = false := by simp; omega
      have F1 := fun w => Lib.hid (flatP_no q a b c w e1 e2 e3)
      have F2 := fun w => Lib.hid (flatR_no q a b c w e1 e2 e3)
      have S1 := fun w => Lib.hid (solidP_no q x y j w e1 e2 e3)
      have S2 := fun w => Lib.hid (solidR_no q x y j w e1 e2 e3)
      clear hk e1 e2 e3
      (have qk9 := Lay.cells hT; simp only [List.forall_mem_cons, List.not_mem_nil, false_implies, implies_true, and_true] at qk9; repeat (obtain ⟨qk8, qk9⟩ := qk9))
      go_wp2_with fail
      refine (F1 _).out.mono ?_
      rintro e w1 ⟨rfl, hb1⟩
      have hT := hT.next hb1
      go_upto_region 6 with fail
      refine wp_cls (Lay w.heap.size (w1.heap.size + 1) _ w) (hT.push2 0 0 33) ?_
      obtain ⟨n1, hn1⟩ : ∃ t0, w1.heap.size = t0 := ⟨_, rfl⟩
      rw [hn1]
      clear hT
      intro wx hT
      unfold pcells at hT
      simp only [List.cons_append, List.nil_append] at hT
      (have qk9 := Lay.cells hT; simp only [List.forall_mem_cons, List.not_mem_nil, false_implies, implies_true, and_true] at qk9; repeat (obtain ⟨qk8, qk9⟩ := qk9))
      go_wp2_with fail
      refine (F2 _).out.mono ?_
      rintro e w2 ⟨rfl, hb2⟩
      have hT := hT.next hb2
      go_upto_region 7 with fail
      refine wp_cls (Lay w.heap.size (w2.heap.size + 1) _ w) (hT.push2 0 0 33) ?_
      obtain ⟨n2, hn2⟩ : ∃ t0, w2.heap.size = t0 := ⟨_, rfl⟩
      rw [hn2]
      clear hT
      intro wx hT
      unfold pcells at hT
      simp only [List.cons_append, List.nil_append] at hT
      (have qk9 := Lay.cells hT; simp only [List.forall_mem_cons, List.not_mem_nil, false_implies, implies_true, and_true] at qk9; repeat (obtain ⟨qk8, qk9⟩ := qk9))
      go_wp2_with fail
      refine (S1 _).out.mono ?_
      rintro e w3 ⟨rfl, hb3⟩
      have hT := hT.next hb3
      go_upto_region 8 with fail
      refine wp_cls (Lay w.heap.size (w3.heap.size + 1) _ w) (hT.push 0 0 0 23) ?_
      obtain ⟨n3, hn3⟩ : ∃ t0, w3.heap.size = t0 := ⟨_, rfl⟩
      rw [hn3]
      clear hT
      intro wx hT
      unfold vcells at hT
      simp only [List.cons_append, List.nil_append] at hT
      (have qk9 := Lay.cells hT; simp only [List.forall_mem_cons, List.not_mem_nil, false_implies, implies_true, and_true] at qk9; repeat (obtain ⟨qk8, qk9⟩ := qk9))
      go_wp2_with fail
      refine (S2 _).out.mono ?_
      rintro e w4 ⟨rfl, hb4⟩
      have hT := hT.next hb4
      go_upto_region 9 with fail
      refine wp_cls (Lay w.heap.size (w4.heap.size + 1) _ w) (hT.push 0 0 0 23) ?_
      obtain ⟨n4, hn4⟩ : ∃ t0, w4.heap.size = t0 := ⟨_, rfl⟩
      rw [hn4]
      clear hT
      intro wx hT
      unfold vcells at hT
      simp only [List.cons_append, List.nil_append] at hT
      (have qk9 := Lay.cells hT; simp only [List.forall_mem_cons, List.not_mem_nil, false_implies, implies_true, and_true] at qk9; repeat (obtain ⟨qk8, qk9⟩ := qk9))
      go_wp2_with fail
      refine (mod_any _ _ _ ql qh (by omega) (by omega)).mono ?_
      rintro e w5 ⟨rfl, rfl⟩
      go_wp2_with fail
      go_roundw
      case rel => exact ⟨_, t + 1, _, rfl, by omega, by omega, by go_num, by omega, hT.drop10⟩
      case measure => simp [intOf]; omega
end Go.Proofs.Ytlblodiamcnnpaa
