/- Proved here: VecBack returns true for every argument; no conditions but that integers are ints. -/
import Derived.Test.YtlblodiamcnnpaaVw12
import Derived.Deep.RegionHeld3
namespace Go.Proofs.Ytlblodiamcnnpaa
open Go.RowKit
set_option linter.unusedVariables false
set_option linter.unusedSimpArgs false
theorem Lay.push {B n : Nat} {cs : List (Addr × Value)} {w0 w : World} (h : Lay B n cs w0 w) (a b c : Int) (t : TypeId) : Lay B (w.heap.size + 1) (vcells w.heap.size a b c ++ cs) w0 (w.alloc (.cells #[.int .i64 a, .int .i64 b, .int .i64 c] t)) := by
  have h' := h.next (w' := w.alloc (.cells #[.int .i64 a, .int .i64 b, .int .i64 c] t)) ((Below.refl _ _).alloc (Nat.le_refl _) _)
  have hl := h.lt
  refine ⟨fun p hp => ?_, fun p hp => ?_, by simp, h'.be, Nat.le_trans h.le (Nat.le_trans h.lt (Nat.le_succ _))⟩
  · rcases List.mem_append.1 hp with g | g
    · simp only [vcells, List.mem_cons, List.not_mem_nil, or_false] at g
      rcases g with rfl | rfl | rfl <;> simp [go_sem]
    · exact h'.cells p g
  · rcases List.mem_append.1 hp with g | g
    · simp only [vcells, List.mem_cons, List.not_mem_nil, or_false] at g
      rcases g with rfl | rfl | rfl <;> simp
    · have := h.inn p g
      omega
set_option maxRecDepth 20000 in
set_option maxHeartbeats 8000000 in
theorem law_back (a b c x y j k : Int) (w : World) (la : -9223372036854775808 ≤ a) (ha : a ≤ 9223372036854775807) (lb : -9223372036854775808 ≤ b) (hb : b ≤ 9223372036854775807) (lc : -9223372036854775808 ≤ c) (hc : c ≤ 9223372036854775807) (lx : -9223372036854775808 ≤ x) (hx : x ≤ 9223372036854775807) (ly : -9223372036854775808 ≤ y) (hy : y ≤ 9223372036854775807) (lj : -9223372036854775808 ≤ j) (hj : j ≤ 9223372036854775807) (lk : -9223372036854775808 ≤ k) (hk : k ≤ 9223372036854775807) :
    Calls Try.prog 12 #[.agg #[.int .i64 a, .int .i64 b, .int .i64 c], .agg #[.int .i64 x, .int .i64 y], .int .i64 j, .int .i64 k] w fun e w' => e = .returned (.bool true) ∧ Below w.heap.size w w' := by
  have P1 := fun w => Lib.hid (vector_ex a b c w la ha lb hb lc hc)
  have P2 := fun w => Lib.hid (point_ex x y w lx hx ly hy)
  have P3 := fun w => Lib.hid (small_st j w lj hj)
  have P4 := fun w => Lib.hid (mod_st k 3 w lk hk (by omega) (by omega))
  have k1 := Int.emod_nonneg k (b := 3) (by decide)
  have k2 := Int.emod_lt_of_pos k (b := 3) (by decide)
  clear la ha lb hb lc hc lx hx ly hy lj hj lk hk
  go_enter Try.func12, Try.ntmps12
  go_wp2_with fail
  go_cut [2, 3] (fun s t wx => s = .int .i64 (smI j) ∧ t = .int .i64 (17 + k % 3) ∧ Lay w.heap.size (w.heap.size + 2) (vcells w.heap.size (smI a) (smI b) (smI c) ++ pcells (w.heap.size + 1) (smI x) (smI y)) w wx)
  case first =>
    generalize k % 3 = r at *
    go_region_with (first
      | (go_at_call 14; refine (P1 _).out.mono ?_; rintro e w2 ⟨rfl, rfl⟩)
      | (go_at_call 31; refine (P2 _).out.mono ?_; rintro e w3 ⟨rfl, rfl⟩)
      | (go_at_call 35; refine (P3 _).out.mono ?_; rintro e w3 ⟨rfl, rfl⟩)
      | (go_at_call 17; refine (P4 _).out.mono ?_; rintro e w3 ⟨rfl, rfl⟩))
    all_goals
      go_wp2_with fail
      go_meet
      refine ⟨rfl, congrArg (Value.int .i64) (wr_in (by omega) (by omega)), ?_⟩
      unfold vcells pcells
      (refine ⟨by simp [List.forall_mem_cons, go_sem], by simp [List.forall_mem_cons] <;> omega, by simp, by (repeat (first | exact Below.refl _ _ | assumption | refine Below.drew ?_ | (refine Below.alloc ?_ (by simp <;> omega) _) | (refine Below.setCell ?_ (by simp <;> omega) _))), by omega⟩)
  case rest =>
    obtain ⟨rfl, rfl, hT⟩ := hcut
    unfold vcells pcells at hT
    simp only [List.cons_append, List.nil_append] at hT
    obtain ⟨a, ha⟩ : ∃ t0, smI a = t0 := ⟨_, rfl⟩
    rw [ha] at hT
    clear ha
    obtain ⟨b, hb⟩ : ∃ t0, smI b = t0 := ⟨_, rfl⟩
    rw [hb] at hT
    clear hb
    obtain ⟨c, hc⟩ : ∃ t0, smI c = t0 := ⟨_, rfl⟩
    rw [hc] at hT
    clear hc
    obtain ⟨x, hx⟩ : ∃ t0, smI x = t0 := ⟨_, rfl⟩
    rw [hx] at hT
    clear hx
    obtain ⟨y, hy⟩ : ∃ t0, smI y = t0 := ⟨_, rfl⟩
    rw [hy] at hT
    clear hy
    generalize smI j = j at *
    generalize hr : 17 + k % 3 = r at *
    rcases (show r = 17 ∨ r = 18 ∨ r = 19 by omega) with hk | hk | hk
    · -- plane 17
      subst hk
      have F1 := fun w => Lib.hid (flatP_17 a b c w)
      have S1 := fun w => Lib.hid (solidP_17 a b c w)
      have S2 := fun w => Lib.hid (solidP_17 x y j w)
      have F2 := fun w => Lib.hid (flatP_17 x y j w)
      (have qk9 := Lay.cells hT; simp only [List.forall_mem_cons, List.not_mem_nil, false_implies, implies_true, and_true] at qk9; repeat (obtain ⟨qk8, qk9⟩ := qk9))
      go_wp2_with fail
      refine (F1 _).out.mono ?_
      rintro e w1 ⟨rfl, hb1⟩
      have hT := hT.next hb1
      go_upto_region 3 with fail
      refine wp_cls (Lay w.heap.size (w1.heap.size + 1) _ w) (hT.push2 a b 33) ?_
      obtain ⟨n1, hn1⟩ : ∃ t0, w1.heap.size = t0 := ⟨_, rfl⟩
      rw [hn1]
      clear hT
      intro wx hT
      unfold pcells at hT
      simp only [List.cons_append, List.nil_append] at hT
      (have qk9 := Lay.cells hT; simp only [List.forall_mem_cons, List.not_mem_nil, false_implies, implies_true, and_true] at qk9; repeat (obtain ⟨qk8, qk9⟩ := qk9))
      go_wp2_with fail
      refine (S1 _).out.mono ?_
      rintro e w2 ⟨rfl, hb2⟩
      have hT := hT.next hb2
      go_upto_region 4 with fail
      refine wp_cls (Lay w.heap.size (w2.heap.size + 1) _ w) (hT.push a b c 23) ?_
      obtain ⟨n2, hn2⟩ : ∃ t0, w2.heap.size = t0 := ⟨_, rfl⟩
      rw [hn2]
      clear hT
      intro wx hT
      unfold vcells at hT
      simp only [List.cons_append, List.nil_append] at hT
      (have qk9 := Lay.cells hT; simp only [List.forall_mem_cons, List.not_mem_nil, false_implies, implies_true, and_true] at qk9; repeat (obtain ⟨qk8, qk9⟩ := qk9))
      go_wp2_with fail
      refine (S2 _).out.mono ?_
      rintro e w3 ⟨rfl, hb3⟩
      have hT := hT.next hb3
      go_upto_region 5 with fail
      refine wp_cls (Lay w.heap.size (w3.heap.size + 1) _ w) (hT.push x y j 23) ?_
      obtain ⟨n3, hn3⟩ : ∃ t0, w3.heap.size = t0 := ⟨_, rfl⟩
      rw [hn3]
      clear hT
      intro wx hT
      unfold vcells at hT
      simp only [List.cons_append, List.nil_append] at hT
      (have qk9 := Lay.cells hT; simp only [List.forall_mem_cons, List.not_mem_nil, false_implies, implies_true, and_true] at qk9; repeat (obtain ⟨qk8, qk9⟩ := qk9))
      go_wp2_with fail
      refine (F2 _).out.mono ?_
      rintro e w4 ⟨rfl, hb4⟩
      have hT := hT.next hb4
      go_upto_region 6 with fail
      refine wp_cls (Lay w.heap.size (w4.heap.size + 1) _ w) (hT.push2 x y 33) ?_
      obtain ⟨n4, hn4⟩ : ∃ t0, w4.heap.size = t0 := ⟨_, rfl⟩
      rw [hn4]
      clear hT
      intro wx hT
      unfold pcells at hT
      simp only [List.cons_append, List.nil_append] at hT
      (have qk9 := Lay.cells hT; simp only [List.forall_mem_cons, List.not_mem_nil, false_implies, implies_true, and_true] at qk9; repeat (obtain ⟨qk8, qk9⟩ := qk9))
      go_wp2_with fail
      refine (awake_any _).mono ?_
      rintro e w5 ⟨rfl, hb5⟩
      have hT := hT.next hb5
      (have qk9 := Lay.cells hT; simp only [List.forall_mem_cons, List.not_mem_nil, false_implies, implies_true, and_true] at qk9; repeat (obtain ⟨qk8, qk9⟩ := qk9))
      go_wp2_with fail
      go_ret
      exact ⟨rfl, hT.be⟩
    · -- plane 18
      subst hk
      have F1 := fun w => Lib.hid (flatP_18 a b c w)
      have S1 := fun w => Lib.hid (solidP_18 c a b w)
      have S2 := fun w => Lib.hid (solidP_18 x y j w)
      have F2 := fun w => Lib.hid (flatP_18 y j x w)
      (have qk9 := Lay.cells hT; simp only [List.forall_mem_cons, List.not_mem_nil, false_implies, implies_true, and_true] at qk9; repeat (obtain ⟨qk8, qk9⟩ := qk9))
      go_wp2_with fail
      refine (F1 _).out.mono ?_
      rintro e w1 ⟨rfl, hb1⟩
      have hT := hT.next hb1
      go_upto_region 3 with fail
      refine wp_cls (Lay w.heap.size (w1.heap.size + 1) _ w) (hT.push2 c a 33) ?_
      obtain ⟨n1, hn1⟩ : ∃ t0, w1.heap.size = t0 := ⟨_, rfl⟩
      rw [hn1]
      clear hT
      intro wx hT
      unfold pcells at hT
      simp only [List.cons_append, List.nil_append] at hT
      (have qk9 := Lay.cells hT; simp only [List.forall_mem_cons, List.not_mem_nil, false_implies, implies_true, and_true] at qk9; repeat (obtain ⟨qk8, qk9⟩ := qk9))
      go_wp2_with fail
      refine (S1 _).out.mono ?_
      rintro e w2 ⟨rfl, hb2⟩
      have hT := hT.next hb2
      go_upto_region 4 with fail
      refine wp_cls (Lay w.heap.size (w2.heap.size + 1) _ w) (hT.push a b c 23) ?_
      obtain ⟨n2, hn2⟩ : ∃ t0, w2.heap.size = t0 := ⟨_, rfl⟩
      rw [hn2]
      clear hT
      intro wx hT
      unfold vcells at hT
      simp only [List.cons_append, List.nil_append] at hT
      (have qk9 := Lay.cells hT; simp only [List.forall_mem_cons, List.not_mem_nil, false_implies, implies_true, and_true] at qk9; repeat (obtain ⟨qk8, qk9⟩ := qk9))
      go_wp2_with fail
      refine (S2 _).out.mono ?_
      rintro e w3 ⟨rfl, hb3⟩
      have hT := hT.next hb3
      go_upto_region 5 with fail
      refine wp_cls (Lay w.heap.size (w3.heap.size + 1) _ w) (hT.push y j x 23) ?_
      obtain ⟨n3, hn3⟩ : ∃ t0, w3.heap.size = t0 := ⟨_, rfl⟩
      rw [hn3]
      clear hT
      intro wx hT
      unfold vcells at hT
      simp only [List.cons_append, List.nil_append] at hT
      (have qk9 := Lay.cells hT; simp only [List.forall_mem_cons, List.not_mem_nil, false_implies, implies_true, and_true] at qk9; repeat (obtain ⟨qk8, qk9⟩ := qk9))
      go_wp2_with fail
      refine (F2 _).out.mono ?_
      rintro e w4 ⟨rfl, hb4⟩
      have hT := hT.next hb4
      go_upto_region 6 with fail
      refine wp_cls (Lay w.heap.size (w4.heap.size + 1) _ w) (hT.push2 x y 33) ?_
      obtain ⟨n4, hn4⟩ : ∃ t0, w4.heap.size = t0 := ⟨_, rfl⟩
      rw [hn4]
      clear hT
      intro wx hT
      unfold pcells at hT
      simp only [List.cons_append, List.nil_append] at hT
      (have qk9 := Lay.cells hT; simp only [List.forall_mem_cons, List.not_mem_nil, false_implies, implies_true, and_true] at qk9; repeat (obtain ⟨qk8, qk9⟩ := qk9))
      go_wp2_with fail
      refine (awake_any _).mono ?_
      rintro e w5 ⟨rfl, hb5⟩
      have hT := hT.next hb5
      (have qk9 := Lay.cells hT; simp only [List.forall_mem_cons, List.not_mem_nil, false_implies, implies_true, and_true] at qk9; repeat (obtain ⟨qk8, qk9⟩ := qk9))
      go_wp2_with fail
      go_ret
      exact ⟨rfl, hT.be⟩
    · -- plane 19
      subst hk
      have F1 := fun w => Lib.hid (flatP_19 a b c w)
      have S1 := fun w => Lib.hid (solidP_19 b c a w)
      have S2 := fun w => Lib.hid (solidP_19 x y j w)
      have F2 := fun w => Lib.hid (flatP_19 j x y w)
      (have qk9 := Lay.cells hT; simp only [List.forall_mem_cons, List.not_mem_nil, false_implies, implies_true, and_true] at qk9; repeat (obtain ⟨qk8, qk9⟩ := qk9))
      go_wp2_with fail
      refine (F1 _).out.mono ?_
      rintro e w1 ⟨rfl, hb1⟩
      have hT := hT.next hb1
      go_upto_region 3 with fail
      refine wp_cls (Lay w.heap.size (w1.heap.size + 1) _ w) (hT.push2 b c 33) ?_
      obtain ⟨n1, hn1⟩ : ∃ t0, w1.heap.size = t0 := ⟨_, rfl⟩
      rw [hn1]
      clear hT
      intro wx hT
      unfold pcells at hT
      simp only [List.cons_append, List.nil_append] at hT
      (have qk9 := Lay.cells hT; simp only [List.forall_mem_cons, List.not_mem_nil, false_implies, implies_true, and_true] at qk9; repeat (obtain ⟨qk8, qk9⟩ := qk9))
      go_wp2_with fail
      refine (S1 _).out.mono ?_
      rintro e w2 ⟨rfl, hb2⟩
      have hT := hT.next hb2
      go_upto_region 4 with fail
      refine wp_cls (Lay w.heap.size (w2.heap.size + 1) _ w) (hT.push a b c 23) ?_
      obtain ⟨n2, hn2⟩ : ∃ t0, w2.heap.size = t0 := ⟨_, rfl⟩
      rw [hn2]
      clear hT
      intro wx hT
      unfold vcells at hT
      simp only [List.cons_append, List.nil_append] at hT
      (have qk9 := Lay.cells hT; simp only [List.forall_mem_cons, List.not_mem_nil, false_implies, implies_true, and_true] at qk9; repeat (obtain ⟨qk8, qk9⟩ := qk9))
      go_wp2_with fail
      refine (S2 _).out.mono ?_
      rintro e w3 ⟨rfl, hb3⟩
      have hT := hT.next hb3
      go_upto_region 5 with fail
      refine wp_cls (Lay w.heap.size (w3.heap.size + 1) _ w) (hT.push j x y 23) ?_
      obtain ⟨n3, hn3⟩ : ∃ t0, w3.heap.size = t0 := ⟨_, rfl⟩
      rw [hn3]
      clear hT
      intro wx hT
      unfold vcells at hT
      simp only [List.cons_append, List.nil_append] at hT
      (have qk9 := Lay.cells hT; simp only [List.forall_mem_cons, List.not_mem_nil, false_implies, implies_true, and_true] at qk9; repeat (obtain ⟨qk8, qk9⟩ := qk9))
      go_wp2_with fail
      refine (F2 _).out.mono ?_
      rintro e w4 ⟨rfl, hb4⟩
      have hT := hT.next hb4
      go_upto_region 6 with fail
      refine wp_cls (Lay w.heap.size (w4.heap.size + 1) _ w) (hT.push2 x y 33) ?_
      obtain ⟨n4, hn4⟩ : ∃ t0, w4.heap.size = t0 := ⟨_, rfl⟩
      rw [hn4]
      clear hT
      intro wx hT
      unfold pcells at hT
      simp only [List.cons_append, List.nil_append] at hT
      (have qk9 := Lay.cells hT; simp only [List.forall_mem_cons, List.not_mem_nil, false_implies, implies_true, and_true] at qk9; repeat (obtain ⟨qk8, qk9⟩ := qk9))
      go_wp2_with fail
      refine (awake_any _).mono ?_
      rintro e w5 ⟨rfl, hb5⟩
      have hT := hT.next hb5
      (have qk9 := Lay.cells hT; simp only [List.forall_mem_cons, List.not_mem_nil, false_implies, implies_true, and_true] at qk9; repeat (obtain ⟨qk8, qk9⟩ := qk9))
      go_wp2_with fail
      go_ret
      exact ⟨rfl, hT.be⟩
end Go.Proofs.Ytlblodiamcnnpaa
