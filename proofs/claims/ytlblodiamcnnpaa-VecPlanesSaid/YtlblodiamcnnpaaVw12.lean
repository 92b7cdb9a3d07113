/- Proved here: VecPlaneDots returns true for every argument; no conditions but that integers are ints. -/
import Derived.Test.YtlblodiamcnnpaaVw11
import Derived.Deep.RegionHeld3
namespace Go.Proofs.Ytlblodiamcnnpaa
open Go.RowKit
set_option linter.unusedVariables false
set_option linter.unusedSimpArgs false
theorem Lay.push2 {B n : Nat} {cs : List (Addr × Value)} {w0 w : World} (h : Lay B n cs w0 w) (a b : Int) (t : TypeId) : Lay B (w.heap.size + 1) (pcells w.heap.size a b ++ cs) w0 (w.alloc (.cells #[.int .i64 a, .int .i64 b] t)) := by
  have h' := h.next (w' := w.alloc (.cells #[.int .i64 a, .int .i64 b] t)) ((Below.refl _ _).alloc (Nat.le_refl _) _)
  have hl := h.lt
  refine ⟨fun p hp => ?_, fun p hp => ?_, by simp, h'.be, Nat.le_trans h.le (Nat.le_trans h.lt (Nat.le_succ _))⟩
  · rcases List.mem_append.1 hp with g | g
    · simp only [pcells, List.mem_cons, List.not_mem_nil, or_false] at g
      rcases g with rfl | rfl <;> simp [go_sem]
    · exact h'.cells p g
  · rcases List.mem_append.1 hp with g | g
    · simp only [pcells, List.mem_cons, List.not_mem_nil, or_false] at g
      rcases g with rfl | rfl <;> simp
    · have := h.inn p g
      omega
theorem wr_in {n : Int} (h1 : -9223372036854775808 ≤ n) (h2 : n ≤ 9223372036854775807) : IntKind.i64.wrap n = n := by rw [IntKind.wrap_i64]; omega
theorem dots_17 {A B C : Int} (hA : -70368744177664 ≤ A ∧ A ≤ 70368744177664) (hB : -70368744177664 ≤ B ∧ B ≤ 70368744177664) (hC : -70368744177664 ≤ C ∧ C ≤ 70368744177664) :
    (A + B + C == IntKind.i64.wrap (A + B + IntKind.i64.wrap C)) = true := by
  rw [wr_in (n := C) (by omega) (by omega), wr_in (by omega) (by omega)]; simp
theorem dots_18 {A B C : Int} (hA : -70368744177664 ≤ A ∧ A ≤ 70368744177664) (hB : -70368744177664 ≤ B ∧ B ≤ 70368744177664) (hC : -70368744177664 ≤ C ∧ C ≤ 70368744177664) :
    (A + B + C == IntKind.i64.wrap (C + A + IntKind.i64.wrap B)) = true := by
  rw [wr_in (n := B) (by omega) (by omega), wr_in (by omega) (by omega)]; simp; omega
theorem dots_19 {A B C : Int} (hA : -70368744177664 ≤ A ∧ A ≤ 70368744177664) (hB : -70368744177664 ≤ B ∧ B ≤ 70368744177664) (hC : -70368744177664 ≤ C ∧ C ≤ 70368744177664) :
    (A + B + C == IntKind.i64.wrap (B + C + IntKind.i64.wrap A)) = true := by
  rw [wr_in (n := A) (by omega) (by omega), wr_in (by omega) (by omega)]; simp; omega
set_option maxRecDepth 20000 in
set_option maxHeartbeats 4000000 in
theorem law_planedots (a b c x y z k : Int) (w : World) (la : -9223372036854775808 ≤ a) (ha : a ≤ 9223372036854775807) (lb : -9223372036854775808 ≤ b) (hb : b ≤ 9223372036854775807) (lc : -9223372036854775808 ≤ c) (hc : c ≤ 9223372036854775807) (lx : -9223372036854775808 ≤ x) (hx : x ≤ 9223372036854775807) (ly : -9223372036854775808 ≤ y) (hy : y ≤ 9223372036854775807) (lz : -9223372036854775808 ≤ z) (hz : z ≤ 9223372036854775807) (lk : -9223372036854775808 ≤ k) (hk : k ≤ 9223372036854775807) :
    Calls Try.prog 5 #[.agg #[.int .i64 a, .int .i64 b, .int .i64 c], .agg #[.int .i64 x, .int .i64 y, .int .i64 z], .int .i64 k] w fun e w' => e = .returned (.bool true) ∧ Below w.heap.size w w' := by
  have P1 := fun w => Lib.hid (vector_ex a b c w la ha lb hb lc hc)
  have P2 := fun w => Lib.hid (vector_ex x y z w lx hx ly hy lz hz)
  have P3 := fun w => Lib.hid (mod_st k 3 w lk hk (by omega) (by omega))
  have k1 := Int.emod_nonneg k (b := 3) (by decide)
  have k2 := Int.emod_lt_of_pos k (b := 3) (by decide)
  clear la ha lb hb lc hc lx hx ly hy lz hz lk hk
  go_enter Try.func5, Try.ntmps5
  go_wp2_with fail
  go_cut [2] (fun s wx => s = .int .i64 (17 + k % 3) ∧ Lay w.heap.size (w.heap.size + 2) (vcells w.heap.size (smI a) (smI b) (smI c) ++ vcells (w.heap.size + 1) (smI x) (smI y) (smI z)) w wx)
  case first =>
    generalize k % 3 = r at *
    go_region_with (first
      | (go_at_call_of 14 a; refine (P1 _).out.mono ?_; rintro e w2 ⟨rfl, rfl⟩)
      | (go_at_call_of 14 x; refine (P2 _).out.mono ?_; rintro e w3 ⟨rfl, rfl⟩)
      | (go_at_call 17; refine (P3 _).out.mono ?_; rintro e w3 ⟨rfl, rfl⟩))
    all_goals
      go_wp2_with fail
      go_meet
      refine ⟨congrArg (Value.int .i64) (wr_in (by omega) (by omega)), ?_⟩
      unfold vcells
      (refine ⟨by simp [List.forall_mem_cons, go_sem], by simp [List.forall_mem_cons] <;> omega, by simp, by (repeat (first | exact Below.refl _ _ | assumption | refine Below.drew ?_ | (refine Below.alloc ?_ (by simp <;> omega) _) | (refine Below.setCell ?_ (by simp <;> omega) _))), by omega⟩)
  case rest =>
    obtain ⟨rfl, hT⟩ := hcut
    unfold vcells at hT
    simp only [List.cons_append, List.nil_append] at hT
    have Ba := smI_bd a
    obtain ⟨a, ha⟩ : ∃ t0, smI a = t0 := ⟨_, rfl⟩
    rw [ha] at hT Ba
    have Sa : Sm a := ⟨by omega, by omega⟩
    clear ha
    have Bb := smI_bd b
    obtain ⟨b, hb⟩ : ∃ t0, smI b = t0 := ⟨_, rfl⟩
    rw [hb] at hT Bb
    have Sb : Sm b := ⟨by omega, by omega⟩
    clear hb
    have Bc := smI_bd c
    obtain ⟨c, hc⟩ : ∃ t0, smI c = t0 := ⟨_, rfl⟩
    rw [hc] at hT Bc
    have Sc : Sm c := ⟨by omega, by omega⟩
    clear hc
    have Bx := smI_bd x
    obtain ⟨x, hx⟩ : ∃ t0, smI x = t0 := ⟨_, rfl⟩
    rw [hx] at hT Bx
    have Sx : Sm x := ⟨by omega, by omega⟩
    clear hx
    have By := smI_bd y
    obtain ⟨y, hy⟩ : ∃ t0, smI y = t0 := ⟨_, rfl⟩
    rw [hy] at hT By
    have Sy : Sm y := ⟨by omega, by omega⟩
    clear hy
    have Bz := smI_bd z
    obtain ⟨z, hz⟩ : ∃ t0, smI z = t0 := ⟨_, rfl⟩
    rw [hz] at hT Bz
    have Sz : Sm z := ⟨by omega, by omega⟩
    clear hz
    generalize hr : 17 + k % 3 = r at *
    rcases (show r = 17 ∨ r = 18 ∨ r = 19 by omega) with hk | hk | hk
    · -- plane 17
      subst hk
      have F1 := fun w => Lib.hid (flatP_17 a b c w)
      have F2 := fun w => Lib.hid (flatP_17 x y z w)
      have I1 := fun w => Lib.hid (innerP_any a b x y w Sa Sb Sx Sy)
      have D1 := fun w => Lib.hid (dotP_any a b c x y z w Sa Sb Sc Sx Sy Sz)
      have E := dots_17 (Sa.mul Sx) (Sb.mul Sy) (Sc.mul Sz)
      (have qk9 := Lay.cells hT; simp only [List.forall_mem_cons, List.not_mem_nil, false_implies, implies_true, and_true] at qk9; repeat (obtain ⟨qk8, qk9⟩ := qk9))
      go_wp2_with fail
      refine (F1 _).out.mono ?_
      rintro e w1 ⟨rfl, hb1⟩
      have hT := hT.next hb1
      go_upto_region 3 with fail
      refine wp_cls (Lay w.heap.size (w1.heap.size + 1) _ w) (hT.push2 a b 33) ?_
      obtain ⟨n1, hn1⟩ : ∃ t0, w1.heap.size = t0 := ⟨_, rfl⟩
      rw [hn1]
      clear hT
      intro wx hT
      unfold pcells at hT
      simp only [List.cons_append, List.nil_append] at hT
      (have qk9 := Lay.cells hT; simp only [List.forall_mem_cons, List.not_mem_nil, false_implies, implies_true, and_true] at qk9; repeat (obtain ⟨qk8, qk9⟩ := qk9))
      go_wp2_with fail
      refine (F2 _).out.mono ?_
      rintro e w2 ⟨rfl, hb2⟩
      have hT := hT.next hb2
      go_upto_region 4 with fail
      refine wp_cls (Lay w.heap.size (w2.heap.size + 1) _ w) (hT.push2 x y 33) ?_
      obtain ⟨n2, hn2⟩ : ∃ t0, w2.heap.size = t0 := ⟨_, rfl⟩
      rw [hn2]
      clear hT
      intro wy hT
      unfold pcells at hT
      simp only [List.cons_append, List.nil_append] at hT
      (refine wp_region_class (Lay w.heap.size (n2 + 1) _ w) (hT.next (Below.refl _ _).drew) (by kernel_rfl) (by kernel_rfl) ?_; repeat (refine wpQuiet_step (fun qK9 qH9 => ?_); go_simp; first | (refine qH9 _ ?_; clear qH9 qK9) | (apply Exists.intro; refine ⟨?_, qH9 _ ?_⟩; (first | (intros; rfl) | ((intro wx hC; first | (go_at_call 18; exact Calls.lays (awake_any _) (fun _ => hC.next)) | (go_at_call 22; exact Calls.lays (D1 _).out (fun _ => hC.next)) | (go_at_call 23; exact Calls.lays (I1 _).out (fun _ => hC.next)) | ((have qk9 := Lay.cells hC; simp only [List.forall_mem_cons, List.not_mem_nil, false_implies, implies_true, and_true] at qk9; repeat (obtain ⟨qk8, qk9⟩ := qk9)); go_simp; first | done | rfl)))); clear qH9 qK9)))
      refine wpQuiet_nil ?_
      intro wz hC
      go_wp2_with fail
      go_ret
      exact ⟨rfl, hC.be⟩
    · -- plane 18
      subst hk
      have F1 := fun w => Lib.hid (flatP_18 a b c w)
      have F2 := fun w => Lib.hid (flatP_18 x y z w)
      have I1 := fun w => Lib.hid (innerP_any c a z x w Sc Sa Sz Sx)
      have D1 := fun w => Lib.hid (dotP_any a b c x y z w Sa Sb Sc Sx Sy Sz)
      have E := dots_18 (Sa.mul Sx) (Sb.mul Sy) (Sc.mul Sz)
      (have qk9 := Lay.cells hT; simp only [List.forall_mem_cons, List.not_mem_nil, false_implies, implies_true, and_true] at qk9; repeat (obtain ⟨qk8, qk9⟩ := qk9))
      go_wp2_with fail
      refine (F1 _).out.mono ?_
      rintro e w1 ⟨rfl, hb1⟩
      have hT := hT.next hb1
      go_upto_region 3 with fail
      refine wp_cls (Lay w.heap.size (w1.heap.size + 1) _ w) (hT.push2 c a 33) ?_
      obtain ⟨n1, hn1⟩ : ∃ t0, w1.heap.size = t0 := ⟨_, rfl⟩
      rw [hn1]
      clear hT
      intro wx hT
      unfold pcells at hT
      simp only [List.cons_append, List.nil_append] at hT
      (have qk9 := Lay.cells hT; simp only [List.forall_mem_cons, List.not_mem_nil, false_implies, implies_true, and_true] at qk9; repeat (obtain ⟨qk8, qk9⟩ := qk9))
      go_wp2_with fail
      refine (F2 _).out.mono ?_
      rintro e w2 ⟨rfl, hb2⟩
      have hT := hT.next hb2
      go_upto_region 4 with fail
      refine wp_cls (Lay w.heap.size (w2.heap.size + 1) _ w) (hT.push2 z x 33) ?_
      obtain ⟨n2, hn2⟩ : ∃ t0, w2.heap.size = t0 := ⟨_, rfl⟩
      rw [hn2]
      clear hT
      intro wy hT
      unfold pcells at hT
      simp only [List.cons_append, List.nil_append] at hT
      (refine wp_region_class (Lay w.heap.size (n2 + 1) _ w) (hT.next (Below.refl _ _).drew) (by kernel_rfl) (by kernel_rfl) ?_; repeat (refine wpQuiet_step (fun qK9 qH9 => ?_); go_simp; first | (refine qH9 _ ?_; clear qH9 qK9) | (apply Exists.intro; refine ⟨?_, qH9 _ ?_⟩; (first | (intros; rfl) | ((intro wx hC; first | (go_at_call 18; exact Calls.lays (awake_any _) (fun _ => hC.next)) | (go_at_call 22; exact Calls.lays (D1 _).out (fun _ => hC.next)) | (go_at_call 23; exact Calls.lays (I1 _).out (fun _ => hC.next)) | ((have qk9 := Lay.cells hC; simp only [List.forall_mem_cons, List.not_mem_nil, false_implies, implies_true, and_true] at qk9; repeat (obtain ⟨qk8, qk9⟩ := qk9)); go_simp; first | done | rfl)))); clear qH9 qK9)))
      refine wpQuiet_nil ?_
      intro wz hC
      go_wp2_with fail
      go_ret
      exact ⟨rfl, hC.be⟩
    · -- plane 19
      subst hk
      have F1 := fun w => Lib.hid (flatP_19 a b c w)
      have F2 := fun w => Lib.hid (flatP_19 x y z w)
      have I1 := fun w => Lib.hid (innerP_any b c y z w Sb Sc Sy Sz)
      have D1 := fun w => Lib.hid (dotP_any a b c x y z w Sa Sb Sc Sx Sy Sz)
      have E := dots_19 (Sa.mul Sx) (Sb.mul Sy) (Sc.mul Sz)
      (have qk9 := Lay.cells hT; simp only [List.forall_mem_cons, List.not_mem_nil, false_implies, implies_true, and_true] at qk9; repeat (obtain ⟨qk8, qk9⟩ := qk9))
      go_wp2_with fail
      refine (F1 _).out.mono ?_
      rintro e w1 ⟨rfl, hb1⟩
      have hT := hT.next hb1
      go_upto_region 3 with fail
      refine wp_cls (Lay w.heap.size (w1.heap.size + 1) _ w) (hT.push2 b c 33) ?_
      obtain ⟨n1, hn1⟩ : ∃ t0, w1.heap.size = t0 := ⟨_, rfl⟩
      rw [hn1]
      clear hT
      intro wx hT
      unfold pcells at hT
      simp only [List.cons_append, List.nil_append] at hT
      (have qk9 := Lay.cells hT; simp only [List.forall_mem_cons, List.not_mem_nil, false_implies, implies_true, and_true] at qk9; repeat (obtain ⟨qk8, qk9⟩ := qk9))
      go_wp2_with fail
      refine (F2 _).out.mono ?_
      rintro e w2 ⟨rfl, hb2⟩
      have hT := hT.next hb2
      go_upto_region 4 with fail
      refine wp_cls (Lay w.heap.size (w2.heap.size + 1) _ w) (hT.push2 y z 33) ?_
      obtain ⟨n2, hn2⟩ : ∃ t0, w2.heap.size = t0 := ⟨_, rfl⟩
      rw [hn2]
      clear hT
      intro wy hT
      unfold pcells at hT
      simp only [List.cons_append, List.nil_append] at hT
      (refine wp_region_class (Lay w.heap.size (n2 + 1) _ w) (hT.next (Below.refl _ _).drew) (by kernel_rfl) (by kernel_rfl) ?_; repeat (refine wpQuiet_step (fun qK9 qH9 => ?_); go_simp; first | (refine qH9 _ ?_; clear qH9 qK9) | (apply Exists.intro; refine ⟨?_, qH9 _ ?_⟩; (first | (intros; rfl) | ((intro wx hC; first | (go_at_call 18; exact Calls.lays (awake_any _) (fun _ => hC.next)) | (go_at_call 22; exact Calls.lays (D1 _).out (fun _ => hC.next)) | (go_at_call 23; exact Calls.lays (I1 _).out (fun _ => hC.next)) | ((have qk9 := Lay.cells hC; simp only [List.forall_mem_cons, List.not_mem_nil, false_implies, implies_true, and_true] at qk9; repeat (obtain ⟨qk8, qk9⟩ := qk9)); go_simp; first | done | rfl)))); clear qH9 qK9)))
      refine wpQuiet_nil ?_
      intro wz hC
      go_wp2_with fail
      go_ret
      exact ⟨rfl, hC.be⟩
end Go.Proofs.Ytlblodiamcnnpaa
