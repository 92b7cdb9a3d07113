/- Proved here: VecLength returns true for every argument; no conditions but that integers are ints. -/
import Derived.Test.YtlblodiamcnnpaaVw7
import Derived.Test.YtlblodiamcnnpaaLs9
namespace Go.Proofs.Ytlblodiamcnnpaa
open Go.RowKit
set_option linter.unusedVariables false
set_option linter.unusedSimpArgs false
set_option maxHeartbeats 1000000 in
theorem lengthR_any (x y z m : Int) (w : World) (hx : Sm x) (hy : Sm y) (hz : Sm z) :
    Calls Try.prog 16 #[.agg #[.int .i64 x, .int .i64 y, .int .i64 z], .int .i64 m] w fun e w' => e = .returned (.tuple #[.int .i64 (sqV (x * x + y * y + z * z) m), .bool (sqO (x * x + y * y + z * z) m)]) ∧ Below w.heap.size w w' := by
  have HB : Hid (x * x + y * y + z * z ≤ 9223372036854775807) := by
    have h1 := hx.mul hx
    have h2 := hy.mul hy
    have h3 := hz.mul hz
    show x * x + y * y + z * z ≤ 9223372036854775807
    omega
  go_enter Try.func16, Try.ntmps16
  go_wp2_with fail
  refine (dotR_any x y z x y z _ hx hy hz hx hy hz).mono ?_
  rintro e w1 ⟨rfl, hb1⟩
  go_wp2_with fail
  refine (SqrtR_any _ m _ HB.out).mono ?_
  rintro e w2 ⟨rfl, hb2⟩
  go_wp2_with fail
  go_ret2
  exact ⟨rfl, btW ((b1 _).trans (hb1.mono (by simp))) hb2⟩
set_option maxRecDepth 20000 in
set_option maxHeartbeats 4000000 in
theorem law_length (a b c m : Int) (w : World) (la : -9223372036854775808 ≤ a) (ha : a ≤ 9223372036854775807) (lb : -9223372036854775808 ≤ b) (hb : b ≤ 9223372036854775807) (lc : -9223372036854775808 ≤ c) (hc : c ≤ 9223372036854775807) (lm : -9223372036854775808 ≤ m) (hm : m ≤ 9223372036854775807) :
    Calls Try.prog 3 #[.agg #[.int .i64 a, .int .i64 b, .int .i64 c], .int .i64 m] w fun e w' => e = .returned (.bool true) ∧ Below w.heap.size w w' := by
  have P1 := fun w => Lib.hid (vector_ex a b c w la ha lb hb lc hc)
  have MD := fun w => Lib.hid (mod_any m 3 w lm hm (by omega) (by omega))
  have S1 := smI_Sm a
  have S2 := smI_Sm b
  have S3 := smI_Sm c
  go_enter Try.func3, Try.ntmps3
  go_wp2_with fail
  refine (P1 _).out.mono ?_
  rintro e w2 ⟨rfl, rfl⟩
  go_upto_region 2 with fail
  refine wp_cls (Lay w.heap.size (w.heap.size + 1) (vcells w.heap.size (smI a) (smI b) (smI c)) w) (by unfold vcells; (refine ⟨by simp [List.forall_mem_cons, go_sem], by simp [List.forall_mem_cons] <;> omega, by simp, by (repeat (first | exact Below.refl _ _ | assumption | refine Below.drew ?_ | (refine Below.alloc ?_ (by simp <;> omega) _) | (refine Below.setCell ?_ (by simp <;> omega) _))), by omega⟩)) ?_
  intro wx hT
  unfold vcells at hT
  obtain ⟨a, ha⟩ : ∃ t0, smI a = t0 := ⟨_, rfl⟩
  obtain ⟨b, hb⟩ : ∃ t0, smI b = t0 := ⟨_, rfl⟩
  obtain ⟨c, hc⟩ : ∃ t0, smI c = t0 := ⟨_, rfl⟩
  rw [ha] at hT S1
  rw [hb] at hT S2
  rw [hc] at hT S3
  have LP := fun w => Lib.hid (length_any a b c m w S1 S2 S3)
  have LR := fun w => Lib.hid (lengthR_any a b c m w S1 S2 S3)
  have LQ := fun w => Lib.hid (length_any a b c (m % 3) w S1 S2 S3)
  have LS := fun w => Lib.hid (lengthR_any a b c (m % 3) w S1 S2 S3)
  clear ha hb hc
  generalize sqV (a * a + b * b + c * c) m = x1 at *
  generalize sqO (a * a + b * b + c * c) m = y1 at *
  generalize sqV (a * a + b * b + c * c) (m % 3) = x2 at *
  generalize sqO (a * a + b * b + c * c) (m % 3) = y2 at *
  generalize m % 3 = k at *
  cases y1 <;> cases y2
  all_goals
    (have qk9 := Lay.cells hT; simp only [List.forall_mem_cons, List.not_mem_nil, false_implies, implies_true, and_true] at qk9; repeat (obtain ⟨qk8, qk9⟩ := qk9))
    go_wp2_with fail
    refine (LP _).out.mono ?_
    rintro e w1 ⟨rfl, hb1⟩
    have hT := hT.next hb1
    (have qk9 := Lay.cells hT; simp only [List.forall_mem_cons, List.not_mem_nil, false_implies, implies_true, and_true] at qk9; repeat (obtain ⟨qk8, qk9⟩ := qk9))
    go_wp2_with fail
    refine (LR _).out.mono ?_
    rintro e w2 ⟨rfl, hb2⟩
    have hT := hT.next hb2
    go_upto_region 4 with fail
    (refine wp_region_class (Lay w.heap.size (w.heap.size + 1) _ w) (hT.next (Below.refl _ _).drew) (by kernel_rfl) (by kernel_rfl) ?_; repeat (refine wpQuiet_step (fun qK9 qH9 => ?_); go_simp; first | (refine qH9 _ ?_; clear qH9 qK9) | (apply Exists.intro; refine ⟨?_, qH9 _ ?_⟩; (first | (intros; rfl) | ((intro wx hC; first | (go_at_call 17; exact Calls.layq (MD _).out hC) | (go_at_call 15; exact Calls.lays (LQ _).out (fun _ => hC.next)) | ((have qk9 := Lay.cells hC; simp only [List.forall_mem_cons, List.not_mem_nil, false_implies, implies_true, and_true] at qk9; repeat (obtain ⟨qk8, qk9⟩ := qk9)); go_simp; first | done | rfl)))); clear qH9 qK9)))
    refine wpQuiet_nil ?_
    intro wy hT
    go_upto_region 5 with fail
    (refine wp_region_class (Lay w.heap.size (w.heap.size + 1) _ w) (hT.next (Below.refl _ _).drew) (by kernel_rfl) (by kernel_rfl) ?_; repeat (refine wpQuiet_step (fun qK9 qH9 => ?_); go_simp; first | (refine qH9 _ ?_; clear qH9 qK9) | (apply Exists.intro; refine ⟨?_, qH9 _ ?_⟩; (first | (intros; rfl) | ((intro wx hC; first | (go_at_call 17; exact Calls.layq (MD _).out hC) | (go_at_call 16; exact Calls.lays (LS _).out (fun _ => hC.next)) | ((have qk9 := Lay.cells hC; simp only [List.forall_mem_cons, List.not_mem_nil, false_implies, implies_true, and_true] at qk9; repeat (obtain ⟨qk8, qk9⟩ := qk9)); go_simp; first | done | rfl)))); clear qH9 qK9)))
    refine wpQuiet_nil ?_
    intro wz hT
    go_wp2_with fail
    refine (awake_any _).mono ?_
    rintro e w5 ⟨rfl, hb5⟩
    have hT := hT.next hb5
    go_wp2_with fail
    go_ret
    exact ⟨rfl, hT.be⟩
end Go.Proofs.Ytlblodiamcnnpaa
