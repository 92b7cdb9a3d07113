/- Proved here: VecLagrange returns true for every argument; no conditions but that integers are ints. -/
import Derived.Test.YtlblodiamcnnpaaVw7
import Derived.Deep.RegionHeld3
namespace Go.Proofs.Ytlblodiamcnnpaa
open Go.RowKit
set_option linter.unusedVariables false
set_option linter.unusedSimpArgs false
theorem lag (a b x y : Int) : (a * y - b * x) * (a * y - b * x) + (a * x + b * y) * (a * x + b * y) = (a * a + b * b) * (x * x + y * y) := by grind
theorem tw_mul {a b : Int} (ha : -20000 ≤ a ∧ a ≤ 20000) (hb : -20000 ≤ b ∧ b ≤ 20000) : -400000000 ≤ a * b ∧ a * b ≤ 400000000 := mul_bd ha.1 ha.2 hb.1 hb.2
def pcells (n : Nat) (a b : Int) : List (Addr × Value) := [(⟨n, 0, none⟩, .int .i64 a), (⟨n, 1, none⟩, .int .i64 b)]
set_option maxRecDepth 20000 in
set_option maxHeartbeats 4000000 in
theorem law_lagrange (a b x y : Int) (w : World) (la : -9223372036854775808 ≤ a) (ha : a ≤ 9223372036854775807) (lb : -9223372036854775808 ≤ b) (hb : b ≤ 9223372036854775807) (lx : -9223372036854775808 ≤ x) (hx : x ≤ 9223372036854775807) (ly : -9223372036854775808 ≤ y) (hy : y ≤ 9223372036854775807) :
    Calls Try.prog 10 #[.agg #[.int .i64 a, .int .i64 b], .agg #[.int .i64 x, .int .i64 y]] w fun e w' => e = .returned (.bool true) ∧ Below w.heap.size w w' := by
  go_enter Try.func10, Try.ntmps10
  go_wp2_with fail
  refine wp_region_still_tail 7 (by kernel_rfl) (by kernel_rfl) ?_
  simp only [List.take_succ_cons, List.take_zero, List.drop_succ_cons, List.drop_zero]
  change wpStill _ _ (World.drew _) _ _ _
  repeat (first | still_step | still_call (between_st _ _ _ _ (by assumption) (by assumption) (by omega) (by omega) (by omega) (by omega)))
  refine wpStill_nil ?_
  change wpList _ _ _ _ _ (World.drew _)
  go_wp2_with fail
  refine wp_region_still_tail 7 (by kernel_rfl) (by kernel_rfl) ?_
  simp only [List.take_succ_cons, List.take_zero, List.drop_succ_cons, List.drop_zero]
  change wpStill _ _ (World.drew _) _ _ _
  repeat (first | still_step | still_call (between_st _ _ _ _ (by assumption) (by assumption) (by omega) (by omega) (by omega) (by omega)))
  refine wpStill_nil ?_
  change wpList _ _ _ _ _ (World.drew _)
  go_wp2_with fail
  refine wp_cls (Lay w.heap.size (w.heap.size + 2) (pcells w.heap.size (-20000 + a % (20000 - (-20000) + 1)) (-20000 + b % (20000 - (-20000) + 1)) ++ pcells (w.heap.size + 1) (-20000 + x % (20000 - (-20000) + 1)) (-20000 + y % (20000 - (-20000) + 1))) w) (by unfold pcells; (refine ⟨by simp [List.forall_mem_cons, go_sem], by simp [List.forall_mem_cons] <;> omega, by simp, by (repeat (first | exact Below.refl _ _ | assumption | refine Below.drew ?_ | (refine Below.alloc ?_ (by simp <;> omega) _) | (refine Below.setCell ?_ (by simp <;> omega) _))), by omega⟩)) ?_
  intro wx hT
  unfold pcells at hT
  simp only [List.cons_append, List.nil_append] at hT
  have ma := Int.emod_nonneg a (b := 20000 - (-20000) + 1) (by decide)
  have na := Int.emod_lt_of_pos a (b := 20000 - (-20000) + 1) (by decide)
  obtain ⟨a, ha⟩ : ∃ r, -20000 + a % (20000 - (-20000) + 1) = r := ⟨_, rfl⟩
  rw [ha] at hT
  have Sa : Sm a := ⟨by omega, by omega⟩
  have Ba : -20000 ≤ a ∧ a ≤ 20000 := by omega
  clear ha ma na
  have mb := Int.emod_nonneg b (b := 20000 - (-20000) + 1) (by decide)
  have nb := Int.emod_lt_of_pos b (b := 20000 - (-20000) + 1) (by decide)
  obtain ⟨b, hb⟩ : ∃ r, -20000 + b % (20000 - (-20000) + 1) = r := ⟨_, rfl⟩
  rw [hb] at hT
  have Sb : Sm b := ⟨by omega, by omega⟩
  have Bb : -20000 ≤ b ∧ b ≤ 20000 := by omega
  clear hb mb nb
  have mx := Int.emod_nonneg x (b := 20000 - (-20000) + 1) (by decide)
  have nx := Int.emod_lt_of_pos x (b := 20000 - (-20000) + 1) (by decide)
  obtain ⟨x, hx⟩ : ∃ r, -20000 + x % (20000 - (-20000) + 1) = r := ⟨_, rfl⟩
  rw [hx] at hT
  have Sx : Sm x := ⟨by omega, by omega⟩
  have Bx : -20000 ≤ x ∧ x ≤ 20000 := by omega
  clear hx mx nx
  have my := Int.emod_nonneg y (b := 20000 - (-20000) + 1) (by decide)
  have ny := Int.emod_lt_of_pos y (b := 20000 - (-20000) + 1) (by decide)
  obtain ⟨y, hy⟩ : ∃ r, -20000 + y % (20000 - (-20000) + 1) = r := ⟨_, rfl⟩
  rw [hy] at hT
  have Sy : Sm y := ⟨by omega, by omega⟩
  have By : -20000 ≤ y ∧ y ≤ 20000 := by omega
  clear hy my ny

  have C1 := fun w => Lib.hid (crossP_any a b x y w Sa Sb Sx Sy)
  have C2 := fun w => Lib.hid (crossP_any x y a b w Sx Sy Sa Sb)
  have C3 := fun w => Lib.hid (crossP_any a b a b w Sa Sb Sa Sb)
  have I1 := fun w => Lib.hid (innerP_any a b x y w Sa Sb Sx Sy)
  have I2 := fun w => Lib.hid (innerP_any x y a b w Sx Sy Sa Sb)
  (refine wp_region_class (Lay w.heap.size (w.heap.size + 2) _ w) (hT.next (Below.refl _ _).drew) (by kernel_rfl) (by kernel_rfl) ?_; repeat (refine wpQuiet_step (fun qK9 qH9 => ?_); go_simp; first | (refine qH9 _ ?_; clear qH9 qK9) | (apply Exists.intro; refine ⟨?_, qH9 _ ?_⟩; (first | (intros; rfl) | ((intro wx hC; first | (go_at_call 32; exact Calls.lays (C1 _).out (fun _ => hC.next)) | (go_at_call 23; exact Calls.lays (I1 _).out (fun _ => hC.next)) | ((have qk9 := Lay.cells hC; simp only [List.forall_mem_cons, List.not_mem_nil, false_implies, implies_true, and_true] at qk9; repeat (obtain ⟨qk8, qk9⟩ := qk9)); go_simp; first | done | rfl)))); clear qH9 qK9)))
  refine wpQuiet_nil ?_
  intro wy hT
  have e1 : x * b - y * a = -(a * y - b * x) := by grind
  have e2 : x * a + y * b = a * x + b * y := by grind
  have e3 : a * b - b * a = 0 := by grind
  rw [e1] at C2
  rw [e2] at I2
  rw [e3] at C3
  have e4 := lag a b x y
  have t1 := tw_mul Ba By
  have t2 := tw_mul Bb Bx
  have t3 := tw_mul Ba Bx
  have t4 := tw_mul Bb By
  have t5 := tw_mul Ba Ba
  have t6 := tw_mul Bb Bb
  have t7 := tw_mul Bx Bx
  have t8 := tw_mul By By
  have bX : -800000000 ≤ a * y - b * x ∧ a * y - b * x ≤ 800000000 := by omega
  have bI : -800000000 ≤ a * x + b * y ∧ a * x + b * y ≤ 800000000 := by omega
  have s5 := sqnn a
  have s6 := sqnn b
  have s7 := sqnn x
  have s8 := sqnn y
  have bA : -800000000 ≤ a * a + b * b ∧ a * a + b * b ≤ 800000000 := by omega
  have bB : -800000000 ≤ x * x + y * y ∧ x * x + y * y ≤ 800000000 := by omega
  have u1 := mul_bd bX.1 bX.2 bX.1 bX.2
  have u2 := mul_bd bI.1 bI.2 bI.1 bI.2
  have u3 := mul_bd bA.1 bA.2 bB.1 bB.2
  generalize a * y - b * x = X at *
  generalize a * x + b * y = I at *
  generalize hP : a * a = P at *
  generalize hQ : b * b = Q at *
  generalize hR : x * x = R at *
  generalize hS : y * y = S at *
  generalize hXX : X * X = XX at *
  generalize hII : I * I = II at *
  generalize hPP : (P + Q) * (R + S) = PP at *
  clear t1 t2 t3 t4 e1 e2 e3
  (have qk9 := Lay.cells hT; simp only [List.forall_mem_cons, List.not_mem_nil, false_implies, implies_true, and_true] at qk9; repeat (obtain ⟨qk8, qk9⟩ := qk9))
  go_wp2_with fail
  refine (awake_any _).mono ?_
  rintro e w1 ⟨rfl, hb1⟩
  have hT := hT.next hb1
  (have qk9 := Lay.cells hT; simp only [List.forall_mem_cons, List.not_mem_nil, false_implies, implies_true, and_true] at qk9; repeat (obtain ⟨qk8, qk9⟩ := qk9))
  go_wp2_with fail
  refine (C2 _).out.mono ?_
  rintro e w2 ⟨rfl, hb2⟩
  have hT := hT.next hb2
  (have qk9 := Lay.cells hT; simp only [List.forall_mem_cons, List.not_mem_nil, false_implies, implies_true, and_true] at qk9; repeat (obtain ⟨qk8, qk9⟩ := qk9))
  go_wp2_with fail
  refine (I2 _).out.mono ?_
  rintro e w3 ⟨rfl, hb3⟩
  have hT := hT.next hb3
  (have qk9 := Lay.cells hT; simp only [List.forall_mem_cons, List.not_mem_nil, false_implies, implies_true, and_true] at qk9; repeat (obtain ⟨qk8, qk9⟩ := qk9))
  go_wp2_with fail
  refine (C3 _).out.mono ?_
  rintro e w4 ⟨rfl, hb4⟩
  have hT := hT.next hb4
  (have qk9 := Lay.cells hT; simp only [List.forall_mem_cons, List.not_mem_nil, false_implies, implies_true, and_true] at qk9; repeat (obtain ⟨qk8, qk9⟩ := qk9))
  go_wp2_with fail
  go_ret
  exact ⟨rfl, hT.be⟩
end Go.Proofs.Ytlblodiamcnnpaa
