/- Proved here: CurveLength returns true for every argument; no conditions but that integers are ints. -/
import Derived.Test.YtiolnpkieooceaaKc1
namespace Go.Proofs.Ytiolnpkieooceaa
open Go.RowKit
set_option linter.unusedVariables false
set_option linter.unusedSimpArgs false
theorem len_facts (D : Int) (h0 : 0 ≤ D) (h1 : D ≤ 13510798882111488) : ∃ n : Nat, sqV D 1 = n ∧ n ≤ 134217728 ∧ D ≤ (n : Int) * n ∧ (n = 0 ∨ ((n : Int) - 1) * (n - 1) < D) := by
  obtain ⟨d, rfl⟩ := Int.eq_ofNat_of_zero_le h0
  have s := rtN_spec d (by omega)
  have hr : rootN d 1 = rtN d + (if 0 < d - rtN d * rtN d then 1 else 0) := by
    unfold rootN upI
    by_cases h : 0 < d - rtN d * rtN d
    · rw [decide_eq_true h, if_pos h]; rfl
    · rw [decide_eq_false h, if_neg h]; rfl
  have hb : rtN d ≤ 116237000 := by
    refine Nat.le_of_not_lt fun hc => ?_
    have := sq_mono (show 116237001 ≤ rtN d from hc)
    omega
  have hg : sqG (d : Int) 1 = true := decide_eq_true ⟨h0, by decide, by decide⟩
  have hv : sqV (d : Int) 1 = (rootN d 1 : Nat) := by
    unfold sqV sgV
    rw [hg, if_pos rfl, if_neg (by decide), Int.toNat_natCast, if_pos (by rw [hr]; split <;> omega)]
  refine ⟨rootN d 1, hv, by rw [hr]; split <;> omega, ?_⟩
  rw [hr]
  generalize rtN d = t at *
  have e1 : (t + 1) * (t + 1) = t * t + 2 * t + 1 := by grind
  split
  · refine ⟨?_, Or.inr ?_⟩
    · have : (((t + 1 : Nat) : Int)) * ((t + 1 : Nat) : Int) = (((t + 1) * (t + 1) : Nat) : Int) := by rw [Int.natCast_mul]
      rw [this]; omega
    · have e2 : (((t + 1 : Nat) : Int) - 1) * (((t + 1 : Nat) : Int) - 1) = ((t * t : Nat) : Int) := by rw [Int.natCast_add, Int.natCast_one, Int.add_sub_cancel, Int.natCast_mul]
      rw [e2]; omega
  · rw [Nat.add_zero]
    have e3 : (t : Int) * t = ((t * t : Nat) : Int) := by rw [Int.natCast_mul]
    refine ⟨by rw [e3]; omega, ?_⟩
    rcases t with _ | t
    · exact Or.inl rfl
    · right
      have e2 : (((t + 1 : Nat) : Int) - 1) * (((t + 1 : Nat) : Int) - 1) = ((t * t : Nat) : Int) := by rw [Int.natCast_add, Int.natCast_one, Int.add_sub_cancel, Int.natCast_mul]
      have e4 : (t + 1) * (t + 1) = t * t + 2 * t + 1 := by grind
      rw [e2]; omega
set_option maxHeartbeats 4000000 in
set_option maxRecDepth 20000 in
theorem law_length (a0 a1 a2 b0 b1 b2 : Int) (w : World) (la0 : -9223372036854775808 ≤ a0) (ua0 : a0 ≤ 9223372036854775807) (la1 : -9223372036854775808 ≤ a1) (ua1 : a1 ≤ 9223372036854775807) (la2 : -9223372036854775808 ≤ a2) (ua2 : a2 ≤ 9223372036854775807) (lb0 : -9223372036854775808 ≤ b0) (ub0 : b0 ≤ 9223372036854775807) (lb1 : -9223372036854775808 ≤ b1) (ub1 : b1 ≤ 9223372036854775807) (lb2 : -9223372036854775808 ≤ b2) (ub2 : b2 ≤ 9223372036854775807) :
    Calls Try.prog 3 #[.agg #[.int .i64 a0, .int .i64 a1, .int .i64 a2], .agg #[.int .i64 b0, .int .i64 b1, .int .i64 b2]] w fun e w' => e = .returned (.bool true) ∧ Below w.heap.size w w' := by
  have S0 := fun w => Lib.hid (Small_any a0 a1 a2 w)
  have S1 := fun w => Lib.hid (Small_any b0 b1 b2 w)
  cases hA : smB 33554432 a0 a1 a2
  · rw [hA] at S0
    clear hA
    go_enter Try.func3, Try.ntmps3
    go_wp2_with fail
    refine (awake_any _).mono ?_
    rintro e w1 ⟨rfl, hb1⟩
    have hT : Lay w.heap.size (w.heap.size + 2) [(⟨w.heap.size, 0, none⟩, .int .i64 a0), (⟨w.heap.size, 1, none⟩, .int .i64 a1), (⟨w.heap.size, 2, none⟩, .int .i64 a2), (⟨w.heap.size + 1, 0, none⟩, .int .i64 b0), (⟨w.heap.size + 1, 1, none⟩, .int .i64 b1), (⟨w.heap.size + 1, 2, none⟩, .int .i64 b2)] w w1 := by
      refine Lay.next (w := (w.alloc (.cells #[.int .i64 a0, .int .i64 a1, .int .i64 a2] 23)).alloc (.cells #[.int .i64 b0, .int .i64 b1, .int .i64 b2] 23)) ?_ hb1
      (refine ⟨by simp [List.forall_mem_cons, go_sem], by simp [List.forall_mem_cons] <;> omega, by simp, by (repeat (first | exact Below.refl _ _ | assumption | refine Below.drew ?_ | (refine Below.alloc ?_ (by simp <;> omega) _) | (refine Below.setCell ?_ (by simp <;> omega) _))), by omega⟩)
    clear hb1
    (have qk9 := Lay.cells hT; simp only [List.forall_mem_cons, List.not_mem_nil, false_implies, implies_true, and_true] at qk9; repeat (obtain ⟨qk8, qk9⟩ := qk9))
    go_wp2_with fail
    refine (S0 _).out.mono ?_
    rintro e w2 ⟨rfl, hb2⟩
    have hT := hT.next hb2
    clear hb2
    (have qk9 := Lay.cells hT; simp only [List.forall_mem_cons, List.not_mem_nil, false_implies, implies_true, and_true] at qk9; repeat (obtain ⟨qk8, qk9⟩ := qk9))
    go_wp2_with fail
    go_ret
    exact ⟨rfl, hT.be⟩
  rw [hA] at S0
  cases hB : smB 33554432 b0 b1 b2
  · rw [hB] at S1
    clear hA hB
    go_enter Try.func3, Try.ntmps3
    go_wp2_with fail
    refine (awake_any _).mono ?_
    rintro e w1 ⟨rfl, hb1⟩
    have hT : Lay w.heap.size (w.heap.size + 2) [(⟨w.heap.size, 0, none⟩, .int .i64 a0), (⟨w.heap.size, 1, none⟩, .int .i64 a1), (⟨w.heap.size, 2, none⟩, .int .i64 a2), (⟨w.heap.size + 1, 0, none⟩, .int .i64 b0), (⟨w.heap.size + 1, 1, none⟩, .int .i64 b1), (⟨w.heap.size + 1, 2, none⟩, .int .i64 b2)] w w1 := by
      refine Lay.next (w := (w.alloc (.cells #[.int .i64 a0, .int .i64 a1, .int .i64 a2] 23)).alloc (.cells #[.int .i64 b0, .int .i64 b1, .int .i64 b2] 23)) ?_ hb1
      (refine ⟨by simp [List.forall_mem_cons, go_sem], by simp [List.forall_mem_cons] <;> omega, by simp, by (repeat (first | exact Below.refl _ _ | assumption | refine Below.drew ?_ | (refine Below.alloc ?_ (by simp <;> omega) _) | (refine Below.setCell ?_ (by simp <;> omega) _))), by omega⟩)
    clear hb1
    (have qk9 := Lay.cells hT; simp only [List.forall_mem_cons, List.not_mem_nil, false_implies, implies_true, and_true] at qk9; repeat (obtain ⟨qk8, qk9⟩ := qk9))
    go_wp2_with fail
    refine (S0 _).out.mono ?_
    rintro e w2 ⟨rfl, hb2⟩
    have hT := hT.next hb2
    clear hb2
    (have qk9 := Lay.cells hT; simp only [List.forall_mem_cons, List.not_mem_nil, false_implies, implies_true, and_true] at qk9; repeat (obtain ⟨qk8, qk9⟩ := qk9))
    go_wp2_with fail
    refine (S1 _).out.mono ?_
    rintro e w3 ⟨rfl, hb3⟩
    have hT := hT.next hb3
    clear hb3
    (have qk9 := Lay.cells hT; simp only [List.forall_mem_cons, List.not_mem_nil, false_implies, implies_true, and_true] at qk9; repeat (obtain ⟨qk8, qk9⟩ := qk9))
    go_wp2_with fail
    go_ret
    exact ⟨rfl, hT.be⟩
  · rw [hB] at S1
    obtain ⟨⟨x0, y0⟩, ⟨x1, y1⟩, x2, y2⟩ := smB_iff.1 hA
    obtain ⟨⟨z0, t0⟩, ⟨z1, t1⟩, z2, t2⟩ := smB_iff.1 hB
    have q0 := sq_bdK (x := a0 - b0) (by omega) (by omega)
    have q1 := sq_bdK (x := a1 - b1) (by omega) (by omega)
    have q2 := sq_bdK (x := a2 - b2) (by omega) (by omega)
    have LE := fun w => Lib.hid (length_any a0 a1 a2 b0 b1 b2 w (by omega) (by omega) (by omega))
    have SQ := fun w => Lib.hid (square_any a0 a1 a2 b0 b1 b2 w (by omega) (by omega) (by omega))
    have hD0 : 0 ≤ sqD a0 a1 a2 b0 b1 b2 := by unfold sqD; omega
    have hD1 : sqD a0 a1 a2 b0 b1 b2 ≤ 13510798882111488 := by unfold sqD; omega
    obtain ⟨n, hn, n1, n2, n3⟩ := len_facts _ hD0 hD1
    rw [hn] at LE
    clear hn hA hB x0 y0 x1 y1 x2 y2 z0 t0 z1 t1 z2 t2 q0 q1 q2 la0 ua0 la1 ua1 la2 ua2 lb0 ub0 lb1 ub1 lb2 ub2
    generalize sqD a0 a1 a2 b0 b1 b2 = D at *
    have M1 := Nat.mul_le_mul n1 n1
    have N1 : (n : Int) ≤ 134217728 := by omega
    have m1 : (n : Int) * n ≤ 18014398509481984 := by
      have : (n : Int) * n = ((n * n : Nat) : Int) := by rw [Int.natCast_mul]
      omega
    have m0 : 0 ≤ (n : Int) * n := by omega
    have HD0 := Lib.hid hD0
    have HD1 := Lib.hid hD1
    have HN2 := Lib.hid n2
    have HM0 := Lib.hid m0
    have HM1 := Lib.hid m1
    clear hD0 hD1 m0 m1 M1 n1 n2
    have HN3 := Lib.hid n3
    clear n3
    go_enter Try.func3, Try.ntmps3
    go_wp2_with fail
    refine (awake_any _).mono ?_
    rintro e w1 ⟨rfl, hb1⟩
    have hT : Lay w.heap.size (w.heap.size + 2) [(⟨w.heap.size, 0, none⟩, .int .i64 a0), (⟨w.heap.size, 1, none⟩, .int .i64 a1), (⟨w.heap.size, 2, none⟩, .int .i64 a2), (⟨w.heap.size + 1, 0, none⟩, .int .i64 b0), (⟨w.heap.size + 1, 1, none⟩, .int .i64 b1), (⟨w.heap.size + 1, 2, none⟩, .int .i64 b2)] w w1 := by
      refine Lay.next (w := (w.alloc (.cells #[.int .i64 a0, .int .i64 a1, .int .i64 a2] 23)).alloc (.cells #[.int .i64 b0, .int .i64 b1, .int .i64 b2] 23)) ?_ hb1
      (refine ⟨by simp [List.forall_mem_cons, go_sem], by simp [List.forall_mem_cons] <;> omega, by simp, by (repeat (first | exact Below.refl _ _ | assumption | refine Below.drew ?_ | (refine Below.alloc ?_ (by simp <;> omega) _) | (refine Below.setCell ?_ (by simp <;> omega) _))), by omega⟩)
    clear hb1
    (have qk9 := Lay.cells hT; simp only [List.forall_mem_cons, List.not_mem_nil, false_implies, implies_true, and_true] at qk9; repeat (obtain ⟨qk8, qk9⟩ := qk9))
    go_wp2_with fail
    refine (S0 _).out.mono ?_
    rintro e w2 ⟨rfl, hb2⟩
    have hT := hT.next hb2
    clear hb2
    (have qk9 := Lay.cells hT; simp only [List.forall_mem_cons, List.not_mem_nil, false_implies, implies_true, and_true] at qk9; repeat (obtain ⟨qk8, qk9⟩ := qk9))
    go_wp2_with fail
    refine (S1 _).out.mono ?_
    rintro e w3 ⟨rfl, hb3⟩
    have hT := hT.next hb3
    clear hb3
    (have qk9 := Lay.cells hT; simp only [List.forall_mem_cons, List.not_mem_nil, false_implies, implies_true, and_true] at qk9; repeat (obtain ⟨qk8, qk9⟩ := qk9))
    go_upto_region 5 with fail
    (refine wp_region_class (Lay w.heap.size (w.heap.size + 2) _ w) (hT.next (Below.refl _ _).drew) (by kernel_rfl) (by kernel_rfl) ?_; repeat (refine wpQuiet_step (fun qK9 qH9 => ?_); go_simp; first | (refine qH9 _ ?_; clear qH9 qK9) | (apply Exists.intro; refine ⟨?_, qH9 _ ?_⟩; (first | (intros; rfl) | (first | (intro wx hC; ((have qk9 := Lay.cells hC; simp only [List.forall_mem_cons, List.not_mem_nil, false_implies, implies_true, and_true] at qk9; repeat (obtain ⟨qk8, qk9⟩ := qk9)); go_simp; first | done | rfl)) | (intro wx hC; exact Calls.lays (LE wx).out (fun _ => hC.next)) | (intro wx hC; exact Calls.lays (SQ wx).out (fun _ => hC.next)))); clear qH9 qK9)))
    refine wpQuiet_nil ?_
    intro wy hT
    have n2 := HN2.out
    have m0 := HM0.out
    have m1 := HM1.out
    by_cases hz : n = 0
    · subst hz
      have hz2 : D ≤ 0 := by simpa using n2
      clear n2 m0 m1 HN2 HM0 HM1 HN3
      go_wp2_with fail
      go_ret
      exact ⟨rfl, hT.be⟩
    · have g : ((n : Int) - 1) * (n - 1) < D := by rcases HN3.out with h | h; exact absurd h hz; exact h
      have hz3 : ((n : Int) == 0) = false := by simp; omega
      have g0 : 0 ≤ ((n : Int) - 1) * (n - 1) := by
        have : 0 ≤ (n : Int) - 1 := by omega
        exact Int.mul_nonneg this this
      have hD1 := HD1.out
      clear HN3 hz
      go_wp2_with fail
      go_ret
      exact ⟨rfl, hT.be⟩
end Go.Proofs.Ytiolnpkieooceaa
