/- Proved here: VecSums returns true for every argument; no conditions but that integers are ints. -/
import Derived.Test.YtlblodiamcnnpaaVw4
import Derived.Test.YtlblodiamcnnpaaUwL
namespace Go.Proofs.Ytlblodiamcnnpaa
open Go.RowKit
set_option linter.unusedVariables false
set_option linter.unusedSimpArgs false
theorem Sm.bd {x : Int} (h : Sm x) : -8388608 ≤ x ∧ x ≤ 8388608 := h
def vcells (n : Nat) (a b c : Int) : List (Addr × Value) := [(⟨n, 0, none⟩, .int .i64 a), (⟨n, 1, none⟩, .int .i64 b), (⟨n, 2, none⟩, .int .i64 c)]
set_option maxHeartbeats 1000000 in
theorem law_sums (a b c x y z : Int) (w : World) (h1 : -9223372036854775808 ≤ a) (h2 : a ≤ 9223372036854775807) (h3 : -9223372036854775808 ≤ b) (h4 : b ≤ 9223372036854775807) (h5 : -9223372036854775808 ≤ c) (h6 : c ≤ 9223372036854775807) (g1 : -9223372036854775808 ≤ x) (g2 : x ≤ 9223372036854775807) (g3 : -9223372036854775808 ≤ y) (g4 : y ≤ 9223372036854775807) (g5 : -9223372036854775808 ≤ z) (g6 : z ≤ 9223372036854775807) :
    Calls Try.prog 7 #[.agg #[.int .i64 a, .int .i64 b, .int .i64 c], .agg #[.int .i64 x, .int .i64 y, .int .i64 z]] w fun e w' => e = .returned (.bool true) ∧ Below w.heap.size w w' := by
  have P1 := fun w => Lib.hid (vector_ex a b c w h1 h2 h3 h4 h5 h6)
  have P2 := fun w => Lib.hid (vector_ex x y z w g1 g2 g3 g4 g5 g6)
  have S1 := smI_Sm a
  have S2 := smI_Sm b
  have S3 := smI_Sm c
  have S4 := smI_Sm x
  have S5 := smI_Sm y
  have S6 := smI_Sm z
  go_enter Try.func7, Try.ntmps7
  go_wp2_with fail
  go_cut [5] (fun s wx => s = .agg #[.int .i64 a, .int .i64 b, .int .i64 c] ∧ Lay w.heap.size (w.heap.size + 2) (vcells w.heap.size (smI a) (smI b) (smI c) ++ vcells (w.heap.size + 1) (smI x) (smI y) (smI z)) w wx)
  case first =>
    go_region_with (first
      | (go_at_call_of 14 a; refine (P1 _).out.mono ?_; rintro e w2 ⟨rfl, rfl⟩)
      | (go_at_call_of 14 x; refine (P2 _).out.mono ?_; rintro e w3 ⟨rfl, rfl⟩))
    all_goals
      go_wp2_with fail
      go_meet
      refine ⟨rfl, ?_⟩
      unfold vcells
      (refine ⟨by simp [List.forall_mem_cons, go_sem], by simp [List.forall_mem_cons] <;> omega, by simp, by (repeat (first | exact Below.refl _ _ | assumption | refine Below.drew ?_ | (refine Below.alloc ?_ (by simp <;> omega) _) | (refine Below.setCell ?_ (by simp <;> omega) _))), by omega⟩)
  case rest =>
    obtain ⟨rfl, hT⟩ := hcut
    unfold vcells at hT
    simp only [List.cons_append, List.nil_append] at hT
    obtain ⟨a, ha⟩ : ∃ r, smI a = r := ⟨_, rfl⟩
    obtain ⟨b, hb⟩ : ∃ r, smI b = r := ⟨_, rfl⟩
    obtain ⟨c, hc⟩ : ∃ r, smI c = r := ⟨_, rfl⟩
    obtain ⟨x, hx⟩ : ∃ r, smI x = r := ⟨_, rfl⟩
    obtain ⟨y, hy⟩ : ∃ r, smI y = r := ⟨_, rfl⟩
    obtain ⟨z, hz⟩ : ∃ r, smI z = r := ⟨_, rfl⟩
    rw [ha] at hT S1
    rw [hb] at hT S2
    rw [hc] at hT S3
    rw [hx] at hT S4
    rw [hy] at hT S5
    rw [hz] at hT S6
    obtain ⟨u1, u2⟩ := S1.bd
    obtain ⟨u3, u4⟩ := S2.bd
    obtain ⟨u5, u6⟩ := S3.bd
    obtain ⟨v1, v2⟩ := S4.bd
    obtain ⟨v3, v4⟩ := S5.bd
    obtain ⟨v5, v6⟩ := S6.bd
    have A1 := fun w => Lib.hid (addP_any a b c x y z w (by omega) (by omega) (by omega) (by omega) (by omega) (by omega))
    have A2 := fun w => Lib.hid (addR_any a b c x y z w (by omega) (by omega) (by omega) (by omega) (by omega) (by omega))
    have A3 := fun w => Lib.hid (subP_any a b c x y z w (by omega) (by omega) (by omega) (by omega) (by omega) (by omega))
    have A4 := fun w => Lib.hid (subR_any a b c x y z w (by omega) (by omega) (by omega) (by omega) (by omega) (by omega))
    go_wp2_with fail
    (refine wp_region_class (Lay w.heap.size (w.heap.size + 2) _ w) (hT.next (Below.refl _ _).drew) (by kernel_rfl) (by kernel_rfl) ?_; repeat (refine wpQuiet_step (fun qK9 qH9 => ?_); go_simp; first | (refine qH9 _ ?_; clear qH9 qK9) | (apply Exists.intro; refine ⟨?_, qH9 _ ?_⟩; (first | (intros; rfl) | ((intro wx hC; first | (go_at_call 18; exact Calls.lays (awake_any _) (fun _ => hC.next)) | (go_at_call 20; exact Calls.lays (A1 _).out (fun _ => hC.next)) | (go_at_call 27; exact Calls.lays (A2 _).out (fun _ => hC.next)) | (go_at_call 28; exact Calls.lays (A3 _).out (fun _ => hC.next)) | (go_at_call 29; exact Calls.lays (A4 _).out (fun _ => hC.next)) | (go_at_call 22; exact Calls.lays (dotP_any _ _ _ _ _ _ _ S1 S2 S3 S4 S5 S6) (fun _ => hC.next)) | (go_at_call 30; exact Calls.lays (dotR_any _ _ _ _ _ _ _ S1 S2 S3 S4 S5 S6) (fun _ => hC.next)) | ((have qk9 := Lay.cells hC; simp only [List.forall_mem_cons, List.not_mem_nil, false_implies, implies_true, and_true] at qk9; repeat (obtain ⟨qk8, qk9⟩ := qk9)); go_simp; first | done | rfl)))); clear qH9 qK9)))
    refine wpQuiet_nil ?_
    intro wy hC
    go_wp2_with fail
    go_ret
    exact ⟨rfl, hC.be⟩
end Go.Proofs.Ytlblodiamcnnpaa
