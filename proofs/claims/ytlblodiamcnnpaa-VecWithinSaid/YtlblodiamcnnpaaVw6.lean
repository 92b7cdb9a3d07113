/- Proved here: VecWithin and VecGroup return true for every argument; no conditions but that integers are ints. -/
import Derived.Test.YtlblodiamcnnpaaVw5
import Derived.Deep.RegionHeld3
namespace Go.Proofs.Ytlblodiamcnnpaa
open Go.RowKit
set_option linter.unusedVariables false
set_option linter.unusedSimpArgs false
theorem between_st (v lo hi : Int) (w : World) (ha : -9223372036854775808 ≤ v) (ha2 : v ≤ 9223372036854775807) (hlo : -4611686018427387904 ≤ lo) (hlh : lo ≤ hi) (hhi : hi ≤ 4611686018427387904) (hd : hi - lo ≤ 9223372036854775806) :
    Calls Try.prog 24 #[.int .i64 v, .int .i64 lo, .int .i64 hi] w fun e w' => e = .returned (.int .i64 (lo + v % (hi - lo + 1))) ∧ w' = w := (between_any v lo hi w ha ha2 hlo hlh hhi hd).mono fun e w' ⟨he, hw⟩ => ⟨he, hw.symm⟩
theorem mod_st (a b : Int) (w : World) (ha : -9223372036854775808 ≤ a) (ha2 : a ≤ 9223372036854775807) (hb : 0 < b) (hb2 : b ≤ 9223372036854775807) :
    Calls Try.prog 17 #[.int .i64 a, .int .i64 b] w fun e w' => e = .returned (.int .i64 (a % b)) ∧ w' = w := (mod_any a b w ha ha2 hb hb2).mono fun e w' ⟨he, hw⟩ => ⟨he, hw.symm⟩
theorem wi_yes : wiI 1048576 (-1048576) 0 = true := by decide
theorem wi_no : wiI 0 0 (-1048577) = false := by decide
set_option maxHeartbeats 2000000 in
theorem law_within (x y z d : Int) (w : World) (lx : -9223372036854775808 ≤ x) (hx : x ≤ 9223372036854775807) (ly : -9223372036854775808 ≤ y) (hy : y ≤ 9223372036854775807) (lz : -9223372036854775808 ≤ z) (hz : z ≤ 9223372036854775807) (ld : -9223372036854775808 ≤ d) (hd : d ≤ 9223372036854775807) :
    Calls Try.prog 6 #[.agg #[.int .i64 x, .int .i64 y, .int .i64 z], .int .i64 d] w fun e w' => e = .returned (.bool true) ∧ Below w.heap.size w w' := by
  have W1 := fun w => Lib.hid (within_any 1048576 (-1048576) 0 w)
  have W2 := fun w => Lib.hid (within_any 0 0 (-1048577) w)
  rw [wi_yes] at W1
  rw [wi_no] at W2
  go_enter Try.func6, Try.ntmps6
  go_wp2_with fail
  go_cut [5] (fun s wx => s = .pointer (some ⟨w.heap.size + 1, 0, none⟩) ∧ Lay w.heap.size (w.heap.size + 2) (vcells w.heap.size x y z ++ vcells (w.heap.size + 1) (-1048577 + x % 2097155) (-1048576 + d % 2097153) (z % 3)) w wx)
  case first =>
    go_region_held3 (fun w' => w'.cell? ⟨w.heap.size, 0, none⟩ = some (.int .i64 x) ∧ w'.cell? ⟨w.heap.size, 2, none⟩ = some (.int .i64 z)) (go_keep) (first
      | (go_at_call_of 24 x; refine (between_any _ _ _ _ (by assumption) (by assumption) (by omega) (by omega) (by omega) (by omega)).mono ?_; rintro e w2 ⟨rfl, rfl⟩)
      | (go_at_call_of 24 d; refine (between_any _ _ _ _ (by assumption) (by assumption) (by omega) (by omega) (by omega) (by omega)).mono ?_; rintro e w2 ⟨rfl, rfl⟩)
      | (go_at_call 17; refine (mod_any _ _ _ (by assumption) (by assumption) (by omega) (by omega)).mono ?_; rintro e w2 ⟨rfl, rfl⟩))
    all_goals
      go_wp2_with fail
      go_meet
      refine ⟨rfl, ?_⟩
      unfold vcells
      (refine ⟨by simp [List.forall_mem_cons, go_sem], by simp [List.forall_mem_cons] <;> omega, by simp, by (repeat (first | exact Below.refl _ _ | assumption | refine Below.drew ?_ | (refine Below.alloc ?_ (by simp <;> omega) _) | (refine Below.setCell ?_ (by simp <;> omega) _))), by omega⟩)
  case rest =>
    obtain ⟨rfl, hT⟩ := hcut
    unfold vcells at hT
    simp only [List.cons_append, List.nil_append] at hT
    obtain ⟨p, hp⟩ : ∃ p, -1048577 + x % 2097155 = p := ⟨_, rfl⟩
    obtain ⟨q, hq⟩ : ∃ p, -1048576 + d % 2097153 = p := ⟨_, rfl⟩
    obtain ⟨r, hr⟩ : ∃ p, z % 3 = p := ⟨_, rfl⟩
    rw [hp, hq, hr] at hT
    clear hp hq hr
    go_wp2_with fail
    (refine wp_region_class (Lay w.heap.size (w.heap.size + 2) _ w) (hT.next (Below.refl _ _).drew) (by kernel_rfl) (by kernel_rfl) ?_; repeat (refine wpQuiet_step (fun qK9 qH9 => ?_); go_simp; first | (refine qH9 _ ?_; clear qH9 qK9) | (apply Exists.intro; refine ⟨?_, qH9 _ ?_⟩; (first | (intros; rfl) | ((intro wx hC; first | (go_at_call 18; exact Calls.lays (awake_any _) (fun _ => hC.next)) | (go_at_call_of 25 (1048576 : Int); exact Calls.lays (W1 _).out (fun _ => hC.next)) | (go_at_call_of 25 (-1048577 : Int); exact Calls.lays (W2 _).out (fun _ => hC.next)) | (go_at_call 25; exact Calls.lays (within_any _ _ _ _) (fun _ => hC.next)) | (go_at_call 26; exact Calls.lays (withinR_any _ _ _ _) (fun _ => hC.next)) | ((have qk9 := Lay.cells hC; simp only [List.forall_mem_cons, List.not_mem_nil, false_implies, implies_true, and_true] at qk9; repeat (obtain ⟨qk8, qk9⟩ := qk9)); go_simp; first | done | rfl)))); clear qH9 qK9)))
    refine wpQuiet_nil ?_
    intro wy hC
    go_wp2_with fail
    go_ret
    exact ⟨rfl, hC.be⟩
end Go.Proofs.Ytlblodiamcnnpaa
