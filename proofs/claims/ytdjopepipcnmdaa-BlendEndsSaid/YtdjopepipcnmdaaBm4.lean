/- Proved here: BlendEnds returns true for every argument; no conditions but that integers are ints. -/
import Derived.Test.YtdjopepipcnmdaaBn1
import Derived.Test.YtdjopepipcnmdaaBm1
namespace Go.Proofs.Ytdjopepipcnmdaa
open Go.RowKit
set_option linter.unusedVariables false
set_option linter.unusedSimpArgs false
set_option maxHeartbeats 8000000 in
set_option maxRecDepth 20000 in
theorem law_BlendEnds (a0 a1 a2 c0 c1 c2 b0 b1 b2 tol : Int) (w : World) (la0 : -9223372036854775808 ≤ a0) (ua0 : a0 ≤ 9223372036854775807) (la1 : -9223372036854775808 ≤ a1) (ua1 : a1 ≤ 9223372036854775807) (la2 : -9223372036854775808 ≤ a2) (ua2 : a2 ≤ 9223372036854775807) (lc0 : -9223372036854775808 ≤ c0) (uc0 : c0 ≤ 9223372036854775807) (lc1 : -9223372036854775808 ≤ c1) (uc1 : c1 ≤ 9223372036854775807) (lc2 : -9223372036854775808 ≤ c2) (uc2 : c2 ≤ 9223372036854775807) (lb0 : -9223372036854775808 ≤ b0) (ub0 : b0 ≤ 9223372036854775807) (lb1 : -9223372036854775808 ≤ b1) (ub1 : b1 ≤ 9223372036854775807) (lb2 : -9223372036854775808 ≤ b2) (ub2 : b2 ≤ 9223372036854775807) (ltol : -9223372036854775808 ≤ tol) (utol : tol ≤ 9223372036854775807) :
    Calls Try.prog 7 #[.agg #[.int .i64 a0, .int .i64 a1, .int .i64 a2], .agg #[.int .i64 c0, .int .i64 c1, .int .i64 c2], .agg #[.int .i64 b0, .int .i64 b1, .int .i64 b2], .int .i64 tol] w fun e w' => e = .returned (.bool true) ∧ Below w.heap.size w w' := by
  have S0 := fun w => Lib.hid (small3_any a0 a1 a2 c0 c1 c2 b0 b1 b2 tol w)
  clear la0 ua0 la1 ua1 la2 ua2 lc0 uc0 lc1 uc1 lc2 uc2 lb0 ub0 lb1 ub1 lb2 ub2 ltol utol
  have hT0 : Lf w.heap.size (w.heap.size + 1 + 1 + 1) [(⟨w.heap.size, 0, none⟩, .int .i64 a0), (⟨w.heap.size, 1, none⟩, .int .i64 a1), (⟨w.heap.size, 2, none⟩, .int .i64 a2), (⟨w.heap.size + 1, 0, none⟩, .int .i64 c0), (⟨w.heap.size + 1, 1, none⟩, .int .i64 c1), (⟨w.heap.size + 1, 2, none⟩, .int .i64 c2), (⟨w.heap.size + 1 + 1, 0, none⟩, .int .i64 b0), (⟨w.heap.size + 1 + 1, 1, none⟩, .int .i64 b1), (⟨w.heap.size + 1 + 1, 2, none⟩, .int .i64 b2)] w (((w.alloc (.cells #[.int .i64 a0, .int .i64 a1, .int .i64 a2] 23)).alloc (.cells #[.int .i64 c0, .int .i64 c1, .int .i64 c2] 23)).alloc (.cells #[.int .i64 b0, .int .i64 b1, .int .i64 b2] 23)) := ⟨by simp [List.forall_mem_cons, go_sem], by simp [List.forall_mem_cons, go_sem], by simp [List.forall_mem_cons] <;> omega, by simp, by (repeat (first | exact Below.refl _ _ | assumption | refine Below.drew ?_ | (refine Below.alloc ?_ (by simp <;> omega) _) | (refine Below.setCell ?_ (by simp <;> omega) _))), by omega⟩
  cases hA : smK a0 a1 a2 c0 c1 c2 b0 b1 b2 tol
  · rw [hA] at S0
    clear hA
    go_enter Try.func7, Try.ntmps7
    go_wp2_with fail
    refine (awake_any _).mono ?_
    rintro e w1 ⟨rfl, hb1⟩
    have hT := hT0.next hb1
    clear hb1
    have kc := hT.cells
    have kf := hT.frz
    simp only [List.forall_mem_cons, List.not_mem_nil, false_implies, implies_true, and_true] at kc kf
    obtain ⟨yc0, yc1, yc2, yc3, yc4, yc5, yc6, yc7, yc8⟩ := kc
    obtain ⟨yf0, yf1, yf2, yf3, yf4, yf5, yf6, yf7, yf8⟩ := kf
    go_wp2_with fail
    refine (S0 _).out.mono ?_
    rintro e w2 ⟨rfl, hb2⟩
    have hT := hT.next hb2
    go_wp2_with fail
    go_ret
    exact ⟨rfl, hT.be⟩
  rw [hA] at S0
  obtain ⟨ha, hc, hb, ht, ht2⟩ := smK_t hA
  clear hA
  obtain ⟨r, n, F, hrv, hcn, RP, CP, CR⟩ := corner_any a0 a1 a2 c0 c1 c2 b0 b1 b2 tol ha hc hb ht ht2
  clear CR
  rcases hcn.cut ha hc hb with ⟨rfl, rfl, hF⟩ | ⟨m, X0, X1, X2, Y0, Y1, Y2, hk⟩
  · obtain ⟨f0, f1, f2⟩ := hF 0
    have HF0 := Lib.hid f0
    have HF1 := Lib.hid f1
    have HF2 := Lib.hid f2
    clear hcn hrv ha hc hb ht ht2 f0 f1 f2 hF
    go_enter Try.func7, Try.ntmps7
    go_wp2_with fail
    refine (awake_any _).mono ?_
    rintro e w1 ⟨rfl, hb1⟩
    have hT := hT0.next hb1
    clear hb1 hT0
    have kc := hT.cells
    have kf := hT.frz
    simp only [List.forall_mem_cons, List.not_mem_nil, false_implies, implies_true, and_true] at kc kf
    obtain ⟨yc0, yc1, yc2, yc3, yc4, yc5, yc6, yc7, yc8⟩ := kc
    obtain ⟨yf0, yf1, yf2, yf3, yf4, yf5, yf6, yf7, yf8⟩ := kf
    go_wp2_with fail
    refine (S0 _).out.mono ?_
    rintro e w2 ⟨rfl, hb2⟩
    have hT := hT.next hb2
    clear hb2 yc0 yf0 yc1 yf1 yc2 yf2 yc3 yf3 yc4 yf4 yc5 yf5 yc6 yf6 yc7 yf7 yc8 yf8
    go_upto_region 5 with fail
    go_region_held3 (fun w' => w'.cell? ⟨w.heap.size, 0, none⟩ = some (.int .i64 a0) ∧ w'.cell? ⟨w.heap.size, 1, none⟩ = some (.int .i64 a1) ∧ w'.cell? ⟨w.heap.size, 2, none⟩ = some (.int .i64 a2) ∧ w'.cell? ⟨w.heap.size + 1, 0, none⟩ = some (.int .i64 c0) ∧ w'.cell? ⟨w.heap.size + 1, 1, none⟩ = some (.int .i64 c1) ∧ w'.cell? ⟨w.heap.size + 1, 2, none⟩ = some (.int .i64 c2) ∧ w'.cell? ⟨w.heap.size + 1 + 1, 0, none⟩ = some (.int .i64 b0) ∧ w'.cell? ⟨w.heap.size + 1 + 1, 1, none⟩ = some (.int .i64 b1) ∧ w'.cell? ⟨w.heap.size + 1 + 1, 2, none⟩ = some (.int .i64 b2) ∧ Lf w.heap.size (w.heap.size + 1 + 1 + 1) [(⟨w.heap.size, 0, none⟩, .int .i64 a0), (⟨w.heap.size, 1, none⟩, .int .i64 a1), (⟨w.heap.size, 2, none⟩, .int .i64 a2), (⟨w.heap.size + 1, 0, none⟩, .int .i64 c0), (⟨w.heap.size + 1, 1, none⟩, .int .i64 c1), (⟨w.heap.size + 1, 2, none⟩, .int .i64 c2), (⟨w.heap.size + 1 + 1, 0, none⟩, .int .i64 b0), (⟨w.heap.size + 1 + 1, 1, none⟩, .int .i64 b1), (⟨w.heap.size + 1 + 1, 2, none⟩, .int .i64 b2)] w w') (first | (refine S9 ?_; assumption) | (refine S9 (Lf.next ?_ (Below.drew (Below.refl _ _))); assumption)) (first
      | (go_at_call 23; (with_reducible refine (CP _).out.mono ?_); rintro e w5 ⟨g, cap5, rfl, hg5, hr5, hb5⟩; go_split_ands; have hL5 := Lf.next (by assumption) hb5)
      | (go_at_call 18; (with_reducible refine (RP _).out.mono ?_); rintro e w6 ⟨rfl, hb6⟩; go_split_ands; have hL6 := Lf.next (by assumption) hb6))
    have hT : Both (Lf w.heap.size (w.heap.size + 1 + 1 + 1) [(⟨w.heap.size, 0, none⟩, .int .i64 a0), (⟨w.heap.size, 1, none⟩, .int .i64 a1), (⟨w.heap.size, 2, none⟩, .int .i64 a2), (⟨w.heap.size + 1, 0, none⟩, .int .i64 c0), (⟨w.heap.size + 1, 1, none⟩, .int .i64 c1), (⟨w.heap.size + 1, 2, none⟩, .int .i64 c2), (⟨w.heap.size + 1 + 1, 0, none⟩, .int .i64 b0), (⟨w.heap.size + 1 + 1, 1, none⟩, .int .i64 b1), (⟨w.heap.size + 1 + 1, 2, none⟩, .int .i64 b2)] w) (Row g (3 * 1) (3 * 1) (fun j => .int .i64 (F (j / 3) (j % 3)))) w6 := ⟨hL6, hr5.next hb6⟩
    clear hr5 hb5 hb6 hL5 hL6 S0
    go_wp2_with fail
    (refine wp_region_class (Both (Lf w.heap.size (w.heap.size + 1 + 1 + 1) [(⟨w.heap.size, 0, none⟩, .int .i64 a0), (⟨w.heap.size, 1, none⟩, .int .i64 a1), (⟨w.heap.size, 2, none⟩, .int .i64 a2), (⟨w.heap.size + 1, 0, none⟩, .int .i64 c0), (⟨w.heap.size + 1, 1, none⟩, .int .i64 c1), (⟨w.heap.size + 1, 2, none⟩, .int .i64 c2), (⟨w.heap.size + 1 + 1, 0, none⟩, .int .i64 b0), (⟨w.heap.size + 1 + 1, 1, none⟩, .int .i64 b1), (⟨w.heap.size + 1 + 1, 2, none⟩, .int .i64 b2)] w) (Row g (3 * 1) (3 * 1) (fun j => .int .i64 (F (j / 3) (j % 3))))) ⟨hT.l.next (Below.refl _ _).drew, hT.r.next (Below.refl _ _).drew⟩ (by kernel_rfl) (by kernel_rfl) ?_; repeat (refine wpQuiet_step (fun qK9 qH9 => ?_); go_simp; first | (refine qH9 _ ?_; clear qH9 qK9) | (apply Exists.intro; refine ⟨?_, qH9 _ ?_⟩; (first | (intros; rfl) | ((intro wx hC; (obtain ⟨e0, e1, e2⟩ := hC.r.point (L := 1) (i := 0) (by decide)); (rw [HF0.out] at e0); (rw [HF1.out] at e1); (rw [HF2.out] at e2); (simp only [Nat.zero_mul, Nat.zero_add] at e0 e1 e2); ((have qk9 := ((hC.l)).cells; simp only [List.forall_mem_cons, List.not_mem_nil, false_implies, implies_true, and_true] at qk9; repeat (obtain ⟨qk8, qk9⟩ := qk9)); go_simp; first | done | rfl)))); clear qH9 qK9)))
    refine wpQuiet_nil ?_
    clear hT
    intro wy hC
    go_wp2_with fail
    go_ret
    exact ⟨rfl, hC.l.be⟩
  · have hr16 := hk.armA.d0
    have hr33 := hk.armA.d1
    have hn := hk.num
    have hlen := hk.len
    have TA : ∀ w, Hid (Calls Try.prog 14 #[.agg #[.int .i64 c0, .int .i64 c1, .int .i64 c2], .agg #[.int .i64 a0, .int .i64 a1, .int .i64 a2], .int .i64 r] w fun e w' => e = .returned (.tuple #[.agg #[.int .i64 (c0 + X0), .int .i64 (c1 + X1), .int .i64 (c2 + X2)], .bool true]) ∧ Below w.heap.size w w') := by
      intro w
      rw [hk.armA.e0, hk.armA.e1, hk.armA.e2]
      cases hcn with
      | none h => omega
      | some sa sb _ _ _ _ => exact towardP_main c0 c1 c2 a0 a1 a2 r _ _ _ w hc ha sa (sameB_f sa) (by omega) hr33 rfl rfl rfl
    have TB : ∀ w, Hid (Calls Try.prog 14 #[.agg #[.int .i64 c0, .int .i64 c1, .int .i64 c2], .agg #[.int .i64 b0, .int .i64 b1, .int .i64 b2], .int .i64 r] w fun e w' => e = .returned (.tuple #[.agg #[.int .i64 (c0 + Y0), .int .i64 (c1 + Y1), .int .i64 (c2 + Y2)], .bool true]) ∧ Below w.heap.size w w') := by
      intro w
      rw [hk.armB.e0, hk.armB.e1, hk.armB.e2]
      cases hcn with
      | none h => omega
      | some sa sb _ _ _ _ => exact towardP_main c0 c1 c2 b0 b1 b2 r _ _ _ w hc hb sb (sameB_f sb) (by omega) hr33 rfl rfl rfl
    have ⟨va, hva, LA, na⟩ : ∃ v : Int, r ≤ v - 2 ∧ (∀ w, Hid (Calls Try.prog 25 #[.agg #[.int .i64 a0, .int .i64 a1, .int .i64 a2], .agg #[.int .i64 c0, .int .i64 c1, .int .i64 c2]] w fun e w' => e = .returned (.int .i64 v) ∧ Below w.heap.size w w')) ∧ v ≤ 1000000000 := by
      obtain ⟨x1, x2, x3, x4, x5, x6⟩ := hc
      obtain ⟨y1, y2, y3, y4, y5, y6⟩ := ha
      have q := sqD_bd ⟨y1, y2, y3, y4, y5, y6⟩ ⟨x1, x2, x3, x4, x5, x6⟩
      obtain ⟨k, hk1, hk2, _⟩ := len_facts _ q.1 q.2
      exact ⟨_, by have := hk.mo; unfold moI at this; omega, fun w => lengthR_any a0 a1 a2 c0 c1 c2 w (by omega) (by omega) (by omega), by omega⟩
    have ⟨vb, hvb, LB, nb⟩ : ∃ v : Int, r ≤ v - 2 ∧ (∀ w, Hid (Calls Try.prog 25 #[.agg #[.int .i64 c0, .int .i64 c1, .int .i64 c2], .agg #[.int .i64 b0, .int .i64 b1, .int .i64 b2]] w fun e w' => e = .returned (.int .i64 v) ∧ Below w.heap.size w w')) ∧ v ≤ 1000000000 := by
      obtain ⟨x1, x2, x3, x4, x5, x6⟩ := hc
      obtain ⟨y1, y2, y3, y4, y5, y6⟩ := hb
      have q := sqD_bd ⟨x1, x2, x3, x4, x5, x6⟩ ⟨y1, y2, y3, y4, y5, y6⟩
      obtain ⟨k, hk1, hk2, _⟩ := len_facts _ q.1 q.2
      exact ⟨_, by have := hk.mo; unfold moI at this; omega, fun w => lengthR_any c0 c1 c2 b0 b1 b2 w (by omega) (by omega) (by omega), by omega⟩
    have HF0 : Hid (F 0 0 = c0 + X0) := by show F 0 0 = _; rw [hk.f0]; exact congrArg _ (coI_first (by omega))
    have HF1 : Hid (F 0 1 = c1 + X1) := by show F 0 1 = _; rw [hk.f1]; exact congrArg _ (coI_first (by omega))
    have HF2 : Hid (F 0 2 = c2 + X2) := by show F 0 2 = _; rw [hk.f2]; exact congrArg _ (coI_first (by omega))
    have HG0 : Hid (F m 0 = c0 + Y0) := by show F m 0 = _; rw [hk.f0]; exact congrArg _ (coI_last (by omega))
    have HG1 : Hid (F m 1 = c1 + Y1) := by show F m 1 = _; rw [hk.f1]; exact congrArg _ (coI_last (by omega))
    have HG2 : Hid (F m 2 = c2 + Y2) := by show F m 2 = _; rw [hk.f2]; exact congrArg _ (coI_last (by omega))
    have hr0 : (r == 0) = false := by simp; omega
    clear hcn hrv ha hc hb ht ht2 hk
    go_enter Try.func7, Try.ntmps7
    go_wp2_with fail
    refine (awake_any _).mono ?_
    rintro e w1 ⟨rfl, hb1⟩
    have hT := hT0.next hb1
    clear hb1 hT0
    have kc := hT.cells
    have kf := hT.frz
    simp only [List.forall_mem_cons, List.not_mem_nil, false_implies, implies_true, and_true] at kc kf
    obtain ⟨yc0, yc1, yc2, yc3, yc4, yc5, yc6, yc7, yc8⟩ := kc
    obtain ⟨yf0, yf1, yf2, yf3, yf4, yf5, yf6, yf7, yf8⟩ := kf
    go_wp2_with fail
    refine (S0 _).out.mono ?_
    rintro e w2 ⟨rfl, hb2⟩
    have hT := hT.next hb2
    clear hb2 yc0 yf0 yc1 yf1 yc2 yf2 yc3 yf3 yc4 yf4 yc5 yf5 yc6 yf6 yc7 yf7 yc8 yf8
    go_upto_region 5 with fail
    go_region_held3 (fun w' => w'.cell? ⟨w.heap.size, 0, none⟩ = some (.int .i64 a0) ∧ w'.cell? ⟨w.heap.size, 1, none⟩ = some (.int .i64 a1) ∧ w'.cell? ⟨w.heap.size, 2, none⟩ = some (.int .i64 a2) ∧ w'.cell? ⟨w.heap.size + 1, 0, none⟩ = some (.int .i64 c0) ∧ w'.cell? ⟨w.heap.size + 1, 1, none⟩ = some (.int .i64 c1) ∧ w'.cell? ⟨w.heap.size + 1, 2, none⟩ = some (.int .i64 c2) ∧ w'.cell? ⟨w.heap.size + 1 + 1, 0, none⟩ = some (.int .i64 b0) ∧ w'.cell? ⟨w.heap.size + 1 + 1, 1, none⟩ = some (.int .i64 b1) ∧ w'.cell? ⟨w.heap.size + 1 + 1, 2, none⟩ = some (.int .i64 b2) ∧ Lf w.heap.size (w.heap.size + 1 + 1 + 1) [(⟨w.heap.size, 0, none⟩, .int .i64 a0), (⟨w.heap.size, 1, none⟩, .int .i64 a1), (⟨w.heap.size, 2, none⟩, .int .i64 a2), (⟨w.heap.size + 1, 0, none⟩, .int .i64 c0), (⟨w.heap.size + 1, 1, none⟩, .int .i64 c1), (⟨w.heap.size + 1, 2, none⟩, .int .i64 c2), (⟨w.heap.size + 1 + 1, 0, none⟩, .int .i64 b0), (⟨w.heap.size + 1 + 1, 1, none⟩, .int .i64 b1), (⟨w.heap.size + 1 + 1, 2, none⟩, .int .i64 b2)] w w') (first | (refine S9 ?_; assumption) | (refine S9 (Lf.next ?_ (Below.drew (Below.refl _ _))); assumption)) (first
      | (go_at_call 23; (with_reducible refine (CP _).out.mono ?_); rintro e w5 ⟨g, cap5, rfl, hg5, hr5, hb5⟩; go_split_ands; have hL5 := Lf.next (by assumption) hb5)
      | (go_at_call 18; (with_reducible refine (RP _).out.mono ?_); rintro e w6 ⟨rfl, hb6⟩; go_split_ands; have hL6 := Lf.next (by assumption) hb6))
    have hT : Both (Lf w.heap.size (w.heap.size + 1 + 1 + 1) [(⟨w.heap.size, 0, none⟩, .int .i64 a0), (⟨w.heap.size, 1, none⟩, .int .i64 a1), (⟨w.heap.size, 2, none⟩, .int .i64 a2), (⟨w.heap.size + 1, 0, none⟩, .int .i64 c0), (⟨w.heap.size + 1, 1, none⟩, .int .i64 c1), (⟨w.heap.size + 1, 2, none⟩, .int .i64 c2), (⟨w.heap.size + 1 + 1, 0, none⟩, .int .i64 b0), (⟨w.heap.size + 1 + 1, 1, none⟩, .int .i64 b1), (⟨w.heap.size + 1 + 1, 2, none⟩, .int .i64 b2)] w) (Row g (3 * n) (3 * n) (fun j => .int .i64 (F (j / 3) (j % 3)))) w6 := ⟨hL6, hr5.next hb6⟩
    clear hr5 hb5 hb6 hL5 hL6 S0
    go_wp2_with fail
    refine (TA _).out.mono ?_
    rintro e w7 ⟨rfl, hb7⟩
    have hT := Both.mk (hT.l.next hb7) (hT.r.next hb7)
    clear TA hb7
    go_upto_region 9 with fail
    obtain ⟨n1, hn1⟩ : ∃ n1, w7.heap.size = n1 := ⟨_, rfl⟩
    have hl := hT.l.lt
    have hP := hT.l.push #[.int .i64 (c0 + X0), .int .i64 (c1 + X1), .int .i64 (c2 + X2)] 23
    have hPr := hT.r.next (w' := w7.alloc (.cells #[.int .i64 (c0 + X0), .int .i64 (c1 + X1), .int .i64 (c2 + X2)] 23)) ((Below.refl _ _).alloc (Nat.le_refl _) _)
    rewrite [hn1] at hP hl
    rewrite [hn1]
    refine wp_cls (Both (Lf w.heap.size (n1 + 1) [(⟨n1, 0, none⟩, .int .i64 (c0 + X0)), (⟨n1, 1, none⟩, .int .i64 (c1 + X1)), (⟨n1, 2, none⟩, .int .i64 (c2 + X2)), (⟨w.heap.size, 0, none⟩, .int .i64 a0), (⟨w.heap.size, 1, none⟩, .int .i64 a1), (⟨w.heap.size, 2, none⟩, .int .i64 a2), (⟨w.heap.size + 1, 0, none⟩, .int .i64 c0), (⟨w.heap.size + 1, 1, none⟩, .int .i64 c1), (⟨w.heap.size + 1, 2, none⟩, .int .i64 c2), (⟨w.heap.size + 1 + 1, 0, none⟩, .int .i64 b0), (⟨w.heap.size + 1 + 1, 1, none⟩, .int .i64 b1), (⟨w.heap.size + 1 + 1, 2, none⟩, .int .i64 b2)] w) (Row g (3 * n) (3 * n) (fun j => .int .i64 (F (j / 3) (j % 3))))) ⟨hP, hPr⟩ ?_
    clear hP hPr hT hn1
    intro w8 hT
    have kc := hT.l.cells
    have kf := hT.l.frz
    simp only [List.forall_mem_cons, List.not_mem_nil, false_implies, implies_true, and_true] at kc kf
    obtain ⟨yc0, yc1, yc2, yc3, yc4, yc5, yc6, yc7, yc8, yc9, yc10, yc11⟩ := kc
    obtain ⟨yf0, yf1, yf2, yf3, yf4, yf5, yf6, yf7, yf8, yf9, yf10, yf11⟩ := kf
    go_wp2_with fail
    refine (TB _).out.mono ?_
    rintro e w9 ⟨rfl, hb9⟩
    have hT := Both.mk (hT.l.next hb9) (hT.r.next hb9)
    clear TB hb9 yc0 yf0 yc1 yf1 yc2 yf2 yc3 yf3 yc4 yf4 yc5 yf5 yc6 yf6 yc7 yf7 yc8 yf8 yc9 yf9 yc10 yf10 yc11 yf11
    go_upto_region 10 with fail
    obtain ⟨n2, hn2⟩ : ∃ n2, w9.heap.size = n2 := ⟨_, rfl⟩
    have hl2 := hT.l.lt
    have hP := hT.l.push #[.int .i64 (c0 + Y0), .int .i64 (c1 + Y1), .int .i64 (c2 + Y2)] 23
    have hPr := hT.r.next (w' := w9.alloc (.cells #[.int .i64 (c0 + Y0), .int .i64 (c1 + Y1), .int .i64 (c2 + Y2)] 23)) ((Below.refl _ _).alloc (Nat.le_refl _) _)
    rewrite [hn2] at hP hl2
    rewrite [hn2]
    refine wp_cls (Both (Lf w.heap.size (n2 + 1) [(⟨n2, 0, none⟩, .int .i64 (c0 + Y0)), (⟨n2, 1, none⟩, .int .i64 (c1 + Y1)), (⟨n2, 2, none⟩, .int .i64 (c2 + Y2)), (⟨n1, 0, none⟩, .int .i64 (c0 + X0)), (⟨n1, 1, none⟩, .int .i64 (c1 + X1)), (⟨n1, 2, none⟩, .int .i64 (c2 + X2)), (⟨w.heap.size, 0, none⟩, .int .i64 a0), (⟨w.heap.size, 1, none⟩, .int .i64 a1), (⟨w.heap.size, 2, none⟩, .int .i64 a2), (⟨w.heap.size + 1, 0, none⟩, .int .i64 c0), (⟨w.heap.size + 1, 1, none⟩, .int .i64 c1), (⟨w.heap.size + 1, 2, none⟩, .int .i64 c2), (⟨w.heap.size + 1 + 1, 0, none⟩, .int .i64 b0), (⟨w.heap.size + 1 + 1, 1, none⟩, .int .i64 b1), (⟨w.heap.size + 1 + 1, 2, none⟩, .int .i64 b2)] w) (Row g (3 * n) (3 * n) (fun j => .int .i64 (F (j / 3) (j % 3))))) ⟨hP, hPr⟩ ?_
    clear hP hPr hT hn2
    intro w10 hT
    subst hlen
    have hm1 : IntKind.i64.wrap (((m + 1 : Nat) : Int) - 1) = (m : Int) := by rw [wr_in (by omega) (by omega)]; omega
    have hwa : IntKind.i64.wrap (va - 2) = va - 2 := wr_in (by omega) (by omega)
    have hwb : IntKind.i64.wrap (vb - 2) = vb - 2 := wr_in (by omega) (by omega)
    have hda : decide (r ≤ va - 2) = true := decide_eq_true hva
    have hdb : decide (r ≤ vb - 2) = true := decide_eq_true hvb
    have hd6 : decide (16 ≤ r) = true := decide_eq_true hr16
    rcases hn with rfl | rfl | rfl | rfl | rfl | rfl

    · have hand : (bits BinOp.and IntKind.i64 2 (IntKind.i64.wrap 1) == 0) = true := by decide
      go_upto_region 11 with fail
      (refine wp_region_class (Both (Lf w.heap.size (n2 + 1) [(⟨n2, 0, none⟩, .int .i64 (c0 + Y0)), (⟨n2, 1, none⟩, .int .i64 (c1 + Y1)), (⟨n2, 2, none⟩, .int .i64 (c2 + Y2)), (⟨n1, 0, none⟩, .int .i64 (c0 + X0)), (⟨n1, 1, none⟩, .int .i64 (c1 + X1)), (⟨n1, 2, none⟩, .int .i64 (c2 + X2)), (⟨w.heap.size, 0, none⟩, .int .i64 a0), (⟨w.heap.size, 1, none⟩, .int .i64 a1), (⟨w.heap.size, 2, none⟩, .int .i64 a2), (⟨w.heap.size + 1, 0, none⟩, .int .i64 c0), (⟨w.heap.size + 1, 1, none⟩, .int .i64 c1), (⟨w.heap.size + 1, 2, none⟩, .int .i64 c2), (⟨w.heap.size + 1 + 1, 0, none⟩, .int .i64 b0), (⟨w.heap.size + 1 + 1, 1, none⟩, .int .i64 b1), (⟨w.heap.size + 1 + 1, 2, none⟩, .int .i64 b2)] w) (Row g (3 * (2 + 1)) (3 * (2 + 1)) (fun j => .int .i64 (F (j / 3) (j % 3))))) ⟨hT.l.next (Below.refl _ _).drew, hT.r.next (Below.refl _ _).drew⟩ (by kernel_rfl) (by kernel_rfl) ?_; repeat (refine wpQuiet_step (fun qK9 qH9 => ?_); go_simp; first | (refine qH9 _ ?_; clear qH9 qK9) | (apply Exists.intro; refine ⟨?_, qH9 _ ?_⟩; (first | (intros; rfl) | (first | (intro wx hC; with_reducible exact Calls.lays (LA wx).out (fun _ hb => ⟨hC.l.next hb, hC.r.next hb⟩)) | (intro wx hC; with_reducible exact Calls.lays (LB wx).out (fun _ hb => ⟨hC.l.next hb, hC.r.next hb⟩)) | (intro wx hC; (obtain ⟨e0, e1, e2⟩ := hC.r.point (L := 2 + 1) (i := 0) (by decide)); (rw [HF0.out] at e0); (rw [HF1.out] at e1); (rw [HF2.out] at e2); (obtain ⟨d0, d1, d2⟩ := hC.r.point (L := 2 + 1) (i := 2) (by decide)); (rw [HG0.out] at d0); (rw [HG1.out] at d1); (rw [HG2.out] at d2); (simp only [Nat.zero_mul, Nat.zero_add, Nat.reduceMul, Nat.reduceAdd] at e0 e1 e2 d0 d1 d2); ((have qk9 := ((hC.l)).cells; simp only [List.forall_mem_cons, List.not_mem_nil, false_implies, implies_true, and_true] at qk9; repeat (obtain ⟨qk8, qk9⟩ := qk9)); go_simp; first | done | rfl)))); clear qH9 qK9)))
      refine wpQuiet_nil ?_
      clear hT hand
      intro wy hC
      go_wp2_with fail
      go_ret
      exact ⟨rfl, hC.l.be⟩
    · have hand : (bits BinOp.and IntKind.i64 4 (IntKind.i64.wrap 3) == 0) = true := by decide
      go_upto_region 11 with fail
      (refine wp_region_class (Both (Lf w.heap.size (n2 + 1) [(⟨n2, 0, none⟩, .int .i64 (c0 + Y0)), (⟨n2, 1, none⟩, .int .i64 (c1 + Y1)), (⟨n2, 2, none⟩, .int .i64 (c2 + Y2)), (⟨n1, 0, none⟩, .int .i64 (c0 + X0)), (⟨n1, 1, none⟩, .int .i64 (c1 + X1)), (⟨n1, 2, none⟩, .int .i64 (c2 + X2)), (⟨w.heap.size, 0, none⟩, .int .i64 a0), (⟨w.heap.size, 1, none⟩, .int .i64 a1), (⟨w.heap.size, 2, none⟩, .int .i64 a2), (⟨w.heap.size + 1, 0, none⟩, .int .i64 c0), (⟨w.heap.size + 1, 1, none⟩, .int .i64 c1), (⟨w.heap.size + 1, 2, none⟩, .int .i64 c2), (⟨w.heap.size + 1 + 1, 0, none⟩, .int .i64 b0), (⟨w.heap.size + 1 + 1, 1, none⟩, .int .i64 b1), (⟨w.heap.size + 1 + 1, 2, none⟩, .int .i64 b2)] w) (Row g (3 * (4 + 1)) (3 * (4 + 1)) (fun j => .int .i64 (F (j / 3) (j % 3))))) ⟨hT.l.next (Below.refl _ _).drew, hT.r.next (Below.refl _ _).drew⟩ (by kernel_rfl) (by kernel_rfl) ?_; repeat (refine wpQuiet_step (fun qK9 qH9 => ?_); go_simp; first | (refine qH9 _ ?_; clear qH9 qK9) | (apply Exists.intro; refine ⟨?_, qH9 _ ?_⟩; (first | (intros; rfl) | (first | (intro wx hC; with_reducible exact Calls.lays (LA wx).out (fun _ hb => ⟨hC.l.next hb, hC.r.next hb⟩)) | (intro wx hC; with_reducible exact Calls.lays (LB wx).out (fun _ hb => ⟨hC.l.next hb, hC.r.next hb⟩)) | (intro wx hC; (obtain ⟨e0, e1, e2⟩ := hC.r.point (L := 4 + 1) (i := 0) (by decide)); (rw [HF0.out] at e0); (rw [HF1.out] at e1); (rw [HF2.out] at e2); (obtain ⟨d0, d1, d2⟩ := hC.r.point (L := 4 + 1) (i := 4) (by decide)); (rw [HG0.out] at d0); (rw [HG1.out] at d1); (rw [HG2.out] at d2); (simp only [Nat.zero_mul, Nat.zero_add, Nat.reduceMul, Nat.reduceAdd] at e0 e1 e2 d0 d1 d2); ((have qk9 := ((hC.l)).cells; simp only [List.forall_mem_cons, List.not_mem_nil, false_implies, implies_true, and_true] at qk9; repeat (obtain ⟨qk8, qk9⟩ := qk9)); go_simp; first | done | rfl)))); clear qH9 qK9)))
      refine wpQuiet_nil ?_
      clear hT hand
      intro wy hC
      go_wp2_with fail
      go_ret
      exact ⟨rfl, hC.l.be⟩
    · have hand : (bits BinOp.and IntKind.i64 8 (IntKind.i64.wrap 7) == 0) = true := by decide
      go_upto_region 11 with fail
      (refine wp_region_class (Both (Lf w.heap.size (n2 + 1) [(⟨n2, 0, none⟩, .int .i64 (c0 + Y0)), (⟨n2, 1, none⟩, .int .i64 (c1 + Y1)), (⟨n2, 2, none⟩, .int .i64 (c2 + Y2)), (⟨n1, 0, none⟩, .int .i64 (c0 + X0)), (⟨n1, 1, none⟩, .int .i64 (c1 + X1)), (⟨n1, 2, none⟩, .int .i64 (c2 + X2)), (⟨w.heap.size, 0, none⟩, .int .i64 a0), (⟨w.heap.size, 1, none⟩, .int .i64 a1), (⟨w.heap.size, 2, none⟩, .int .i64 a2), (⟨w.heap.size + 1, 0, none⟩, .int .i64 c0), (⟨w.heap.size + 1, 1, none⟩, .int .i64 c1), (⟨w.heap.size + 1, 2, none⟩, .int .i64 c2), (⟨w.heap.size + 1 + 1, 0, none⟩, .int .i64 b0), (⟨w.heap.size + 1 + 1, 1, none⟩, .int .i64 b1), (⟨w.heap.size + 1 + 1, 2, none⟩, .int .i64 b2)] w) (Row g (3 * (8 + 1)) (3 * (8 + 1)) (fun j => .int .i64 (F (j / 3) (j % 3))))) ⟨hT.l.next (Below.refl _ _).drew, hT.r.next (Below.refl _ _).drew⟩ (by kernel_rfl) (by kernel_rfl) ?_; repeat (refine wpQuiet_step (fun qK9 qH9 => ?_); go_simp; first | (refine qH9 _ ?_; clear qH9 qK9) | (apply Exists.intro; refine ⟨?_, qH9 _ ?_⟩; (first | (intros; rfl) | (first | (intro wx hC; with_reducible exact Calls.lays (LA wx).out (fun _ hb => ⟨hC.l.next hb, hC.r.next hb⟩)) | (intro wx hC; with_reducible exact Calls.lays (LB wx).out (fun _ hb => ⟨hC.l.next hb, hC.r.next hb⟩)) | (intro wx hC; (obtain ⟨e0, e1, e2⟩ := hC.r.point (L := 8 + 1) (i := 0) (by decide)); (rw [HF0.out] at e0); (rw [HF1.out] at e1); (rw [HF2.out] at e2); (obtain ⟨d0, d1, d2⟩ := hC.r.point (L := 8 + 1) (i := 8) (by decide)); (rw [HG0.out] at d0); (rw [HG1.out] at d1); (rw [HG2.out] at d2); (simp only [Nat.zero_mul, Nat.zero_add, Nat.reduceMul, Nat.reduceAdd] at e0 e1 e2 d0 d1 d2); ((have qk9 := ((hC.l)).cells; simp only [List.forall_mem_cons, List.not_mem_nil, false_implies, implies_true, and_true] at qk9; repeat (obtain ⟨qk8, qk9⟩ := qk9)); go_simp; first | done | rfl)))); clear qH9 qK9)))
      refine wpQuiet_nil ?_
      clear hT hand
      intro wy hC
      go_wp2_with fail
      go_ret
      exact ⟨rfl, hC.l.be⟩
    · have hand : (bits BinOp.and IntKind.i64 16 (IntKind.i64.wrap 15) == 0) = true := by decide
      go_upto_region 11 with fail
      (refine wp_region_class (Both (Lf w.heap.size (n2 + 1) [(⟨n2, 0, none⟩, .int .i64 (c0 + Y0)), (⟨n2, 1, none⟩, .int .i64 (c1 + Y1)), (⟨n2, 2, none⟩, .int .i64 (c2 + Y2)), (⟨n1, 0, none⟩, .int .i64 (c0 + X0)), (⟨n1, 1, none⟩, .int .i64 (c1 + X1)), (⟨n1, 2, none⟩, .int .i64 (c2 + X2)), (⟨w.heap.size, 0, none⟩, .int .i64 a0), (⟨w.heap.size, 1, none⟩, .int .i64 a1), (⟨w.heap.size, 2, none⟩, .int .i64 a2), (⟨w.heap.size + 1, 0, none⟩, .int .i64 c0), (⟨w.heap.size + 1, 1, none⟩, .int .i64 c1), (⟨w.heap.size + 1, 2, none⟩, .int .i64 c2), (⟨w.heap.size + 1 + 1, 0, none⟩, .int .i64 b0), (⟨w.heap.size + 1 + 1, 1, none⟩, .int .i64 b1), (⟨w.heap.size + 1 + 1, 2, none⟩, .int .i64 b2)] w) (Row g (3 * (16 + 1)) (3 * (16 + 1)) (fun j => .int .i64 (F (j / 3) (j % 3))))) ⟨hT.l.next (Below.refl _ _).drew, hT.r.next (Below.refl _ _).drew⟩ (by kernel_rfl) (by kernel_rfl) ?_; repeat (refine wpQuiet_step (fun qK9 qH9 => ?_); go_simp; first | (refine qH9 _ ?_; clear qH9 qK9) | (apply Exists.intro; refine ⟨?_, qH9 _ ?_⟩; (first | (intros; rfl) | (first | (intro wx hC; with_reducible exact Calls.lays (LA wx).out (fun _ hb => ⟨hC.l.next hb, hC.r.next hb⟩)) | (intro wx hC; with_reducible exact Calls.lays (LB wx).out (fun _ hb => ⟨hC.l.next hb, hC.r.next hb⟩)) | (intro wx hC; (obtain ⟨e0, e1, e2⟩ := hC.r.point (L := 16 + 1) (i := 0) (by decide)); (rw [HF0.out] at e0); (rw [HF1.out] at e1); (rw [HF2.out] at e2); (obtain ⟨d0, d1, d2⟩ := hC.r.point (L := 16 + 1) (i := 16) (by decide)); (rw [HG0.out] at d0); (rw [HG1.out] at d1); (rw [HG2.out] at d2); (simp only [Nat.zero_mul, Nat.zero_add, Nat.reduceMul, Nat.reduceAdd] at e0 e1 e2 d0 d1 d2); ((have qk9 := ((hC.l)).cells; simp only [List.forall_mem_cons, List.not_mem_nil, false_implies, implies_true, and_true] at qk9; repeat (obtain ⟨qk8, qk9⟩ := qk9)); go_simp; first | done | rfl)))); clear qH9 qK9)))
      refine wpQuiet_nil ?_
      clear hT hand
      intro wy hC
      go_wp2_with fail
      go_ret
      exact ⟨rfl, hC.l.be⟩
    · have hand : (bits BinOp.and IntKind.i64 32 (IntKind.i64.wrap 31) == 0) = true := by decide
      go_upto_region 11 with fail
      (refine wp_region_class (Both (Lf w.heap.size (n2 + 1) [(⟨n2, 0, none⟩, .int .i64 (c0 + Y0)), (⟨n2, 1, none⟩, .int .i64 (c1 + Y1)), (⟨n2, 2, none⟩, .int .i64 (c2 + Y2)), (⟨n1, 0, none⟩, .int .i64 (c0 + X0)), (⟨n1, 1, none⟩, .int .i64 (c1 + X1)), (⟨n1, 2, none⟩, .int .i64 (c2 + X2)), (⟨w.heap.size, 0, none⟩, .int .i64 a0), (⟨w.heap.size, 1, none⟩, .int .i64 a1), (⟨w.heap.size, 2, none⟩, .int .i64 a2), (⟨w.heap.size + 1, 0, none⟩, .int .i64 c0), (⟨w.heap.size + 1, 1, none⟩, .int .i64 c1), (⟨w.heap.size + 1, 2, none⟩, .int .i64 c2), (⟨w.heap.size + 1 + 1, 0, none⟩, .int .i64 b0), (⟨w.heap.size + 1 + 1, 1, none⟩, .int .i64 b1), (⟨w.heap.size + 1 + 1, 2, none⟩, .int .i64 b2)] w) (Row g (3 * (32 + 1)) (3 * (32 + 1)) (fun j => .int .i64 (F (j / 3) (j % 3))))) ⟨hT.l.next (Below.refl _ _).drew, hT.r.next (Below.refl _ _).drew⟩ (by kernel_rfl) (by kernel_rfl) ?_; repeat (refine wpQuiet_step (fun qK9 qH9 => ?_); go_simp; first | (refine qH9 _ ?_; clear qH9 qK9) | (apply Exists.intro; refine ⟨?_, qH9 _ ?_⟩; (first | (intros; rfl) | (first | (intro wx hC; with_reducible exact Calls.lays (LA wx).out (fun _ hb => ⟨hC.l.next hb, hC.r.next hb⟩)) | (intro wx hC; with_reducible exact Calls.lays (LB wx).out (fun _ hb => ⟨hC.l.next hb, hC.r.next hb⟩)) | (intro wx hC; (obtain ⟨e0, e1, e2⟩ := hC.r.point (L := 32 + 1) (i := 0) (by decide)); (rw [HF0.out] at e0); (rw [HF1.out] at e1); (rw [HF2.out] at e2); (obtain ⟨d0, d1, d2⟩ := hC.r.point (L := 32 + 1) (i := 32) (by decide)); (rw [HG0.out] at d0); (rw [HG1.out] at d1); (rw [HG2.out] at d2); (simp only [Nat.zero_mul, Nat.zero_add, Nat.reduceMul, Nat.reduceAdd] at e0 e1 e2 d0 d1 d2); ((have qk9 := ((hC.l)).cells; simp only [List.forall_mem_cons, List.not_mem_nil, false_implies, implies_true, and_true] at qk9; repeat (obtain ⟨qk8, qk9⟩ := qk9)); go_simp; first | done | rfl)))); clear qH9 qK9)))
      refine wpQuiet_nil ?_
      clear hT hand
      intro wy hC
      go_wp2_with fail
      go_ret
      exact ⟨rfl, hC.l.be⟩
    · have hand : (bits BinOp.and IntKind.i64 64 (IntKind.i64.wrap 63) == 0) = true := by decide
      go_upto_region 11 with fail
      (refine wp_region_class (Both (Lf w.heap.size (n2 + 1) [(⟨n2, 0, none⟩, .int .i64 (c0 + Y0)), (⟨n2, 1, none⟩, .int .i64 (c1 + Y1)), (⟨n2, 2, none⟩, .int .i64 (c2 + Y2)), (⟨n1, 0, none⟩, .int .i64 (c0 + X0)), (⟨n1, 1, none⟩, .int .i64 (c1 + X1)), (⟨n1, 2, none⟩, .int .i64 (c2 + X2)), (⟨w.heap.size, 0, none⟩, .int .i64 a0), (⟨w.heap.size, 1, none⟩, .int .i64 a1), (⟨w.heap.size, 2, none⟩, .int .i64 a2), (⟨w.heap.size + 1, 0, none⟩, .int .i64 c0), (⟨w.heap.size + 1, 1, none⟩, .int .i64 c1), (⟨w.heap.size + 1, 2, none⟩, .int .i64 c2), (⟨w.heap.size + 1 + 1, 0, none⟩, .int .i64 b0), (⟨w.heap.size + 1 + 1, 1, none⟩, .int .i64 b1), (⟨w.heap.size + 1 + 1, 2, none⟩, .int .i64 b2)] w) (Row g (3 * (64 + 1)) (3 * (64 + 1)) (fun j => .int .i64 (F (j / 3) (j % 3))))) ⟨hT.l.next (Below.refl _ _).drew, hT.r.next (Below.refl _ _).drew⟩ (by kernel_rfl) (by kernel_rfl) ?_; repeat (refine wpQuiet_step (fun qK9 qH9 => ?_); go_simp; first | (refine qH9 _ ?_; clear qH9 qK9) | (apply Exists.intro; refine ⟨?_, qH9 _ ?_⟩; (first | (intros; rfl) | (first | (intro wx hC; with_reducible exact Calls.lays (LA wx).out (fun _ hb => ⟨hC.l.next hb, hC.r.next hb⟩)) | (intro wx hC; with_reducible exact Calls.lays (LB wx).out (fun _ hb => ⟨hC.l.next hb, hC.r.next hb⟩)) | (intro wx hC; (obtain ⟨e0, e1, e2⟩ := hC.r.point (L := 64 + 1) (i := 0) (by decide)); (rw [HF0.out] at e0); (rw [HF1.out] at e1); (rw [HF2.out] at e2); (obtain ⟨d0, d1, d2⟩ := hC.r.point (L := 64 + 1) (i := 64) (by decide)); (rw [HG0.out] at d0); (rw [HG1.out] at d1); (rw [HG2.out] at d2); (simp only [Nat.zero_mul, Nat.zero_add, Nat.reduceMul, Nat.reduceAdd] at e0 e1 e2 d0 d1 d2); ((have qk9 := ((hC.l)).cells; simp only [List.forall_mem_cons, List.not_mem_nil, false_implies, implies_true, and_true] at qk9; repeat (obtain ⟨qk8, qk9⟩ := qk9)); go_simp; first | done | rfl)))); clear qH9 qK9)))
      refine wpQuiet_nil ?_
      clear hT hand
      intro wy hC
      go_wp2_with fail
      go_ret
      exact ⟨rfl, hC.l.be⟩
end Go.Proofs.Ytdjopepipcnmdaa