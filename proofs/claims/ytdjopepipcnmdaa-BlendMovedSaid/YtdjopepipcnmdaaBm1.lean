/- Proved here: BlendPieces returns true for every argument; no conditions but that integers are ints. -/
import Derived.Test.YtdjopepipcnmdaaBk6
import Derived.Deep.RegionHeld3
namespace Go.Proofs.Ytdjopepipcnmdaa
open Go.RowKit
set_option linter.unusedVariables false
set_option linter.unusedSimpArgs false
theorem S9 {w w' : World} {a0 a1 a2 c0 c1 c2 b0 b1 b2 : Int} (h : Lf w.heap.size (w.heap.size + 1 + 1 + 1) [(⟨w.heap.size, 0, none⟩, .int .i64 a0), (⟨w.heap.size, 1, none⟩, .int .i64 a1), (⟨w.heap.size, 2, none⟩, .int .i64 a2), (⟨w.heap.size + 1, 0, none⟩, .int .i64 c0), (⟨w.heap.size + 1, 1, none⟩, .int .i64 c1), (⟨w.heap.size + 1, 2, none⟩, .int .i64 c2), (⟨w.heap.size + 1 + 1, 0, none⟩, .int .i64 b0), (⟨w.heap.size + 1 + 1, 1, none⟩, .int .i64 b1), (⟨w.heap.size + 1 + 1, 2, none⟩, .int .i64 b2)] w w') : w'.cell? ⟨w.heap.size, 0, none⟩ = some (.int .i64 a0) ∧ w'.cell? ⟨w.heap.size, 1, none⟩ = some (.int .i64 a1) ∧ w'.cell? ⟨w.heap.size, 2, none⟩ = some (.int .i64 a2) ∧ w'.cell? ⟨w.heap.size + 1, 0, none⟩ = some (.int .i64 c0) ∧ w'.cell? ⟨w.heap.size + 1, 1, none⟩ = some (.int .i64 c1) ∧ w'.cell? ⟨w.heap.size + 1, 2, none⟩ = some (.int .i64 c2) ∧ w'.cell? ⟨w.heap.size + 1 + 1, 0, none⟩ = some (.int .i64 b0) ∧ w'.cell? ⟨w.heap.size + 1 + 1, 1, none⟩ = some (.int .i64 b1) ∧ w'.cell? ⟨w.heap.size + 1 + 1, 2, none⟩ = some (.int .i64 b2) ∧ Lf w.heap.size (w.heap.size + 1 + 1 + 1) [(⟨w.heap.size, 0, none⟩, .int .i64 a0), (⟨w.heap.size, 1, none⟩, .int .i64 a1), (⟨w.heap.size, 2, none⟩, .int .i64 a2), (⟨w.heap.size + 1, 0, none⟩, .int .i64 c0), (⟨w.heap.size + 1, 1, none⟩, .int .i64 c1), (⟨w.heap.size + 1, 2, none⟩, .int .i64 c2), (⟨w.heap.size + 1 + 1, 0, none⟩, .int .i64 b0), (⟨w.heap.size + 1 + 1, 1, none⟩, .int .i64 b1), (⟨w.heap.size + 1 + 1, 2, none⟩, .int .i64 b2)] w w' := by
  have kc := h.cells
  simp only [List.forall_mem_cons, List.not_mem_nil, false_implies, implies_true, and_true] at kc
  obtain ⟨y0, y1, y2, y3, y4, y5, y6, y7, y8⟩ := kc
  exact ⟨y0, y1, y2, y3, y4, y5, y6, y7, y8, h⟩
theorem cnr_len {a0 a1 a2 c0 c1 c2 b0 b1 b2 tol r : Int} {L : Nat} {F : Nat → Nat → Int} (h : Cnr a0 a1 a2 c0 c1 c2 b0 b1 b2 tol r L F) : 1 ≤ L ∧ L ≤ 65 := by
  cases h with
  | none _ h _ => omega
  | some _ _ _ _ h _ => have := crN_cases a0 a1 a2 c0 c1 c2 b0 b1 b2 r; omega
set_option maxHeartbeats 8000000 in
set_option maxRecDepth 20000 in
theorem law_BlendPieces (a0 a1 a2 c0 c1 c2 b0 b1 b2 tol : Int) (w : World) (la0 : -9223372036854775808 ≤ a0) (ua0 : a0 ≤ 9223372036854775807) (la1 : -9223372036854775808 ≤ a1) (ua1 : a1 ≤ 9223372036854775807) (la2 : -9223372036854775808 ≤ a2) (ua2 : a2 ≤ 9223372036854775807) (lc0 : -9223372036854775808 ≤ c0) (uc0 : c0 ≤ 9223372036854775807) (lc1 : -9223372036854775808 ≤ c1) (uc1 : c1 ≤ 9223372036854775807) (lc2 : -9223372036854775808 ≤ c2) (uc2 : c2 ≤ 9223372036854775807) (lb0 : -9223372036854775808 ≤ b0) (ub0 : b0 ≤ 9223372036854775807) (lb1 : -9223372036854775808 ≤ b1) (ub1 : b1 ≤ 9223372036854775807) (lb2 : -9223372036854775808 ≤ b2) (ub2 : b2 ≤ 9223372036854775807) (ltol : -9223372036854775808 ≤ tol) (utol : tol ≤ 9223372036854775807) :
    Calls Try.prog 6 #[.agg #[.int .i64 a0, .int .i64 a1, .int .i64 a2], .agg #[.int .i64 c0, .int .i64 c1, .int .i64 c2], .agg #[.int .i64 b0, .int .i64 b1, .int .i64 b2], .int .i64 tol] w fun e w' => e = .returned (.bool true) ∧ Below w.heap.size w w' := by
  have S0 := fun w => Lib.hid (small3_any a0 a1 a2 c0 c1 c2 b0 b1 b2 tol w)
  clear la0 ua0 la1 ua1 la2 ua2 lc0 uc0 lc1 uc1 lc2 uc2 lb0 ub0 lb1 ub1 lb2 ub2 ltol utol
  have hT0 : Lf w.heap.size (w.heap.size + 1 + 1 + 1) [(⟨w.heap.size, 0, none⟩, .int .i64 a0), (⟨w.heap.size, 1, none⟩, .int .i64 a1), (⟨w.heap.size, 2, none⟩, .int .i64 a2), (⟨w.heap.size + 1, 0, none⟩, .int .i64 c0), (⟨w.heap.size + 1, 1, none⟩, .int .i64 c1), (⟨w.heap.size + 1, 2, none⟩, .int .i64 c2), (⟨w.heap.size + 1 + 1, 0, none⟩, .int .i64 b0), (⟨w.heap.size + 1 + 1, 1, none⟩, .int .i64 b1), (⟨w.heap.size + 1 + 1, 2, none⟩, .int .i64 b2)] w (((w.alloc (.cells #[.int .i64 a0, .int .i64 a1, .int .i64 a2] 23)).alloc (.cells #[.int .i64 c0, .int .i64 c1, .int .i64 c2] 23)).alloc (.cells #[.int .i64 b0, .int .i64 b1, .int .i64 b2] 23)) := ⟨by simp [List.forall_mem_cons, go_sem], by simp [List.forall_mem_cons, go_sem], by simp [List.forall_mem_cons] <;> omega, by simp, by (repeat (first | exact Below.refl _ _ | assumption | refine Below.drew ?_ | (refine Below.alloc ?_ (by simp <;> omega) _) | (refine Below.setCell ?_ (by simp <;> omega) _))), by omega⟩
  cases hA : smK a0 a1 a2 c0 c1 c2 b0 b1 b2 tol
  · rw [hA] at S0
    clear hA
    go_enter Try.func6, Try.ntmps6
    go_wp2_with fail
    refine (awake_any _).mono ?_
    rintro e w1 ⟨rfl, hb1⟩
    have hT := hT0.next hb1
    clear hb1
    have kc := hT.cells
    have kf := hT.frz
    simp only [List.forall_mem_cons, List.not_mem_nil, false_implies, implies_true, and_true] at kc kf
    obtain ⟨yc0, yc1, yc2, yc3, yc4, yc5, yc6, yc7, yc8⟩ := kc
    obtain ⟨yf0, yf1, yf2, yf3, yf4, yf5, yf6, yf7, yf8⟩ := kf
    go_wp2_with fail
    refine (S0 _).out.mono ?_
    rintro e w2 ⟨rfl, hb2⟩
    have hT := hT.next hb2
    go_wp2_with fail
    go_ret
    exact ⟨rfl, hT.be⟩
  rw [hA] at S0
  obtain ⟨ha, hc, hb, ht, ht2⟩ := smK_t hA
  clear hA
  obtain ⟨r, n, F, hrv, hcn, RP, CP, CR⟩ := corner_any a0 a1 a2 c0 c1 c2 b0 b1 b2 tol ha hc hb ht ht2
  have hL := cnr_len hcn
  clear hcn hrv RP
  have PP : ∀ w, Hid (Calls Try.prog 20 #[.agg #[.int .i64 a0, .int .i64 a1, .int .i64 a2], .agg #[.int .i64 c0, .int .i64 c1, .int .i64 c2], .agg #[.int .i64 b0, .int .i64 b1, .int .i64 b2]] w fun e w' => e = .returned (.int .i64 (pcV (bnD a0 a1 a2 c0 c1 c2 b0 b1 b2))) ∧ Below w.heap.size w w') := by
    intro w
    obtain ⟨x1, x2, x3, x4, x5, x6⟩ := hc
    obtain ⟨y1, y2, y3, y4, y5, y6⟩ := ha
    obtain ⟨z1, z2, z3, z4, z5, z6⟩ := hb
    exact piecesP_any a0 a1 a2 c0 c1 c2 b0 b1 b2 w (by omega) (by omega) (by omega) (by omega) (by omega) (by omega) (by omega) (by omega) (by omega) (by omega) (by omega) (by omega) (by omega) (by omega) (by omega)
  have PR : ∀ w, Hid (Calls Try.prog 21 #[.agg #[.int .i64 a0, .int .i64 a1, .int .i64 a2], .agg #[.int .i64 c0, .int .i64 c1, .int .i64 c2], .agg #[.int .i64 b0, .int .i64 b1, .int .i64 b2]] w fun e w' => e = .returned (.int .i64 (pcV (bnD a0 a1 a2 c0 c1 c2 b0 b1 b2))) ∧ Below w.heap.size w w') := by
    intro w
    obtain ⟨x1, x2, x3, x4, x5, x6⟩ := hc
    obtain ⟨y1, y2, y3, y4, y5, y6⟩ := ha
    obtain ⟨z1, z2, z3, z4, z5, z6⟩ := hb
    exact piecesR_any a0 a1 a2 c0 c1 c2 b0 b1 b2 w (by omega) (by omega) (by omega) (by omega) (by omega) (by omega) (by omega) (by omega) (by omega) (by omega) (by omega) (by omega) (by omega) (by omega) (by omega)
  generalize pcV (bnD a0 a1 a2 c0 c1 c2 b0 b1 b2) = D at *
  clear ha hc hb ht ht2
  go_enter Try.func6, Try.ntmps6
  go_wp2_with fail
  refine (awake_any _).mono ?_
  rintro e w1 ⟨rfl, hb1⟩
  have hT := hT0.next hb1
  clear hb1 hT0
  have kc := hT.cells
  have kf := hT.frz
  simp only [List.forall_mem_cons, List.not_mem_nil, false_implies, implies_true, and_true] at kc kf
  obtain ⟨yc0, yc1, yc2, yc3, yc4, yc5, yc6, yc7, yc8⟩ := kc
  obtain ⟨yf0, yf1, yf2, yf3, yf4, yf5, yf6, yf7, yf8⟩ := kf
  go_wp2_with fail
  refine (S0 _).out.mono ?_
  rintro e w2 ⟨rfl, hb2⟩
  have hT := hT.next hb2
  clear hb2 yc0 yf0 yc1 yf1 yc2 yf2 yc3 yf3 yc4 yf4 yc5 yf5 yc6 yf6 yc7 yf7 yc8 yf8
  go_upto_region 5 with fail
  go_region_held3 (fun w' => w'.cell? ⟨w.heap.size, 0, none⟩ = some (.int .i64 a0) ∧ w'.cell? ⟨w.heap.size, 1, none⟩ = some (.int .i64 a1) ∧ w'.cell? ⟨w.heap.size, 2, none⟩ = some (.int .i64 a2) ∧ w'.cell? ⟨w.heap.size + 1, 0, none⟩ = some (.int .i64 c0) ∧ w'.cell? ⟨w.heap.size + 1, 1, none⟩ = some (.int .i64 c1) ∧ w'.cell? ⟨w.heap.size + 1, 2, none⟩ = some (.int .i64 c2) ∧ w'.cell? ⟨w.heap.size + 1 + 1, 0, none⟩ = some (.int .i64 b0) ∧ w'.cell? ⟨w.heap.size + 1 + 1, 1, none⟩ = some (.int .i64 b1) ∧ w'.cell? ⟨w.heap.size + 1 + 1, 2, none⟩ = some (.int .i64 b2) ∧ Lf w.heap.size (w.heap.size + 1 + 1 + 1) [(⟨w.heap.size, 0, none⟩, .int .i64 a0), (⟨w.heap.size, 1, none⟩, .int .i64 a1), (⟨w.heap.size, 2, none⟩, .int .i64 a2), (⟨w.heap.size + 1, 0, none⟩, .int .i64 c0), (⟨w.heap.size + 1, 1, none⟩, .int .i64 c1), (⟨w.heap.size + 1, 2, none⟩, .int .i64 c2), (⟨w.heap.size + 1 + 1, 0, none⟩, .int .i64 b0), (⟨w.heap.size + 1 + 1, 1, none⟩, .int .i64 b1), (⟨w.heap.size + 1 + 1, 2, none⟩, .int .i64 b2)] w w') (first | (refine S9 ?_; assumption) | (refine S9 (Lf.next ?_ (Below.drew (Below.refl _ _))); assumption)) (first
    | (go_at_call 20; refine (PP _).out.mono ?_; rintro e w3 ⟨rfl, hb3⟩; go_split_ands; have hL3 := Lf.next (by assumption) hb3)
    | (go_at_call 21; refine (PR _).out.mono ?_; rintro e w4 ⟨rfl, hb4⟩; go_split_ands; have hL4 := Lf.next (by assumption) hb4)
    | (go_at_call 23; refine (CP _).out.mono ?_; rintro e w5 ⟨g5, cap5, rfl, hg5, hr5, hb5⟩; go_split_ands; have hL5 := Lf.next (by assumption) hb5)
    | (go_at_call 24; refine (CR _).out.mono ?_; rintro e w6 ⟨g6, cap6, rfl, hg6, hr6, hb6⟩; go_split_ands; have hL6 := Lf.next (by assumption) hb6)
    | (go_at_call 22; refine (same_any _ _ _ _ _ _ _ (by omega) (by first | assumption | exact Row.next (by assumption) (by assumption)) (by first | assumption | exact Row.next (by assumption) (by assumption))).mono ?_; rintro e w7 ⟨rfl, hb7⟩; go_split_ands; have hL7 := Lf.next (by assumption) hb7))
  all_goals
    go_wp2_with fail
    go_ret
    exact ⟨rfl, hL7.be⟩
end Go.Proofs.Ytdjopepipcnmdaa