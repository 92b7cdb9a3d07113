/- Proved here: BlendDeviation returns true for every argument; no conditions but that integers are ints. -/
import Derived.Test.YtdjopepipcnmdaaBo2
import Derived.Test.YtdjopepipcnmdaaBk6
namespace Go.Proofs.Ytdjopepipcnmdaa
open Go.RowKit
set_option linter.unusedVariables false
set_option linter.unusedSimpArgs false
theorem cmpZ_le' {P Q : Int} (h : P ≤ Q) : cmpZ P Q ≤ 0 := by unfold cmpZ; (repeat' split) <;> omega
theorem seg_og {a0 a1 a2 b0 b1 b2 p0 p1 p2 e : Int} (h : Seg a0 a1 a2 b0 b1 b2 p0 p1 p2 e) : ogB a0 a1 a2 b0 b1 b2 p0 p1 p2 e = true := by
  unfold ogB
  split
  · rename_i ht; exact decide_eq_true (h.near ht)
  · split
    · rename_i hn; exact decide_eq_true (h.far hn)
    · exact decide_eq_true (cmpZ_le' h.mid)
theorem dev_any (a0 a1 a2 c0 c1 c2 b0 b1 b2 tol r : Int) (L : Nat) (F : Nat → Nat → Int) (h : Cnr a0 a1 a2 c0 c1 c2 b0 b1 b2 tol r L F) (ha : Pk a0 a1 a2) (hc : Pk c0 c1 c2) (hb : Pk b0 b1 b2) (ht : 0 ≤ tol) :
    1 ≤ L ∧ L ≤ 65 ∧ ∀ i, i < L → Pk (F i 0) (F i 1) (F i 2) ∧ (Seg a0 a1 a2 c0 c1 c2 (F i 0) (F i 1) (F i 2) (tol + 2) ∨ Seg c0 c1 c2 b0 b1 b2 (F i 0) (F i 1) (F i 2) (tol + 2)) := by
  rcases h.cut ha hc hb with ⟨_, hL, hF⟩ | ⟨n, X0, X1, X2, Y0, Y1, Y2, hk⟩
  · refine ⟨by omega, by omega, fun i _ => ?_⟩
    obtain ⟨f0, f1, f2⟩ := hF i
    rw [f0, f1, f2]
    refine ⟨hc, Or.inl (seg_of (M := 1) (h := 1) (by decide) (by decide) (by decide) ?_)⟩
    have := sqnn (tol + 2)
    rw [Int.sub_self, Int.sub_self, Int.sub_self]
    omega
  · have hl := hk.len
    have hn := hk.num
    exact ⟨by omega, by omega, fun i hi => ⟨hk.hull ha hc hb hi, hk.dev ha hc hb ht hi⟩⟩
set_option maxHeartbeats 8000000 in
set_option maxRecDepth 20000 in
theorem law_BlendDeviation (a0 a1 a2 c0 c1 c2 b0 b1 b2 tol : Int) (w : World) (la0 : -9223372036854775808 ≤ a0) (ua0 : a0 ≤ 9223372036854775807) (la1 : -9223372036854775808 ≤ a1) (ua1 : a1 ≤ 9223372036854775807) (la2 : -9223372036854775808 ≤ a2) (ua2 : a2 ≤ 9223372036854775807) (lc0 : -9223372036854775808 ≤ c0) (uc0 : c0 ≤ 9223372036854775807) (lc1 : -9223372036854775808 ≤ c1) (uc1 : c1 ≤ 9223372036854775807) (lc2 : -9223372036854775808 ≤ c2) (uc2 : c2 ≤ 9223372036854775807) (lb0 : -9223372036854775808 ≤ b0) (ub0 : b0 ≤ 9223372036854775807) (lb1 : -9223372036854775808 ≤ b1) (ub1 : b1 ≤ 9223372036854775807) (lb2 : -9223372036854775808 ≤ b2) (ub2 : b2 ≤ 9223372036854775807) (ltol : -9223372036854775808 ≤ tol) (utol : tol ≤ 9223372036854775807) :
    Calls Try.prog 8 #[.agg #[.int .i64 a0, .int .i64 a1, .int .i64 a2], .agg #[.int .i64 c0, .int .i64 c1, .int .i64 c2], .agg #[.int .i64 b0, .int .i64 b1, .int .i64 b2], .int .i64 tol] w fun e w' => e = .returned (.bool true) ∧ Below w.heap.size w w' := by
  have S0 := fun w => Lib.hid (small3_any a0 a1 a2 c0 c1 c2 b0 b1 b2 tol w)
  clear la0 ua0 la1 ua1 la2 ua2 lc0 uc0 lc1 uc1 lc2 uc2 lb0 ub0 lb1 ub1 lb2 ub2 ltol utol
  have hT0 : Lf w.heap.size (w.heap.size + 1 + 1 + 1) [(⟨w.heap.size, 0, none⟩, .int .i64 a0), (⟨w.heap.size, 1, none⟩, .int .i64 a1), (⟨w.heap.size, 2, none⟩, .int .i64 a2), (⟨w.heap.size + 1, 0, none⟩, .int .i64 c0), (⟨w.heap.size + 1, 1, none⟩, .int .i64 c1), (⟨w.heap.size + 1, 2, none⟩, .int .i64 c2), (⟨w.heap.size + 1 + 1, 0, none⟩, .int .i64 b0), (⟨w.heap.size + 1 + 1, 1, none⟩, .int .i64 b1), (⟨w.heap.size + 1 + 1, 2, none⟩, .int .i64 b2)] w (((w.alloc (.cells #[.int .i64 a0, .int .i64 a1, .int .i64 a2] 23)).alloc (.cells #[.int .i64 c0, .int .i64 c1, .int .i64 c2] 23)).alloc (.cells #[.int .i64 b0, .int .i64 b1, .int .i64 b2] 23)) := ⟨by simp [List.forall_mem_cons, go_sem], by simp [List.forall_mem_cons, go_sem], by simp [List.forall_mem_cons] <;> omega, by simp, by (repeat (first | exact Below.refl _ _ | assumption | refine Below.drew ?_ | (refine Below.alloc ?_ (by simp <;> omega) _) | (refine Below.setCell ?_ (by simp <;> omega) _))), by omega⟩
  cases hA : smK a0 a1 a2 c0 c1 c2 b0 b1 b2 tol
  · rw [hA] at S0
    clear hA
    go_enter Try.func8, Try.ntmps8
    go_wp2_with fail
    refine (awake_any _).mono ?_
    rintro e w1 ⟨rfl, hb1⟩
    have hT := hT0.next hb1
    clear hb1
    have kc := hT.cells
    have kf := hT.frz
    simp only [List.forall_mem_cons, List.not_mem_nil, false_implies, implies_true, and_true] at kc kf
    obtain ⟨yc0, yc1, yc2, yc3, yc4, yc5, yc6, yc7, yc8⟩ := kc
    obtain ⟨yf0, yf1, yf2, yf3, yf4, yf5, yf6, yf7, yf8⟩ := kf
    go_wp2_with fail
    refine (S0 _).out.mono ?_
    rintro e w2 ⟨rfl, hb2⟩
    have hT := hT.next hb2
    go_wp2_with fail
    go_ret
    exact ⟨rfl, hT.be⟩
  rw [hA] at S0
  obtain ⟨ha, hc, hb, ht, ht2⟩ := smK_t hA
  clear hA
  obtain ⟨r, n, F, hrv, hcn, RP, CP, CR⟩ := corner_any a0 a1 a2 c0 c1 c2 b0 b1 b2 tol ha hc hb ht ht2
  obtain ⟨hL1, hL2, HB⟩ := dev_any a0 a1 a2 c0 c1 c2 b0 b1 b2 tol r n F hcn ha hc hb ht
  have HO : ∀ i, i < n → (∀ w, Hid (Calls Try.prog 13 #[.agg #[.int .i64 (F i 0), .int .i64 (F i 1), .int .i64 (F i 2)]] w fun e w' => e = .returned (.bool true) ∧ Below w.heap.size w w')) ∧ ∃ G1 G2 : Bool, (G1 = true ∨ (G1 = false ∧ G2 = true)) ∧ (∀ w, Hid (Calls Try.prog 26 #[.agg #[.int .i64 a0, .int .i64 a1, .int .i64 a2], .agg #[.int .i64 c0, .int .i64 c1, .int .i64 c2], .agg #[.int .i64 (F i 0), .int .i64 (F i 1), .int .i64 (F i 2)], .int .i64 (tol + 2)] w fun e w' => e = .returned (.bool G1) ∧ Below w.heap.size w w')) ∧ (∀ w, Hid (Calls Try.prog 26 #[.agg #[.int .i64 c0, .int .i64 c1, .int .i64 c2], .agg #[.int .i64 b0, .int .i64 b1, .int .i64 b2], .agg #[.int .i64 (F i 0), .int .i64 (F i 1), .int .i64 (F i 2)], .int .i64 (tol + 2)] w fun e w' => e = .returned (.bool G2) ∧ Below w.heap.size w w')) := by
    intro i hi
    obtain ⟨hp, hs⟩ := HB i hi
    refine ⟨fun w => ?_, _, _, ?_, fun w => onseg_any a0 a1 a2 c0 c1 c2 (F i 0) (F i 1) (F i 2) (tol + 2) w ha hc hp (by omega) (by omega), fun w => onseg_any c0 c1 c2 b0 b1 b2 (F i 0) (F i 1) (F i 2) (tol + 2) w hc hb hp (by omega) (by omega)⟩
    · have hsm : smB 33554432 (F i 0) (F i 1) (F i 2) = true := smB_iff.2 ⟨⟨hp.l0, hp.u0⟩, ⟨hp.l1, hp.u1⟩, ⟨hp.l2, hp.u2⟩⟩
      have hh := Small_any (F i 0) (F i 1) (F i 2) w
      rw [hsm] at hh
      exact hh
    · rcases hs with hs | hs
      · exact Or.inl (seg_og hs)
      · cases hg : ogB a0 a1 a2 c0 c1 c2 (F i 0) (F i 1) (F i 2) (tol + 2)
        · exact Or.inr ⟨rfl, seg_og hs⟩
        · exact Or.inl rfl
  clear hcn hrv RP CR ha hc hb HB
  go_enter Try.func8, Try.ntmps8
  go_wp2_with fail
  refine (awake_any _).mono ?_
  rintro e w1 ⟨rfl, hb1⟩
  have hT := hT0.next hb1
  clear hb1 hT0
  have kc := hT.cells
  have kf := hT.frz
  simp only [List.forall_mem_cons, List.not_mem_nil, false_implies, implies_true, and_true] at kc kf
  obtain ⟨yc0, yc1, yc2, yc3, yc4, yc5, yc6, yc7, yc8⟩ := kc
  obtain ⟨yf0, yf1, yf2, yf3, yf4, yf5, yf6, yf7, yf8⟩ := kf
  go_wp2_with fail
  refine (S0 _).out.mono ?_
  rintro e w2 ⟨rfl, hb2⟩
  have hT := hT.next hb2
  clear hb2 yc0 yf0 yc1 yf1 yc2 yf2 yc3 yf3 yc4 yf4 yc5 yf5 yc6 yf6 yc7 yf7 yc8 yf8
  have kc := hT.cells
  have kf := hT.frz
  simp only [List.forall_mem_cons, List.not_mem_nil, false_implies, implies_true, and_true] at kc kf
  obtain ⟨yc0, yc1, yc2, yc3, yc4, yc5, yc6, yc7, yc8⟩ := kc
  obtain ⟨yf0, yf1, yf2, yf3, yf4, yf5, yf6, yf7, yf8⟩ := kf
  go_wp2_with fail
  refine (CP _).out.mono ?_
  rintro e w3 ⟨g, cap, rfl, hg, hr, hb3⟩
  have hC : (Both (Lf w.heap.size (w.heap.size + 1 + 1 + 1) [(⟨w.heap.size, 0, none⟩, .int .i64 a0), (⟨w.heap.size, 1, none⟩, .int .i64 a1), (⟨w.heap.size, 2, none⟩, .int .i64 a2), (⟨w.heap.size + 1, 0, none⟩, .int .i64 c0), (⟨w.heap.size + 1, 1, none⟩, .int .i64 c1), (⟨w.heap.size + 1, 2, none⟩, .int .i64 c2), (⟨w.heap.size + 1 + 1, 0, none⟩, .int .i64 b0), (⟨w.heap.size + 1 + 1, 1, none⟩, .int .i64 b1), (⟨w.heap.size + 1 + 1, 2, none⟩, .int .i64 b2)] w) (Row g (3 * n) (3 * n) (fun j => .int .i64 (F (j / 3) (j % 3))))) w3 := ⟨hT.next hb3, hr⟩
  clear hT hr hb3 yc0 yf0 yc1 yf1 yc2 yf2 yc3 yf3 yc4 yf4 yc5 yf5 yc6 yf6 yc7 yf7 yc8 yf8 CP S0
  go_wp2_with fail
  go_loopw [27] (fun t wr => ∃ i : Nat, i ≤ n ∧ t = .int .i64 (i : Int) ∧ (Both (Lf w.heap.size (w.heap.size + 1 + 1 + 1) [(⟨w.heap.size, 0, none⟩, .int .i64 a0), (⟨w.heap.size, 1, none⟩, .int .i64 a1), (⟨w.heap.size, 2, none⟩, .int .i64 a2), (⟨w.heap.size + 1, 0, none⟩, .int .i64 c0), (⟨w.heap.size + 1, 1, none⟩, .int .i64 c1), (⟨w.heap.size + 1, 2, none⟩, .int .i64 c2), (⟨w.heap.size + 1 + 1, 0, none⟩, .int .i64 b0), (⟨w.heap.size + 1 + 1, 1, none⟩, .int .i64 b1), (⟨w.heap.size + 1 + 1, 2, none⟩, .int .i64 b2)] w) (Row g (3 * n) (3 * n) (fun j => .int .i64 (F (j / 3) (j % 3))))) wr) (fun t _ => n - (intOf t).toNat)
  case atStart => exact ⟨0, Nat.zero_le _, rfl, hC⟩
  case round =>
  clear hC
  obtain ⟨i, hin, rfl, hC⟩ := hrel
  by_cases hi : i < n
  · have hdec : decide ((i : Int) < (n : Int)) = true := decide_eq_true (by omega)
    have hlt : (i : Int) < (n : Int) := by omega
    obtain ⟨SM, G1, G2, hG, O1, O2⟩ := HO i hi
    obtain ⟨e0, e1, e2⟩ := hC.r.point hi
    obtain ⟨f0, hf0⟩ : ∃ f0, F i 0 = f0 := ⟨_, rfl⟩
    obtain ⟨f1, hf1⟩ : ∃ f1, F i 1 = f1 := ⟨_, rfl⟩
    obtain ⟨f2, hf2⟩ : ∃ f2, F i 2 = f2 := ⟨_, rfl⟩
    rw [hf0, hf1, hf2] at SM O1 O2
    rw [hf0] at e0
    rw [hf1] at e1
    rw [hf2] at e2
    clear hf0 hf1 hf2
    go_upto_region 9 with fail
    obtain ⟨h, hh⟩ : ∃ h, wr.heap.size = h := ⟨_, rfl⟩
    have hP := hC.l.push #[.int .i64 f0, .int .i64 f1, .int .i64 f2] 23
    have hPr := hC.r.next (w' := wr.alloc (.cells #[.int .i64 f0, .int .i64 f1, .int .i64 f2] 23)) ((Below.refl _ _).alloc (Nat.le_refl _) _)
    have hlh := hC.l.lt
    rewrite [hh] at hP hlh
    rewrite [hh]
    refine wp_cls (Both (Lf w.heap.size (h + 1) [(⟨h, 0, none⟩, .int .i64 f0), (⟨h, 1, none⟩, .int .i64 f1), (⟨h, 2, none⟩, .int .i64 f2), (⟨w.heap.size, 0, none⟩, .int .i64 a0), (⟨w.heap.size, 1, none⟩, .int .i64 a1), (⟨w.heap.size, 2, none⟩, .int .i64 a2), (⟨w.heap.size + 1, 0, none⟩, .int .i64 c0), (⟨w.heap.size + 1, 1, none⟩, .int .i64 c1), (⟨w.heap.size + 1, 2, none⟩, .int .i64 c2), (⟨w.heap.size + 1 + 1, 0, none⟩, .int .i64 b0), (⟨w.heap.size + 1 + 1, 1, none⟩, .int .i64 b1), (⟨w.heap.size + 1 + 1, 2, none⟩, .int .i64 b2)] w) (Row g (3 * n) (3 * n) (fun j => .int .i64 (F (j / 3) (j % 3))))) ⟨hP, hPr⟩ ?_
    clear hP hPr hC hh e0 e1 e2
    intro w5 hC
    have kc := hC.l.cells
    have kf := hC.l.frz
    simp only [List.forall_mem_cons, List.not_mem_nil, false_implies, implies_true, and_true] at kc kf
    obtain ⟨yc0, yc1, yc2, yc3, yc4, yc5, yc6, yc7, yc8, yc9, yc10, yc11⟩ := kc
    obtain ⟨yf0, yf1, yf2, yf3, yf4, yf5, yf6, yf7, yf8, yf9, yf10, yf11⟩ := kf
    go_wp2_with fail
    refine (SM _).out.mono ?_
    rintro e w6 ⟨rfl, hb6⟩
    have hC := Both.mk (hC.l.next hb6) (hC.r.next hb6)
    clear hb6 yc0 yf0 yc1 yf1 yc2 yf2 yc3 yf3 yc4 yf4 yc5 yf5 yc6 yf6 yc7 yf7 yc8 yf8 yc9 yf9 yc10 yf10 yc11 yf11
    have kc := hC.l.cells
    have kf := hC.l.frz
    simp only [List.forall_mem_cons, List.not_mem_nil, false_implies, implies_true, and_true] at kc kf
    obtain ⟨yc0, yc1, yc2, yc3, yc4, yc5, yc6, yc7, yc8, yc9, yc10, yc11⟩ := kc
    obtain ⟨yf0, yf1, yf2, yf3, yf4, yf5, yf6, yf7, yf8, yf9, yf10, yf11⟩ := kf
    go_wp2_with fail
    refine (O1 _).out.mono ?_
    rintro e w7 ⟨rfl, hb7⟩
    have hC := Both.mk (hC.l.next hb7) (hC.r.next hb7)
    clear hb7 yc0 yf0 yc1 yf1 yc2 yf2 yc3 yf3 yc4 yf4 yc5 yf5 yc6 yf6 yc7 yf7 yc8 yf8 yc9 yf9 yc10 yf10 yc11 yf11
    rcases hG with rfl | ⟨rfl, rfl⟩
    · go_wp2_with fail
      go_roundw
      case rel => exact ⟨i + 1, by omega, by go_num, hC.l.cut (fun p hp => List.mem_cons_of_mem _ (List.mem_cons_of_mem _ (List.mem_cons_of_mem _ hp))) (by simp [List.forall_mem_cons] <;> omega) (by omega) (by omega), hC.r⟩
      case measure => simp [intOf]; omega
    · have kc := hC.l.cells
      have kf := hC.l.frz
      simp only [List.forall_mem_cons, List.not_mem_nil, false_implies, implies_true, and_true] at kc kf
      obtain ⟨yc0, yc1, yc2, yc3, yc4, yc5, yc6, yc7, yc8, yc9, yc10, yc11⟩ := kc
      obtain ⟨yf0, yf1, yf2, yf3, yf4, yf5, yf6, yf7, yf8, yf9, yf10, yf11⟩ := kf
      go_wp2_with fail
      refine (O2 _).out.mono ?_
      rintro e w8 ⟨rfl, hb8⟩
      have hC := Both.mk (hC.l.next hb8) (hC.r.next hb8)
      clear hb8 yc0 yf0 yc1 yf1 yc2 yf2 yc3 yf3 yc4 yf4 yc5 yf5 yc6 yf6 yc7 yf7 yc8 yf8 yc9 yf9 yc10 yf10 yc11 yf11
      go_wp2_with fail
      go_roundw
      case rel => exact ⟨i + 1, by omega, by go_num, hC.l.cut (fun p hp => List.mem_cons_of_mem _ (List.mem_cons_of_mem _ (List.mem_cons_of_mem _ hp))) (by simp [List.forall_mem_cons] <;> omega) (by omega) (by omega), hC.r⟩
      case measure => simp [intOf]; omega
  · have hdec : decide ((i : Int) < (n : Int)) = false := decide_eq_false (by omega)
    have hpos : decide (0 < n) = true := decide_eq_true (by omega)
    go_wp2_with fail
    go_ret
    exact ⟨rfl, hC.l.be⟩
end Go.Proofs.Ytdjopepipcnmdaa