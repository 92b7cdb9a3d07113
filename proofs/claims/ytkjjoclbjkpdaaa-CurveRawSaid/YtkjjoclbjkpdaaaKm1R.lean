/- Proved here: the program's Middle, for any two spokes within the layer's limits; refusals too. -/
import Derived.Test.YtkjjoclbjkpdaaaKc3R
namespace Go.Proofs.Ytkjjoclbjkpdaaa
open Go.RowKit
set_option linter.unusedVariables false
set_option linter.unusedSimpArgs false
/-- the direction of the middle -/
def mdU (aU aW bU bW dir : Int) (full : Bool) : Int := if full then -aU else if aU * bU + aW * bW ≤ 0 then dir * (bW - aW) else if (aU * bW - aW * bU) * dir ≤ 0 then -(aU + bU) else aU + bU
def mdW (aU aW bU bW dir : Int) (full : Bool) : Int := if full then -aW else if aU * bU + aW * bW ≤ 0 then dir * (aU - bU) else if (aU * bW - aW * bU) * dir ≤ 0 then -(aW + bW) else aW + bW
structure Sp (u w r h : Int) : Prop where
  u1 : -47453134 ≤ u
  u2 : u ≤ 47453134
  w1 : -47453134 ≤ w
  w2 : w ≤ 47453134
  r1 : 1 ≤ r
  r2 : r ≤ 94906268
  h1 : -47453134 ≤ h
  h2 : h ≤ 47453134
theorem wr_k {n : Int} (h1 : -9223372036854775808 ≤ n) (h2 : n ≤ 9223372036854775807) : IntKind.i64.wrap n = n := by rw [IntKind.wrap_i64]; omega
theorem dir_mul {d x : Int} (h : d = 1 ∨ d = -1) (h1 : -94906268 ≤ x) (h2 : x ≤ 94906268) : -94906268 ≤ d * x ∧ d * x ≤ 94906268 := by
  rcases h with rfl | rfl <;> omega
theorem dir_mul2 {d x : Int} (h : d = 1 ∨ d = -1) (h1 : -18014399411375648 ≤ x) (h2 : x ≤ 18014399411375648) : -18014399411375648 ≤ x * d ∧ x * d ≤ 18014399411375648 := by
  rcases h with rfl | rfl <;> omega
set_option maxHeartbeats 2000000 in
set_option maxRecDepth 20000 in
theorem middleP_dir (aU aW aR aH bU bW bR bH dir : Int) (full : Bool) (w : World) (h1 : dir ≠ 1) (h2 : dir ≠ -1) :
    Calls Try.prog 26 #[.agg #[.int .i64 aU, .int .i64 aW, .int .i64 aR, .int .i64 aH], .agg #[.int .i64 bU, .int .i64 bW, .int .i64 bR, .int .i64 bH], .int .i64 dir, .bool full] w fun e w' => e = .returned (.tuple #[.agg #[.int .i64 0, .int .i64 0, .int .i64 0, .int .i64 0], .bool false]) ∧ Below w.heap.size w w' := by
  have e1 : (dir == 1) = false := by simp; exact h1
  have e2 : (dir == -1) = false := by simp; exact h2
  have e3 : (dir != 1) = true := by simp; exact h1
  have e4 : (dir != -1) = true := by simp; exact h2
  clear h1 h2
  go_enter Try.func26, Try.ntmps26
  go_wp2_with fail
  refine bodyPost_ret (v := .tuple #[.agg #[.int .i64 0, .int .i64 0, .int .i64 0, .int .i64 0], .bool false]) (by simp [results, Try.results26, go_sem]) rfl ⟨rfl, ?_⟩
  (repeat (first | exact Below.refl _ _ | assumption | refine Below.drew ?_ | (refine Below.alloc ?_ (by simp <;> omega) _) | (refine Below.setCell ?_ (by simp <;> omega) _)))
set_option maxHeartbeats 8000000 in
set_option maxRecDepth 20000 in
theorem middleP_p (aU aW aR aH bU bW bR bH : Int) (full : Bool) (u v : Int) (w : World) (sa : Sp aU aW aR aH) (sb : Sp bU bW bR bH) (HU : Hid (mdU aU aW bU bW 1 full = u)) (HV : Hid (mdW aU aW bU bW 1 full = v)) :
    Calls Try.prog 26 #[.agg #[.int .i64 aU, .int .i64 aW, .int .i64 aR, .int .i64 aH], .agg #[.int .i64 bU, .int .i64 bW, .int .i64 bR, .int .i64 bH], .int .i64 1, .bool full] w fun e w' => e = .returned (if u = 0 ∧ v = 0 then .tuple #[.agg #[.int .i64 0, .int .i64 0, .int .i64 0, .int .i64 0], .bool false] else .tuple #[.agg #[.int .i64 (ovV u ((aR + bR + 1) / 2) (u * u + v * v) 2), .int .i64 (ovV v ((aR + bR + 1) / 2) (u * u + v * v) 2), .int .i64 ((aR + bR + 1) / 2), .int .i64 ((aH + bH + 1) / 2)], .bool true]) ∧ Below w.heap.size w w' := by
  obtain ⟨a1, a2, a3, a4, a5, a6, a7, a8⟩ := sa
  obtain ⟨b1, b2, b3, b4, b5, b6, b7, b8⟩ := sb
  have hd : (1 : Int) = 1 ∨ (1 : Int) = -1 := by omega
  have DP := fun w => Lib.hid (dotP_any aU aW aR aH bU bW bR bH w ⟨⟨by omega, by omega⟩, by omega, by omega⟩ ⟨⟨by omega, by omega⟩, by omega, by omega⟩)
  have CP := fun w => Lib.hid (crossP_any aU aW aR aH bU bW bR bH w ⟨⟨by omega, by omega⟩, by omega, by omega⟩ ⟨⟨by omega, by omega⟩, by omega, by omega⟩)
  have m1 := mul_bdK (x := aU) (y := bW) (by omega) (by omega) (by omega) (by omega)
  have m2 := mul_bdK (x := aW) (y := bU) (by omega) (by omega) (by omega) (by omega)
  have m3 := dir_mul2 hd (x := aU * bW - aW * bU) (by omega) (by omega)
  have m4 := dir_mul hd (x := bW - aW) (by omega) (by omega)
  have m5 := dir_mul hd (x := aU - bU) (by omega) (by omega)
  have W1 := Lib.hid (wr_k (n := aU + bU) (by omega) (by omega))
  have W2 := Lib.hid (wr_k (n := aW + bW) (by omega) (by omega))
  have W3 := Lib.hid (wr_k (n := bW - aW) (by omega) (by omega))
  have W4 := Lib.hid (wr_k (n := aU - bU) (by omega) (by omega))
  have W5 := Lib.hid (wr_k (n := 1 * (bW - aW)) (by omega) (by omega))
  have W6 := Lib.hid (wr_k (n := 1 * (aU - bU)) (by omega) (by omega))
  have W9 := Lib.hid (wr_k (n := aW - bW) (by omega) (by omega))
  have W10 := Lib.hid (wr_k (n := bU - aU) (by omega) (by omega))
  have W11 := Lib.hid (wr_k (n := -(aU + bU)) (by omega) (by omega))
  have W12 := Lib.hid (wr_k (n := -(aW + bW)) (by omega) (by omega))
  have W13 := Lib.hid (wr_k (n := -(bW - aW)) (by omega) (by omega))
  have W14 := Lib.hid (wr_k (n := -(aU - bU)) (by omega) (by omega))
  have W7 := Lib.hid (wr_k (n := -aU) (by omega) (by omega))
  have W8 := Lib.hid (wr_k (n := -aW) (by omega) (by omega))
  have hub : -94906268 ≤ u ∧ u ≤ 94906268 := by
    rw [← HU.out]; unfold mdU; (repeat' split) <;> omega
  have hvb : -94906268 ≤ v ∧ v ≤ 94906268 := by
    rw [← HV.out]; unfold mdW; (repeat' split) <;> omega
  have qu := sq_bdK (x := u) hub.1 hub.2
  have qv := sq_bdK (x := v) hvb.1 hvb.2
  have OV := fun x y n w h1 h2 h3 h4 => Lib.hid (over_any x y n 2 w h1 h2 h3 h4)
  obtain ⟨m3a, m3b⟩ := m3
  obtain ⟨u1, u2⟩ := hub
  obtain ⟨v1, v2⟩ := hvb
  obtain ⟨qu1, qu2⟩ := qu
  obtain ⟨qv1, qv2⟩ := qv
  clear hd m1 m2 m4 m5
  have hT : Lf w.heap.size (w.heap.size + 1 + 1 + 1) [(⟨w.heap.size, 0, none⟩, .int .i64 aU), (⟨w.heap.size, 1, none⟩, .int .i64 aW), (⟨w.heap.size, 2, none⟩, .int .i64 aR), (⟨w.heap.size, 3, none⟩, .int .i64 aH), (⟨w.heap.size + 1, 0, none⟩, .int .i64 bU), (⟨w.heap.size + 1, 1, none⟩, .int .i64 bW), (⟨w.heap.size + 1, 2, none⟩, .int .i64 bR), (⟨w.heap.size + 1, 3, none⟩, .int .i64 bH), (⟨w.heap.size + 1 + 1, 0, none⟩, .int .i64 0), (⟨w.heap.size + 1 + 1, 1, none⟩, .int .i64 0), (⟨w.heap.size + 1 + 1, 2, none⟩, .int .i64 0), (⟨w.heap.size + 1 + 1, 3, none⟩, .int .i64 0)] w (((w.alloc (.cells #[.int .i64 aU, .int .i64 aW, .int .i64 aR, .int .i64 aH] 34)).alloc (.cells #[.int .i64 bU, .int .i64 bW, .int .i64 bR, .int .i64 bH] 34)).alloc (.cells #[.int .i64 0, .int .i64 0, .int .i64 0, .int .i64 0] 34)) :=
    ⟨by simp [List.forall_mem_cons, go_sem], by simp [List.forall_mem_cons, go_sem], by simp [List.forall_mem_cons] <;> omega, by simp, by (repeat (first | exact Below.refl _ _ | assumption | refine Below.drew ?_ | (refine Below.alloc ?_ (by simp <;> omega) _) | (refine Below.setCell ?_ (by simp <;> omega) _))), by omega⟩
  (
    go_enter Try.func26, Try.ntmps26
    go_upto_region 3 with fail
    (refine wp_region_class (Lf w.heap.size (w.heap.size + 1 + 1 + 1) [(⟨w.heap.size, 0, none⟩, .int .i64 aU), (⟨w.heap.size, 1, none⟩, .int .i64 aW), (⟨w.heap.size, 2, none⟩, .int .i64 aR), (⟨w.heap.size, 3, none⟩, .int .i64 aH), (⟨w.heap.size + 1, 0, none⟩, .int .i64 bU), (⟨w.heap.size + 1, 1, none⟩, .int .i64 bW), (⟨w.heap.size + 1, 2, none⟩, .int .i64 bR), (⟨w.heap.size + 1, 3, none⟩, .int .i64 bH), (⟨w.heap.size + 1 + 1, 0, none⟩, .int .i64 0), (⟨w.heap.size + 1 + 1, 1, none⟩, .int .i64 0), (⟨w.heap.size + 1 + 1, 2, none⟩, .int .i64 0), (⟨w.heap.size + 1 + 1, 3, none⟩, .int .i64 0)] w) (hT.next (Below.refl _ _).drew) (by kernel_rfl) (by kernel_rfl) ?_; repeat (refine wpQuiet_step (fun qK9 qH9 => ?_); go_simp; first | (refine qH9 _ ?_; clear qH9 qK9) | (apply Exists.intro; refine ⟨?_, qH9 _ ?_⟩; (first | (intros; rfl) | ((intro wx hC; ((have qk9 := (hC).cells; simp only [List.forall_mem_cons, List.not_mem_nil, false_implies, implies_true, and_true] at qk9; repeat (obtain ⟨qk8, qk9⟩ := qk9)); go_simp; first | done | rfl)))); clear qH9 qK9)))
    refine wpQuiet_nil ?_
    clear hT
    intro wy hT
    rewrite [W1.out, W2.out]
    first | go_upto_block 0 with fail | go_upto_block 1 with fail | go_upto_block 2 with fail
    go_cut [10, 11] (fun s t wx => s = .int .i64 u ∧ t = .int .i64 v ∧ Lf w.heap.size (w.heap.size + 1 + 1 + 1) [(⟨w.heap.size, 0, none⟩, .int .i64 aU), (⟨w.heap.size, 1, none⟩, .int .i64 aW), (⟨w.heap.size, 2, none⟩, .int .i64 aR), (⟨w.heap.size, 3, none⟩, .int .i64 aH), (⟨w.heap.size + 1, 0, none⟩, .int .i64 bU), (⟨w.heap.size + 1, 1, none⟩, .int .i64 bW), (⟨w.heap.size + 1, 2, none⟩, .int .i64 bR), (⟨w.heap.size + 1, 3, none⟩, .int .i64 bH), (⟨w.heap.size + 1 + 1, 0, none⟩, .int .i64 0), (⟨w.heap.size + 1 + 1, 1, none⟩, .int .i64 0), (⟨w.heap.size + 1 + 1, 2, none⟩, .int .i64 0), (⟨w.heap.size + 1 + 1, 3, none⟩, .int .i64 0)] w wx)
    case first =>
      cases full
      · by_cases hc1 : aU * bU + aW * bW ≤ 0
        · have HC1 := Lib.hid hc1
          clear hc1
          have kc := hT.cells
          have kf := hT.frz
          simp only [List.forall_mem_cons, List.not_mem_nil, false_implies, implies_true, and_true] at kc kf
          obtain ⟨c0, c1, c2, c3, c4, c5, c6, c7, c8, c9, c10, c11⟩ := kc
          obtain ⟨f0, f1, f2, f3, f4, f5, f6, f7, f8, f9, f10, f11⟩ := kf
          have hc1 := HC1.out
          go_upto_region 6 with fail
          go_wp2_with fail
          refine (DP _).out.mono ?_
          rintro e w1 ⟨rfl, hb1⟩
          have hT := hT.next hb1
          go_upto_region 7 with fail
          (refine wp_region_class (Lf w.heap.size (w.heap.size + 1 + 1 + 1) [(⟨w.heap.size, 0, none⟩, .int .i64 aU), (⟨w.heap.size, 1, none⟩, .int .i64 aW), (⟨w.heap.size, 2, none⟩, .int .i64 aR), (⟨w.heap.size, 3, none⟩, .int .i64 aH), (⟨w.heap.size + 1, 0, none⟩, .int .i64 bU), (⟨w.heap.size + 1, 1, none⟩, .int .i64 bW), (⟨w.heap.size + 1, 2, none⟩, .int .i64 bR), (⟨w.heap.size + 1, 3, none⟩, .int .i64 bH), (⟨w.heap.size + 1 + 1, 0, none⟩, .int .i64 0), (⟨w.heap.size + 1 + 1, 1, none⟩, .int .i64 0), (⟨w.heap.size + 1 + 1, 2, none⟩, .int .i64 0), (⟨w.heap.size + 1 + 1, 3, none⟩, .int .i64 0)] w) (hT.next (Below.refl _ _).drew) (by kernel_rfl) (by kernel_rfl) ?_; repeat (refine wpQuiet_step (fun qK9 qH9 => ?_); go_simp; first | (refine qH9 _ ?_; clear qH9 qK9) | (apply Exists.intro; refine ⟨?_, qH9 _ ?_⟩; (first | (intros; rfl) | ((intro wx hC; ((have qk9 := (hC).cells; simp only [List.forall_mem_cons, List.not_mem_nil, false_implies, implies_true, and_true] at qk9; repeat (obtain ⟨qk8, qk9⟩ := qk9)); go_simp; first | done | rfl)))); clear qH9 qK9)))
          refine wpQuiet_nil ?_
          clear hT
          intro wz hT
          go_wp2_with fail
          go_meet
          refine ⟨?_, ?_, hT⟩
          · rw [← HU.out]; simp [mdU, hc1, W3.out, W4.out, W13.out]
          · rw [← HV.out]; simp [mdW, hc1, W3.out, W4.out, W14.out]
        · have hn : 0 < aU * bU + aW * bW := by omega
          have HC1 := Lib.hid hc1
          clear hc1
          by_cases hc2 : aU * bW - aW * bU ≤ 0
          all_goals
            have HC2 := Lib.hid hc2
            clear hc2
            have kc := hT.cells
            have kf := hT.frz
            simp only [List.forall_mem_cons, List.not_mem_nil, false_implies, implies_true, and_true] at kc kf
            obtain ⟨c0, c1, c2, c3, c4, c5, c6, c7, c8, c9, c10, c11⟩ := kc
            obtain ⟨f0, f1, f2, f3, f4, f5, f6, f7, f8, f9, f10, f11⟩ := kf
            have hc2 := HC2.out
            go_upto_region 6 with fail
            go_wp2_with fail
            refine (DP _).out.mono ?_
            rintro e w1 ⟨rfl, hb1⟩
            have hT := hT.next hb1
            have kc := hT.cells
            have kf := hT.frz
            simp only [List.forall_mem_cons, List.not_mem_nil, false_implies, implies_true, and_true] at kc kf
            obtain ⟨c0, c1, c2, c3, c4, c5, c6, c7, c8, c9, c10, c11⟩ := kc
            obtain ⟨f0, f1, f2, f3, f4, f5, f6, f7, f8, f9, f10, f11⟩ := kf
            go_wp2_with fail
            refine (CP _).out.mono ?_
            rintro e w2 ⟨rfl, hb2⟩
            have hT := hT.next hb2
            go_wp2_with fail
            go_meet
            refine ⟨?_, ?_, hT⟩
            · rw [← HU.out]; simp [mdU, HC1.out, HC2.out]; try omega
            · rw [← HV.out]; simp [mdW, HC1.out, HC2.out]; try omega
      · go_upto_region 5 with fail
        (refine wp_region_class (Lf w.heap.size (w.heap.size + 1 + 1 + 1) [(⟨w.heap.size, 0, none⟩, .int .i64 aU), (⟨w.heap.size, 1, none⟩, .int .i64 aW), (⟨w.heap.size, 2, none⟩, .int .i64 aR), (⟨w.heap.size, 3, none⟩, .int .i64 aH), (⟨w.heap.size + 1, 0, none⟩, .int .i64 bU), (⟨w.heap.size + 1, 1, none⟩, .int .i64 bW), (⟨w.heap.size + 1, 2, none⟩, .int .i64 bR), (⟨w.heap.size + 1, 3, none⟩, .int .i64 bH), (⟨w.heap.size + 1 + 1, 0, none⟩, .int .i64 0), (⟨w.heap.size + 1 + 1, 1, none⟩, .int .i64 0), (⟨w.heap.size + 1 + 1, 2, none⟩, .int .i64 0), (⟨w.heap.size + 1 + 1, 3, none⟩, .int .i64 0)] w) (hT.next (Below.refl _ _).drew) (by kernel_rfl) (by kernel_rfl) ?_; repeat (refine wpQuiet_step (fun qK9 qH9 => ?_); go_simp; first | (refine qH9 _ ?_; clear qH9 qK9) | (apply Exists.intro; refine ⟨?_, qH9 _ ?_⟩; (first | (intros; rfl) | ((intro wx hC; ((have qk9 := (hC).cells; simp only [List.forall_mem_cons, List.not_mem_nil, false_implies, implies_true, and_true] at qk9; repeat (obtain ⟨qk8, qk9⟩ := qk9)); go_simp; first | done | rfl)))); clear qH9 qK9)))
        refine wpQuiet_nil ?_
        clear hT
        intro wz hT
        go_wp2_with fail
        go_meet
        refine ⟨?_, ?_, hT⟩
        · rw [← HU.out]; simp [mdU, W7.out]
        · rw [← HV.out]; simp [mdW, W8.out]
    case rest =>
      obtain ⟨rfl, rfl, hT⟩ := hcut
      clear HU HV DP CP W1 W2 W3 W4 W5 W6 W7 W8 W9 W10 W11 W12 W13 W14 m3a m3b
      have kc := hT.cells
      have kf := hT.frz
      simp only [List.forall_mem_cons, List.not_mem_nil, false_implies, implies_true, and_true] at kc kf
      obtain ⟨c0, c1, c2, c3, c4, c5, c6, c7, c8, c9, c10, c11⟩ := kc
      obtain ⟨f0, f1, f2, f3, f4, f5, f6, f7, f8, f9, f10, f11⟩ := kf
      by_cases hu : u = 0
      · by_cases hv : v = 0
        · subst hu hv
          go_wp2_with fail
          refine bodyPost_ret (v := .tuple #[.agg #[.int .i64 0, .int .i64 0, .int .i64 0, .int .i64 0], .bool false]) (by simp [results, Try.results26, go_sem, *]) rfl ⟨by simp, ?_⟩
          exact (((hT.be.setCell (by simp; omega) _).setCell (by simp; omega) _).setCell (by simp; omega) _).setCell (by simp; omega) _
        · subst hu
          have hv0 : (v == 0) = false := by simp; exact hv
          have hv1 : decide (v = 0) = false := decide_eq_false hv
          have HI : Hid (¬ ((0 : Int) = 0 ∧ v = 0)) := fun h => hv h.2
          go_wp2_with fail
          have hP0 := hT.push #[.int .i64 0, .int .i64 0, .int .i64 ((aR + bR + 1) / 2), .int .i64 ((aH + bH + 1) / 2)] 34
          obtain ⟨n1, hn1⟩ : ∃ n1, wc.heap.size = n1 := ⟨_, rfl⟩
          have hl : w.heap.size + 1 + 1 + 1 ≤ n1 := by have := hT.lt; omega
          rewrite [hn1] at hP0
          rewrite [hn1]
          refine (OV _ _ _ _ (by omega) (by omega) (by omega) (by omega)).out.mono ?_
          rintro e w2 ⟨rfl, hb2⟩
          have hP : Lf w.heap.size (n1 + 1) [(⟨n1, 0, none⟩, .int .i64 0), (⟨n1, 1, none⟩, .int .i64 0), (⟨n1, 2, none⟩, .int .i64 ((aR + bR + 1) / 2)), (⟨n1, 3, none⟩, .int .i64 ((aH + bH + 1) / 2)), (⟨w.heap.size, 0, none⟩, .int .i64 aU), (⟨w.heap.size, 1, none⟩, .int .i64 aW), (⟨w.heap.size, 2, none⟩, .int .i64 aR), (⟨w.heap.size, 3, none⟩, .int .i64 aH), (⟨w.heap.size + 1, 0, none⟩, .int .i64 bU), (⟨w.heap.size + 1, 1, none⟩, .int .i64 bW), (⟨w.heap.size + 1, 2, none⟩, .int .i64 bR), (⟨w.heap.size + 1, 3, none⟩, .int .i64 bH), (⟨w.heap.size + 1 + 1, 0, none⟩, .int .i64 0), (⟨w.heap.size + 1 + 1, 1, none⟩, .int .i64 0), (⟨w.heap.size + 1 + 1, 2, none⟩, .int .i64 0), (⟨w.heap.size + 1 + 1, 3, none⟩, .int .i64 0)] w w2 := hP0.next hb2
          clear hP0 hb2 hT hn1 c0 f0 c1 f1 c2 f2 c3 f3 c4 f4 c5 f5 c6 f6 c7 f7 c8 f8 c9 f9 c10 f10 c11 f11
          have kc := hP.cells
          have kf := hP.frz
          simp only [List.forall_mem_cons, List.not_mem_nil, false_implies, implies_true, and_true] at kc kf
          obtain ⟨c0, c1, c2, c3, c4, c5, c6, c7, c8, c9, c10, c11, c12, c13, c14, c15⟩ := kc
          obtain ⟨f0, f1, f2, f3, f4, f5, f6, f7, f8, f9, f10, f11, f12, f13, f14, f15⟩ := kf
          go_wp2_with fail
          refine (OV _ _ _ _ (by omega) (by omega) (by omega) (by omega)).out.mono ?_
          rintro e w3 ⟨rfl, hb3⟩
          have hQ : Lf w.heap.size (n1 + 1) [(⟨n1, 0, none⟩, .int .i64 (ovV 0 ((aR + bR + 1) / 2) (v * v) 2)), (⟨n1, 1, none⟩, .int .i64 0), (⟨n1, 2, none⟩, .int .i64 ((aR + bR + 1) / 2)), (⟨n1, 3, none⟩, .int .i64 ((aH + bH + 1) / 2)), (⟨w.heap.size, 0, none⟩, .int .i64 aU), (⟨w.heap.size, 1, none⟩, .int .i64 aW), (⟨w.heap.size, 2, none⟩, .int .i64 aR), (⟨w.heap.size, 3, none⟩, .int .i64 aH), (⟨w.heap.size + 1, 0, none⟩, .int .i64 bU), (⟨w.heap.size + 1, 1, none⟩, .int .i64 bW), (⟨w.heap.size + 1, 2, none⟩, .int .i64 bR), (⟨w.heap.size + 1, 3, none⟩, .int .i64 bH), (⟨w.heap.size + 1 + 1, 0, none⟩, .int .i64 0), (⟨w.heap.size + 1 + 1, 1, none⟩, .int .i64 0), (⟨w.heap.size + 1 + 1, 2, none⟩, .int .i64 0), (⟨w.heap.size + 1 + 1, 3, none⟩, .int .i64 0)] w w3 := (hP.set 0 n1 0 _ (.int .i64 (ovV 0 ((aR + bR + 1) / 2) (v * v) 2)) rfl (by simp [List.forall_mem_cons]; omega) (by omega)).next hb3
          clear hP hb3 c0 f0 c1 f1 c2 f2 c3 f3 c4 f4 c5 f5 c6 f6 c7 f7 c8 f8 c9 f9 c10 f10 c11 f11 c12 f12 c13 f13 c14 f14 c15 f15
          have kc := hQ.cells
          have kf := hQ.frz
          simp only [List.forall_mem_cons, List.not_mem_nil, false_implies, implies_true, and_true] at kc kf
          obtain ⟨c0, c1, c2, c3, c4, c5, c6, c7, c8, c9, c10, c11, c12, c13, c14, c15⟩ := kc
          obtain ⟨f0, f1, f2, f3, f4, f5, f6, f7, f8, f9, f10, f11, f12, f13, f14, f15⟩ := kf
          go_wp2_with fail
          have g0 : Lf w.heap.size (n1 + 1) [(⟨n1, 0, none⟩, .int .i64 (ovV 0 ((aR + bR + 1) / 2) (v * v) 2)), (⟨n1, 1, none⟩, .int .i64 (ovV v ((aR + bR + 1) / 2) (v * v) 2)), (⟨n1, 2, none⟩, .int .i64 ((aR + bR + 1) / 2)), (⟨n1, 3, none⟩, .int .i64 ((aH + bH + 1) / 2)), (⟨w.heap.size, 0, none⟩, .int .i64 aU), (⟨w.heap.size, 1, none⟩, .int .i64 aW), (⟨w.heap.size, 2, none⟩, .int .i64 aR), (⟨w.heap.size, 3, none⟩, .int .i64 aH), (⟨w.heap.size + 1, 0, none⟩, .int .i64 bU), (⟨w.heap.size + 1, 1, none⟩, .int .i64 bW), (⟨w.heap.size + 1, 2, none⟩, .int .i64 bR), (⟨w.heap.size + 1, 3, none⟩, .int .i64 bH), (⟨w.heap.size + 1 + 1, 0, none⟩, .int .i64 0), (⟨w.heap.size + 1 + 1, 1, none⟩, .int .i64 0), (⟨w.heap.size + 1 + 1, 2, none⟩, .int .i64 0), (⟨w.heap.size + 1 + 1, 3, none⟩, .int .i64 0)] w _ := hQ.set 1 (n1) 1 _ (.int .i64 (ovV v ((aR + bR + 1) / 2) (v * v) 2)) rfl (by simp [List.forall_mem_cons]; omega) (by omega)
          have g1 : Lf w.heap.size (n1 + 1) [(⟨n1, 0, none⟩, .int .i64 (ovV 0 ((aR + bR + 1) / 2) (v * v) 2)), (⟨n1, 1, none⟩, .int .i64 (ovV v ((aR + bR + 1) / 2) (v * v) 2)), (⟨n1, 2, none⟩, .int .i64 ((aR + bR + 1) / 2)), (⟨n1, 3, none⟩, .int .i64 ((aH + bH + 1) / 2)), (⟨w.heap.size, 0, none⟩, .int .i64 aU), (⟨w.heap.size, 1, none⟩, .int .i64 aW), (⟨w.heap.size, 2, none⟩, .int .i64 aR), (⟨w.heap.size, 3, none⟩, .int .i64 aH), (⟨w.heap.size + 1, 0, none⟩, .int .i64 bU), (⟨w.heap.size + 1, 1, none⟩, .int .i64 bW), (⟨w.heap.size + 1, 2, none⟩, .int .i64 bR), (⟨w.heap.size + 1, 3, none⟩, .int .i64 bH), (⟨w.heap.size + 1 + 1, 0, none⟩, .int .i64 (ovV 0 ((aR + bR + 1) / 2) (v * v) 2)), (⟨w.heap.size + 1 + 1, 1, none⟩, .int .i64 0), (⟨w.heap.size + 1 + 1, 2, none⟩, .int .i64 0), (⟨w.heap.size + 1 + 1, 3, none⟩, .int .i64 0)] w _ := g0.set 12 (w.heap.size + 1 + 1) 0 _ (.int .i64 (ovV 0 ((aR + bR + 1) / 2) (v * v) 2)) rfl (by simp [List.forall_mem_cons]; omega) (by omega)
          have g2 : Lf w.heap.size (n1 + 1) [(⟨n1, 0, none⟩, .int .i64 (ovV 0 ((aR + bR + 1) / 2) (v * v) 2)), (⟨n1, 1, none⟩, .int .i64 (ovV v ((aR + bR + 1) / 2) (v * v) 2)), (⟨n1, 2, none⟩, .int .i64 ((aR + bR + 1) / 2)), (⟨n1, 3, none⟩, .int .i64 ((aH + bH + 1) / 2)), (⟨w.heap.size, 0, none⟩, .int .i64 aU), (⟨w.heap.size, 1, none⟩, .int .i64 aW), (⟨w.heap.size, 2, none⟩, .int .i64 aR), (⟨w.heap.size, 3, none⟩, .int .i64 aH), (⟨w.heap.size + 1, 0, none⟩, .int .i64 bU), (⟨w.heap.size + 1, 1, none⟩, .int .i64 bW), (⟨w.heap.size + 1, 2, none⟩, .int .i64 bR), (⟨w.heap.size + 1, 3, none⟩, .int .i64 bH), (⟨w.heap.size + 1 + 1, 0, none⟩, .int .i64 (ovV 0 ((aR + bR + 1) / 2) (v * v) 2)), (⟨w.heap.size + 1 + 1, 1, none⟩, .int .i64 (ovV v ((aR + bR + 1) / 2) (v * v) 2)), (⟨w.heap.size + 1 + 1, 2, none⟩, .int .i64 0), (⟨w.heap.size + 1 + 1, 3, none⟩, .int .i64 0)] w _ := g1.set 13 (w.heap.size + 1 + 1) 1 _ (.int .i64 (ovV v ((aR + bR + 1) / 2) (v * v) 2)) rfl (by simp [List.forall_mem_cons]; omega) (by omega)
          have g3 : Lf w.heap.size (n1 + 1) [(⟨n1, 0, none⟩, .int .i64 (ovV 0 ((aR + bR + 1) / 2) (v * v) 2)), (⟨n1, 1, none⟩, .int .i64 (ovV v ((aR + bR + 1) / 2) (v * v) 2)), (⟨n1, 2, none⟩, .int .i64 ((aR + bR + 1) / 2)), (⟨n1, 3, none⟩, .int .i64 ((aH + bH + 1) / 2)), (⟨w.heap.size, 0, none⟩, .int .i64 aU), (⟨w.heap.size, 1, none⟩, .int .i64 aW), (⟨w.heap.size, 2, none⟩, .int .i64 aR), (⟨w.heap.size, 3, none⟩, .int .i64 aH), (⟨w.heap.size + 1, 0, none⟩, .int .i64 bU), (⟨w.heap.size + 1, 1, none⟩, .int .i64 bW), (⟨w.heap.size + 1, 2, none⟩, .int .i64 bR), (⟨w.heap.size + 1, 3, none⟩, .int .i64 bH), (⟨w.heap.size + 1 + 1, 0, none⟩, .int .i64 (ovV 0 ((aR + bR + 1) / 2) (v * v) 2)), (⟨w.heap.size + 1 + 1, 1, none⟩, .int .i64 (ovV v ((aR + bR + 1) / 2) (v * v) 2)), (⟨w.heap.size + 1 + 1, 2, none⟩, .int .i64 ((aR + bR + 1) / 2)), (⟨w.heap.size + 1 + 1, 3, none⟩, .int .i64 0)] w _ := g2.set 14 (w.heap.size + 1 + 1) 2 _ (.int .i64 ((aR + bR + 1) / 2)) rfl (by simp [List.forall_mem_cons]; omega) (by omega)
          have g4 : Lf w.heap.size (n1 + 1) [(⟨n1, 0, none⟩, .int .i64 (ovV 0 ((aR + bR + 1) / 2) (v * v) 2)), (⟨n1, 1, none⟩, .int .i64 (ovV v ((aR + bR + 1) / 2) (v * v) 2)), (⟨n1, 2, none⟩, .int .i64 ((aR + bR + 1) / 2)), (⟨n1, 3, none⟩, .int .i64 ((aH + bH + 1) / 2)), (⟨w.heap.size, 0, none⟩, .int .i64 aU), (⟨w.heap.size, 1, none⟩, .int .i64 aW), (⟨w.heap.size, 2, none⟩, .int .i64 aR), (⟨w.heap.size, 3, none⟩, .int .i64 aH), (⟨w.heap.size + 1, 0, none⟩, .int .i64 bU), (⟨w.heap.size + 1, 1, none⟩, .int .i64 bW), (⟨w.heap.size + 1, 2, none⟩, .int .i64 bR), (⟨w.heap.size + 1, 3, none⟩, .int .i64 bH), (⟨w.heap.size + 1 + 1, 0, none⟩, .int .i64 (ovV 0 ((aR + bR + 1) / 2) (v * v) 2)), (⟨w.heap.size + 1 + 1, 1, none⟩, .int .i64 (ovV v ((aR + bR + 1) / 2) (v * v) 2)), (⟨w.heap.size + 1 + 1, 2, none⟩, .int .i64 ((aR + bR + 1) / 2)), (⟨w.heap.size + 1 + 1, 3, none⟩, .int .i64 ((aH + bH + 1) / 2))] w _ := g3.set 15 (w.heap.size + 1 + 1) 3 _ (.int .i64 ((aH + bH + 1) / 2)) rfl (by simp [List.forall_mem_cons]; omega) (by omega)
          have kc := g4.cells
          simp only [List.forall_mem_cons, List.not_mem_nil, false_implies, implies_true, and_true] at kc
          obtain ⟨z0, z1, z2, z3, z4, z5, z6, z7, z8, z9, z10, z11, z12, z13, z14, z15⟩ := kc
          refine bodyPost_ret (v := .tuple #[.agg #[.int .i64 (ovV 0 ((aR + bR + 1) / 2) (v * v) 2), .int .i64 (ovV v ((aR + bR + 1) / 2) (v * v) 2), .int .i64 ((aR + bR + 1) / 2), .int .i64 ((aH + bH + 1) / 2)], .bool true]) (by simp [results, Try.results26, go_sem, z12, z13, z14, z15]) rfl ⟨?_, g4.be⟩
          first | rfl | (rw [if_neg HI.out]; first | rfl | (simp; done)) | (simp; done)
      · have hu0 : (u == 0) = false := by simp; exact hu
        have hi : ¬ (u = 0 ∧ v = 0) := fun h => hu h.1
        have HI := Lib.hid hi
        clear hu hi
        go_wp2_with fail
        have hP0 := hT.push #[.int .i64 0, .int .i64 0, .int .i64 ((aR + bR + 1) / 2), .int .i64 ((aH + bH + 1) / 2)] 34
        obtain ⟨n1, hn1⟩ : ∃ n1, wc.heap.size = n1 := ⟨_, rfl⟩
        have hl : w.heap.size + 1 + 1 + 1 ≤ n1 := by have := hT.lt; omega
        rewrite [hn1] at hP0
        rewrite [hn1]
        refine (OV _ _ _ _ (by omega) (by omega) (by omega) (by omega)).out.mono ?_
        rintro e w2 ⟨rfl, hb2⟩
        have hP : Lf w.heap.size (n1 + 1) [(⟨n1, 0, none⟩, .int .i64 0), (⟨n1, 1, none⟩, .int .i64 0), (⟨n1, 2, none⟩, .int .i64 ((aR + bR + 1) / 2)), (⟨n1, 3, none⟩, .int .i64 ((aH + bH + 1) / 2)), (⟨w.heap.size, 0, none⟩, .int .i64 aU), (⟨w.heap.size, 1, none⟩, .int .i64 aW), (⟨w.heap.size, 2, none⟩, .int .i64 aR), (⟨w.heap.size, 3, none⟩, .int .i64 aH), (⟨w.heap.size + 1, 0, none⟩, .int .i64 bU), (⟨w.heap.size + 1, 1, none⟩, .int .i64 bW), (⟨w.heap.size + 1, 2, none⟩, .int .i64 bR), (⟨w.heap.size + 1, 3, none⟩, .int .i64 bH), (⟨w.heap.size + 1 + 1, 0, none⟩, .int .i64 0), (⟨w.heap.size + 1 + 1, 1, none⟩, .int .i64 0), (⟨w.heap.size + 1 + 1, 2, none⟩, .int .i64 0), (⟨w.heap.size + 1 + 1, 3, none⟩, .int .i64 0)] w w2 := hP0.next hb2
        clear hP0 hb2 hT hn1 c0 f0 c1 f1 c2 f2 c3 f3 c4 f4 c5 f5 c6 f6 c7 f7 c8 f8 c9 f9 c10 f10 c11 f11
        have kc := hP.cells
        have kf := hP.frz
        simp only [List.forall_mem_cons, List.not_mem_nil, false_implies, implies_true, and_true] at kc kf
        obtain ⟨c0, c1, c2, c3, c4, c5, c6, c7, c8, c9, c10, c11, c12, c13, c14, c15⟩ := kc
        obtain ⟨f0, f1, f2, f3, f4, f5, f6, f7, f8, f9, f10, f11, f12, f13, f14, f15⟩ := kf
        go_wp2_with fail
        refine (OV _ _ _ _ (by omega) (by omega) (by omega) (by omega)).out.mono ?_
        rintro e w3 ⟨rfl, hb3⟩
        have hQ : Lf w.heap.size (n1 + 1) [(⟨n1, 0, none⟩, .int .i64 (ovV u ((aR + bR + 1) / 2) (u * u + v * v) 2)), (⟨n1, 1, none⟩, .int .i64 0), (⟨n1, 2, none⟩, .int .i64 ((aR + bR + 1) / 2)), (⟨n1, 3, none⟩, .int .i64 ((aH + bH + 1) / 2)), (⟨w.heap.size, 0, none⟩, .int .i64 aU), (⟨w.heap.size, 1, none⟩, .int .i64 aW), (⟨w.heap.size, 2, none⟩, .int .i64 aR), (⟨w.heap.size, 3, none⟩, .int .i64 aH), (⟨w.heap.size + 1, 0, none⟩, .int .i64 bU), (⟨w.heap.size + 1, 1, none⟩, .int .i64 bW), (⟨w.heap.size + 1, 2, none⟩, .int .i64 bR), (⟨w.heap.size + 1, 3, none⟩, .int .i64 bH), (⟨w.heap.size + 1 + 1, 0, none⟩, .int .i64 0), (⟨w.heap.size + 1 + 1, 1, none⟩, .int .i64 0), (⟨w.heap.size + 1 + 1, 2, none⟩, .int .i64 0), (⟨w.heap.size + 1 + 1, 3, none⟩, .int .i64 0)] w w3 := (hP.set 0 n1 0 _ (.int .i64 (ovV u ((aR + bR + 1) / 2) (u * u + v * v) 2)) rfl (by simp [List.forall_mem_cons]; omega) (by omega)).next hb3
        clear hP hb3 c0 f0 c1 f1 c2 f2 c3 f3 c4 f4 c5 f5 c6 f6 c7 f7 c8 f8 c9 f9 c10 f10 c11 f11 c12 f12 c13 f13 c14 f14 c15 f15
        have kc := hQ.cells
        have kf := hQ.frz
        simp only [List.forall_mem_cons, List.not_mem_nil, false_implies, implies_true, and_true] at kc kf
        obtain ⟨c0, c1, c2, c3, c4, c5, c6, c7, c8, c9, c10, c11, c12, c13, c14, c15⟩ := kc
        obtain ⟨f0, f1, f2, f3, f4, f5, f6, f7, f8, f9, f10, f11, f12, f13, f14, f15⟩ := kf
        go_wp2_with fail
        have g0 : Lf w.heap.size (n1 + 1) [(⟨n1, 0, none⟩, .int .i64 (ovV u ((aR + bR + 1) / 2) (u * u + v * v) 2)), (⟨n1, 1, none⟩, .int .i64 (ovV v ((aR + bR + 1) / 2) (u * u + v * v) 2)), (⟨n1, 2, none⟩, .int .i64 ((aR + bR + 1) / 2)), (⟨n1, 3, none⟩, .int .i64 ((aH + bH + 1) / 2)), (⟨w.heap.size, 0, none⟩, .int .i64 aU), (⟨w.heap.size, 1, none⟩, .int .i64 aW), (⟨w.heap.size, 2, none⟩, .int .i64 aR), (⟨w.heap.size, 3, none⟩, .int .i64 aH), (⟨w.heap.size + 1, 0, none⟩, .int .i64 bU), (⟨w.heap.size + 1, 1, none⟩, .int .i64 bW), (⟨w.heap.size + 1, 2, none⟩, .int .i64 bR), (⟨w.heap.size + 1, 3, none⟩, .int .i64 bH), (⟨w.heap.size + 1 + 1, 0, none⟩, .int .i64 0), (⟨w.heap.size + 1 + 1, 1, none⟩, .int .i64 0), (⟨w.heap.size + 1 + 1, 2, none⟩, .int .i64 0), (⟨w.heap.size + 1 + 1, 3, none⟩, .int .i64 0)] w _ := hQ.set 1 (n1) 1 _ (.int .i64 (ovV v ((aR + bR + 1) / 2) (u * u + v * v) 2)) rfl (by simp [List.forall_mem_cons]; omega) (by omega)
        have g1 : Lf w.heap.size (n1 + 1) [(⟨n1, 0, none⟩, .int .i64 (ovV u ((aR + bR + 1) / 2) (u * u + v * v) 2)), (⟨n1, 1, none⟩, .int .i64 (ovV v ((aR + bR + 1) / 2) (u * u + v * v) 2)), (⟨n1, 2, none⟩, .int .i64 ((aR + bR + 1) / 2)), (⟨n1, 3, none⟩, .int .i64 ((aH + bH + 1) / 2)), (⟨w.heap.size, 0, none⟩, .int .i64 aU), (⟨w.heap.size, 1, none⟩, .int .i64 aW), (⟨w.heap.size, 2, none⟩, .int .i64 aR), (⟨w.heap.size, 3, none⟩, .int .i64 aH), (⟨w.heap.size + 1, 0, none⟩, .int .i64 bU), (⟨w.heap.size + 1, 1, none⟩, .int .i64 bW), (⟨w.heap.size + 1, 2, none⟩, .int .i64 bR), (⟨w.heap.size + 1, 3, none⟩, .int .i64 bH), (⟨w.heap.size + 1 + 1, 0, none⟩, .int .i64 (ovV u ((aR + bR + 1) / 2) (u * u + v * v) 2)), (⟨w.heap.size + 1 + 1, 1, none⟩, .int .i64 0), (⟨w.heap.size + 1 + 1, 2, none⟩, .int .i64 0), (⟨w.heap.size + 1 + 1, 3, none⟩, .int .i64 0)] w _ := g0.set 12 (w.heap.size + 1 + 1) 0 _ (.int .i64 (ovV u ((aR + bR + 1) / 2) (u * u + v * v) 2)) rfl (by simp [List.forall_mem_cons]; omega) (by omega)
        have g2 : Lf w.heap.size (n1 + 1) [(⟨n1, 0, none⟩, .int .i64 (ovV u ((aR + bR + 1) / 2) (u * u + v * v) 2)), (⟨n1, 1, none⟩, .int .i64 (ovV v ((aR + bR + 1) / 2) (u * u + v * v) 2)), (⟨n1, 2, none⟩, .int .i64 ((aR + bR + 1) / 2)), (⟨n1, 3, none⟩, .int .i64 ((aH + bH + 1) / 2)), (⟨w.heap.size, 0, none⟩, .int .i64 aU), (⟨w.heap.size, 1, none⟩, .int .i64 aW), (⟨w.heap.size, 2, none⟩, .int .i64 aR), (⟨w.heap.size, 3, none⟩, .int .i64 aH), (⟨w.heap.size + 1, 0, none⟩, .int .i64 bU), (⟨w.heap.size + 1, 1, none⟩, .int .i64 bW), (⟨w.heap.size + 1, 2, none⟩, .int .i64 bR), (⟨w.heap.size + 1, 3, none⟩, .int .i64 bH), (⟨w.heap.size + 1 + 1, 0, none⟩, .int .i64 (ovV u ((aR + bR + 1) / 2) (u * u + v * v) 2)), (⟨w.heap.size + 1 + 1, 1, none⟩, .int .i64 (ovV v ((aR + bR + 1) / 2) (u * u + v * v) 2)), (⟨w.heap.size + 1 + 1, 2, none⟩, .int .i64 0), (⟨w.heap.size + 1 + 1, 3, none⟩, .int .i64 0)] w _ := g1.set 13 (w.heap.size + 1 + 1) 1 _ (.int .i64 (ovV v ((aR + bR + 1) / 2) (u * u + v * v) 2)) rfl (by simp [List.forall_mem_cons]; omega) (by omega)
        have g3 : Lf w.heap.size (n1 + 1) [(⟨n1, 0, none⟩, .int .i64 (ovV u ((aR + bR + 1) / 2) (u * u + v * v) 2)), (⟨n1, 1, none⟩, .int .i64 (ovV v ((aR + bR + 1) / 2) (u * u + v * v) 2)), (⟨n1, 2, none⟩, .int .i64 ((aR + bR + 1) / 2)), (⟨n1, 3, none⟩, .int .i64 ((aH + bH + 1) / 2)), (⟨w.heap.size, 0, none⟩, .int .i64 aU), (⟨w.heap.size, 1, none⟩, .int .i64 aW), (⟨w.heap.size, 2, none⟩, .int .i64 aR), (⟨w.heap.size, 3, none⟩, .int .i64 aH), (⟨w.heap.size + 1, 0, none⟩, .int .i64 bU), (⟨w.heap.size + 1, 1, none⟩, .int .i64 bW), (⟨w.heap.size + 1, 2, none⟩, .int .i64 bR), (⟨w.heap.size + 1, 3, none⟩, .int .i64 bH), (⟨w.heap.size + 1 + 1, 0, none⟩, .int .i64 (ovV u ((aR + bR + 1) / 2) (u * u + v * v) 2)), (⟨w.heap.size + 1 + 1, 1, none⟩, .int .i64 (ovV v ((aR + bR + 1) / 2) (u * u + v * v) 2)), (⟨w.heap.size + 1 + 1, 2, none⟩, .int .i64 ((aR + bR + 1) / 2)), (⟨w.heap.size + 1 + 1, 3, none⟩, .int .i64 0)] w _ := g2.set 14 (w.heap.size + 1 + 1) 2 _ (.int .i64 ((aR + bR + 1) / 2)) rfl (by simp [List.forall_mem_cons]; omega) (by omega)
        have g4 : Lf w.heap.size (n1 + 1) [(⟨n1, 0, none⟩, .int .i64 (ovV u ((aR + bR + 1) / 2) (u * u + v * v) 2)), (⟨n1, 1, none⟩, .int .i64 (ovV v ((aR + bR + 1) / 2) (u * u + v * v) 2)), (⟨n1, 2, none⟩, .int .i64 ((aR + bR + 1) / 2)), (⟨n1, 3, none⟩, .int .i64 ((aH + bH + 1) / 2)), (⟨w.heap.size, 0, none⟩, .int .i64 aU), (⟨w.heap.size, 1, none⟩, .int .i64 aW), (⟨w.heap.size, 2, none⟩, .int .i64 aR), (⟨w.heap.size, 3, none⟩, .int .i64 aH), (⟨w.heap.size + 1, 0, none⟩, .int .i64 bU), (⟨w.heap.size + 1, 1, none⟩, .int .i64 bW), (⟨w.heap.size + 1, 2, none⟩, .int .i64 bR), (⟨w.heap.size + 1, 3, none⟩, .int .i64 bH), (⟨w.heap.size + 1 + 1, 0, none⟩, .int .i64 (ovV u ((aR + bR + 1) / 2) (u * u + v * v) 2)), (⟨w.heap.size + 1 + 1, 1, none⟩, .int .i64 (ovV v ((aR + bR + 1) / 2) (u * u + v * v) 2)), (⟨w.heap.size + 1 + 1, 2, none⟩, .int .i64 ((aR + bR + 1) / 2)), (⟨w.heap.size + 1 + 1, 3, none⟩, .int .i64 ((aH + bH + 1) / 2))] w _ := g3.set 15 (w.heap.size + 1 + 1) 3 _ (.int .i64 ((aH + bH + 1) / 2)) rfl (by simp [List.forall_mem_cons]; omega) (by omega)
        have kc := g4.cells
        simp only [List.forall_mem_cons, List.not_mem_nil, false_implies, implies_true, and_true] at kc
        obtain ⟨z0, z1, z2, z3, z4, z5, z6, z7, z8, z9, z10, z11, z12, z13, z14, z15⟩ := kc
        refine bodyPost_ret (v := .tuple #[.agg #[.int .i64 (ovV u ((aR + bR + 1) / 2) (u * u + v * v) 2), .int .i64 (ovV v ((aR + bR + 1) / 2) (u * u + v * v) 2), .int .i64 ((aR + bR + 1) / 2), .int .i64 ((aH + bH + 1) / 2)], .bool true]) (by simp [results, Try.results26, go_sem, z12, z13, z14, z15]) rfl ⟨?_, g4.be⟩
        first | rfl | (rw [if_neg HI.out]; first | rfl | (simp; done)) | (simp; done)
  )
set_option maxHeartbeats 8000000 in
set_option maxRecDepth 20000 in
theorem middleP_m (aU aW aR aH bU bW bR bH : Int) (full : Bool) (u v : Int) (w : World) (sa : Sp aU aW aR aH) (sb : Sp bU bW bR bH) (HU : Hid (mdU aU aW bU bW (-1) full = u)) (HV : Hid (mdW aU aW bU bW (-1) full = v)) :
    Calls Try.prog 26 #[.agg #[.int .i64 aU, .int .i64 aW, .int .i64 aR, .int .i64 aH], .agg #[.int .i64 bU, .int .i64 bW, .int .i64 bR, .int .i64 bH], .int .i64 (-1), .bool full] w fun e w' => e = .returned (if u = 0 ∧ v = 0 then .tuple #[.agg #[.int .i64 0, .int .i64 0, .int .i64 0, .int .i64 0], .bool false] else .tuple #[.agg #[.int .i64 (ovV u ((aR + bR + 1) / 2) (u * u + v * v) 2), .int .i64 (ovV v ((aR + bR + 1) / 2) (u * u + v * v) 2), .int .i64 ((aR + bR + 1) / 2), .int .i64 ((aH + bH + 1) / 2)], .bool true]) ∧ Below w.heap.size w w' := by
  obtain ⟨a1, a2, a3, a4, a5, a6, a7, a8⟩ := sa
  obtain ⟨b1, b2, b3, b4, b5, b6, b7, b8⟩ := sb
  have hd : ((-1) : Int) = 1 ∨ ((-1) : Int) = -1 := by omega
  have DP := fun w => Lib.hid (dotP_any aU aW aR aH bU bW bR bH w ⟨⟨by omega, by omega⟩, by omega, by omega⟩ ⟨⟨by omega, by omega⟩, by omega, by omega⟩)
  have CP := fun w => Lib.hid (crossP_any aU aW aR aH bU bW bR bH w ⟨⟨by omega, by omega⟩, by omega, by omega⟩ ⟨⟨by omega, by omega⟩, by omega, by omega⟩)
  have m1 := mul_bdK (x := aU) (y := bW) (by omega) (by omega) (by omega) (by omega)
  have m2 := mul_bdK (x := aW) (y := bU) (by omega) (by omega) (by omega) (by omega)
  have m3 := dir_mul2 hd (x := aU * bW - aW * bU) (by omega) (by omega)
  have m4 := dir_mul hd (x := bW - aW) (by omega) (by omega)
  have m5 := dir_mul hd (x := aU - bU) (by omega) (by omega)
  have W1 := Lib.hid (wr_k (n := aU + bU) (by omega) (by omega))
  have W2 := Lib.hid (wr_k (n := aW + bW) (by omega) (by omega))
  have W3 := Lib.hid (wr_k (n := bW - aW) (by omega) (by omega))
  have W4 := Lib.hid (wr_k (n := aU - bU) (by omega) (by omega))
  have W5 := Lib.hid (wr_k (n := (-1) * (bW - aW)) (by omega) (by omega))
  have W6 := Lib.hid (wr_k (n := (-1) * (aU - bU)) (by omega) (by omega))
  have W9 := Lib.hid (wr_k (n := aW - bW) (by omega) (by omega))
  have W10 := Lib.hid (wr_k (n := bU - aU) (by omega) (by omega))
  have W11 := Lib.hid (wr_k (n := -(aU + bU)) (by omega) (by omega))
  have W12 := Lib.hid (wr_k (n := -(aW + bW)) (by omega) (by omega))
  have W13 := Lib.hid (wr_k (n := -(bW - aW)) (by omega) (by omega))
  have W14 := Lib.hid (wr_k (n := -(aU - bU)) (by omega) (by omega))
  have W7 := Lib.hid (wr_k (n := -aU) (by omega) (by omega))
  have W8 := Lib.hid (wr_k (n := -aW) (by omega) (by omega))
  have hub : -94906268 ≤ u ∧ u ≤ 94906268 := by
    rw [← HU.out]; unfold mdU; (repeat' split) <;> omega
  have hvb : -94906268 ≤ v ∧ v ≤ 94906268 := by
    rw [← HV.out]; unfold mdW; (repeat' split) <;> omega
  have qu := sq_bdK (x := u) hub.1 hub.2
  have qv := sq_bdK (x := v) hvb.1 hvb.2
  have OV := fun x y n w h1 h2 h3 h4 => Lib.hid (over_any x y n 2 w h1 h2 h3 h4)
  obtain ⟨m3a, m3b⟩ := m3
  obtain ⟨u1, u2⟩ := hub
  obtain ⟨v1, v2⟩ := hvb
  obtain ⟨qu1, qu2⟩ := qu
  obtain ⟨qv1, qv2⟩ := qv
  clear hd m1 m2 m4 m5
  have hT : Lf w.heap.size (w.heap.size + 1 + 1 + 1) [(⟨w.heap.size, 0, none⟩, .int .i64 aU), (⟨w.heap.size, 1, none⟩, .int .i64 aW), (⟨w.heap.size, 2, none⟩, .int .i64 aR), (⟨w.heap.size, 3, none⟩, .int .i64 aH), (⟨w.heap.size + 1, 0, none⟩, .int .i64 bU), (⟨w.heap.size + 1, 1, none⟩, .int .i64 bW), (⟨w.heap.size + 1, 2, none⟩, .int .i64 bR), (⟨w.heap.size + 1, 3, none⟩, .int .i64 bH), (⟨w.heap.size + 1 + 1, 0, none⟩, .int .i64 0), (⟨w.heap.size + 1 + 1, 1, none⟩, .int .i64 0), (⟨w.heap.size + 1 + 1, 2, none⟩, .int .i64 0), (⟨w.heap.size + 1 + 1, 3, none⟩, .int .i64 0)] w (((w.alloc (.cells #[.int .i64 aU, .int .i64 aW, .int .i64 aR, .int .i64 aH] 34)).alloc (.cells #[.int .i64 bU, .int .i64 bW, .int .i64 bR, .int .i64 bH] 34)).alloc (.cells #[.int .i64 0, .int .i64 0, .int .i64 0, .int .i64 0] 34)) :=
    ⟨by simp [List.forall_mem_cons, go_sem], by simp [List.forall_mem_cons, go_sem], by simp [List.forall_mem_cons] <;> omega, by simp, by (repeat (first | exact Below.refl _ _ | assumption | refine Below.drew ?_ | (refine Below.alloc ?_ (by simp <;> omega) _) | (refine Below.setCell ?_ (by simp <;> omega) _))), by omega⟩
  (
    go_enter Try.func26, Try.ntmps26
    go_upto_region 3 with fail
    (refine wp_region_class (Lf w.heap.size (w.heap.size + 1 + 1 + 1) [(⟨w.heap.size, 0, none⟩, .int .i64 aU), (⟨w.heap.size, 1, none⟩, .int .i64 aW), (⟨w.heap.size, 2, none⟩, .int .i64 aR), (⟨w.heap.size, 3, none⟩, .int .i64 aH), (⟨w.heap.size + 1, 0, none⟩, .int .i64 bU), (⟨w.heap.size + 1, 1, none⟩, .int .i64 bW), (⟨w.heap.size + 1, 2, none⟩, .int .i64 bR), (⟨w.heap.size + 1, 3, none⟩, .int .i64 bH), (⟨w.heap.size + 1 + 1, 0, none⟩, .int .i64 0), (⟨w.heap.size + 1 + 1, 1, none⟩, .int .i64 0), (⟨w.heap.size + 1 + 1, 2, none⟩, .int .i64 0), (⟨w.heap.size + 1 + 1, 3, none⟩, .int .i64 0)] w) (hT.next (Below.refl _ _).drew) (by kernel_rfl) (by kernel_rfl) ?_; repeat (refine wpQuiet_step (fun qK9 qH9 => ?_); go_simp; first | (refine qH9 _ ?_; clear qH9 qK9) | (apply Exists.intro; refine ⟨?_, qH9 _ ?_⟩; (first | (intros; rfl) | ((intro wx hC; ((have qk9 := (hC).cells; simp only [List.forall_mem_cons, List.not_mem_nil, false_implies, implies_true, and_true] at qk9; repeat (obtain ⟨qk8, qk9⟩ := qk9)); go_simp; first | done | rfl)))); clear qH9 qK9)))
    refine wpQuiet_nil ?_
    clear hT
    intro wy hT
    rewrite [W1.out, W2.out]
    first | go_upto_block 0 with fail | go_upto_block 1 with fail | go_upto_block 2 with fail
    go_cut [10, 11] (fun s t wx => s = .int .i64 u ∧ t = .int .i64 v ∧ Lf w.heap.size (w.heap.size + 1 + 1 + 1) [(⟨w.heap.size, 0, none⟩, .int .i64 aU), (⟨w.heap.size, 1, none⟩, .int .i64 aW), (⟨w.heap.size, 2, none⟩, .int .i64 aR), (⟨w.heap.size, 3, none⟩, .int .i64 aH), (⟨w.heap.size + 1, 0, none⟩, .int .i64 bU), (⟨w.heap.size + 1, 1, none⟩, .int .i64 bW), (⟨w.heap.size + 1, 2, none⟩, .int .i64 bR), (⟨w.heap.size + 1, 3, none⟩, .int .i64 bH), (⟨w.heap.size + 1 + 1, 0, none⟩, .int .i64 0), (⟨w.heap.size + 1 + 1, 1, none⟩, .int .i64 0), (⟨w.heap.size + 1 + 1, 2, none⟩, .int .i64 0), (⟨w.heap.size + 1 + 1, 3, none⟩, .int .i64 0)] w wx)
    case first =>
      cases full
      · by_cases hc1 : aU * bU + aW * bW ≤ 0
        · have HC1 := Lib.hid hc1
          clear hc1
          have kc := hT.cells
          have kf := hT.frz
          simp only [List.forall_mem_cons, List.not_mem_nil, false_implies, implies_true, and_true] at kc kf
          obtain ⟨c0, c1, c2, c3, c4, c5, c6, c7, c8, c9, c10, c11⟩ := kc
          obtain ⟨f0, f1, f2, f3, f4, f5, f6, f7, f8, f9, f10, f11⟩ := kf
          have hc1 := HC1.out
          go_upto_region 6 with fail
          go_wp2_with fail
          refine (DP _).out.mono ?_
          rintro e w1 ⟨rfl, hb1⟩
          have hT := hT.next hb1
          go_upto_region 7 with fail
          (refine wp_region_class (Lf w.heap.size (w.heap.size + 1 + 1 + 1) [(⟨w.heap.size, 0, none⟩, .int .i64 aU), (⟨w.heap.size, 1, none⟩, .int .i64 aW), (⟨w.heap.size, 2, none⟩, .int .i64 aR), (⟨w.heap.size, 3, none⟩, .int .i64 aH), (⟨w.heap.size + 1, 0, none⟩, .int .i64 bU), (⟨w.heap.size + 1, 1, none⟩, .int .i64 bW), (⟨w.heap.size + 1, 2, none⟩, .int .i64 bR), (⟨w.heap.size + 1, 3, none⟩, .int .i64 bH), (⟨w.heap.size + 1 + 1, 0, none⟩, .int .i64 0), (⟨w.heap.size + 1 + 1, 1, none⟩, .int .i64 0), (⟨w.heap.size + 1 + 1, 2, none⟩, .int .i64 0), (⟨w.heap.size + 1 + 1, 3, none⟩, .int .i64 0)] w) (hT.next (Below.refl _ _).drew) (by kernel_rfl) (by kernel_rfl) ?_; repeat (refine wpQuiet_step (fun qK9 qH9 => ?_); go_simp; first | (refine qH9 _ ?_; clear qH9 qK9) | (apply Exists.intro; refine ⟨?_, qH9 _ ?_⟩; (first | (intros; rfl) | ((intro wx hC; ((have qk9 := (hC).cells; simp only [List.forall_mem_cons, List.not_mem_nil, false_implies, implies_true, and_true] at qk9; repeat (obtain ⟨qk8, qk9⟩ := qk9)); go_simp; first | done | rfl)))); clear qH9 qK9)))
          refine wpQuiet_nil ?_
          clear hT
          intro wz hT
          go_wp2_with fail
          go_meet
          refine ⟨?_, ?_, hT⟩
          · rw [← HU.out]; simp [mdU, hc1, W3.out, W4.out, W13.out]
          · rw [← HV.out]; simp [mdW, hc1, W3.out, W4.out, W14.out]
        · have hn : 0 < aU * bU + aW * bW := by omega
          have HC1 := Lib.hid hc1
          clear hc1
          by_cases hc2 : 0 ≤ aU * bW - aW * bU
          all_goals
            have HC2 := Lib.hid hc2
            clear hc2
            have kc := hT.cells
            have kf := hT.frz
            simp only [List.forall_mem_cons, List.not_mem_nil, false_implies, implies_true, and_true] at kc kf
            obtain ⟨c0, c1, c2, c3, c4, c5, c6, c7, c8, c9, c10, c11⟩ := kc
            obtain ⟨f0, f1, f2, f3, f4, f5, f6, f7, f8, f9, f10, f11⟩ := kf
            have hc2 := HC2.out
            go_upto_region 6 with fail
            go_wp2_with fail
            refine (DP _).out.mono ?_
            rintro e w1 ⟨rfl, hb1⟩
            have hT := hT.next hb1
            have kc := hT.cells
            have kf := hT.frz
            simp only [List.forall_mem_cons, List.not_mem_nil, false_implies, implies_true, and_true] at kc kf
            obtain ⟨c0, c1, c2, c3, c4, c5, c6, c7, c8, c9, c10, c11⟩ := kc
            obtain ⟨f0, f1, f2, f3, f4, f5, f6, f7, f8, f9, f10, f11⟩ := kf
            go_wp2_with fail
            refine (CP _).out.mono ?_
            rintro e w2 ⟨rfl, hb2⟩
            have hT := hT.next hb2
            go_wp2_with fail
            go_meet
            refine ⟨?_, ?_, hT⟩
            · rw [← HU.out]; simp [mdU, HC1.out, HC2.out]; try omega
            · rw [← HV.out]; simp [mdW, HC1.out, HC2.out]; try omega
      · go_upto_region 5 with fail
        (refine wp_region_class (Lf w.heap.size (w.heap.size + 1 + 1 + 1) [(⟨w.heap.size, 0, none⟩, .int .i64 aU), (⟨w.heap.size, 1, none⟩, .int .i64 aW), (⟨w.heap.size, 2, none⟩, .int .i64 aR), (⟨w.heap.size, 3, none⟩, .int .i64 aH), (⟨w.heap.size + 1, 0, none⟩, .int .i64 bU), (⟨w.heap.size + 1, 1, none⟩, .int .i64 bW), (⟨w.heap.size + 1, 2, none⟩, .int .i64 bR), (⟨w.heap.size + 1, 3, none⟩, .int .i64 bH), (⟨w.heap.size + 1 + 1, 0, none⟩, .int .i64 0), (⟨w.heap.size + 1 + 1, 1, none⟩, .int .i64 0), (⟨w.heap.size + 1 + 1, 2, none⟩, .int .i64 0), (⟨w.heap.size + 1 + 1, 3, none⟩, .int .i64 0)] w) (hT.next (Below.refl _ _).drew) (by kernel_rfl) (by kernel_rfl) ?_; repeat (refine wpQuiet_step (fun qK9 qH9 => ?_); go_simp; first | (refine qH9 _ ?_; clear qH9 qK9) | (apply Exists.intro; refine ⟨?_, qH9 _ ?_⟩; (first | (intros; rfl) | ((intro wx hC; ((have qk9 := (hC).cells; simp only [List.forall_mem_cons, List.not_mem_nil, false_implies, implies_true, and_true] at qk9; repeat (obtain ⟨qk8, qk9⟩ := qk9)); go_simp; first | done | rfl)))); clear qH9 qK9)))
        refine wpQuiet_nil ?_
        clear hT
        intro wz hT
        go_wp2_with fail
        go_meet
        refine ⟨?_, ?_, hT⟩
        · rw [← HU.out]; simp [mdU, W7.out]
        · rw [← HV.out]; simp [mdW, W8.out]
    case rest =>
      obtain ⟨rfl, rfl, hT⟩ := hcut
      clear HU HV DP CP W1 W2 W3 W4 W5 W6 W7 W8 W9 W10 W11 W12 W13 W14 m3a m3b
      have kc := hT.cells
      have kf := hT.frz
      simp only [List.forall_mem_cons, List.not_mem_nil, false_implies, implies_true, and_true] at kc kf
      obtain ⟨c0, c1, c2, c3, c4, c5, c6, c7, c8, c9, c10, c11⟩ := kc
      obtain ⟨f0, f1, f2, f3, f4, f5, f6, f7, f8, f9, f10, f11⟩ := kf
      by_cases hu : u = 0
      · by_cases hv : v = 0
        · subst hu hv
          go_wp2_with fail
          refine bodyPost_ret (v := .tuple #[.agg #[.int .i64 0, .int .i64 0, .int .i64 0, .int .i64 0], .bool false]) (by simp [results, Try.results26, go_sem, *]) rfl ⟨by simp, ?_⟩
          exact (((hT.be.setCell (by simp; omega) _).setCell (by simp; omega) _).setCell (by simp; omega) _).setCell (by simp; omega) _
        · subst hu
          have hv0 : (v == 0) = false := by simp; exact hv
          have hv1 : decide (v = 0) = false := decide_eq_false hv
          have HI : Hid (¬ ((0 : Int) = 0 ∧ v = 0)) := fun h => hv h.2
          go_wp2_with fail
          have hP0 := hT.push #[.int .i64 0, .int .i64 0, .int .i64 ((aR + bR + 1) / 2), .int .i64 ((aH + bH + 1) / 2)] 34
          obtain ⟨n1, hn1⟩ : ∃ n1, wc.heap.size = n1 := ⟨_, rfl⟩
          have hl : w.heap.size + 1 + 1 + 1 ≤ n1 := by have := hT.lt; omega
          rewrite [hn1] at hP0
          rewrite [hn1]
          refine (OV _ _ _ _ (by omega) (by omega) (by omega) (by omega)).out.mono ?_
          rintro e w2 ⟨rfl, hb2⟩
          have hP : Lf w.heap.size (n1 + 1) [(⟨n1, 0, none⟩, .int .i64 0), (⟨n1, 1, none⟩, .int .i64 0), (⟨n1, 2, none⟩, .int .i64 ((aR + bR + 1) / 2)), (⟨n1, 3, none⟩, .int .i64 ((aH + bH + 1) / 2)), (⟨w.heap.size, 0, none⟩, .int .i64 aU), (⟨w.heap.size, 1, none⟩, .int .i64 aW), (⟨w.heap.size, 2, none⟩, .int .i64 aR), (⟨w.heap.size, 3, none⟩, .int .i64 aH), (⟨w.heap.size + 1, 0, none⟩, .int .i64 bU), (⟨w.heap.size + 1, 1, none⟩, .int .i64 bW), (⟨w.heap.size + 1, 2, none⟩, .int .i64 bR), (⟨w.heap.size + 1, 3, none⟩, .int .i64 bH), (⟨w.heap.size + 1 + 1, 0, none⟩, .int .i64 0), (⟨w.heap.size + 1 + 1, 1, none⟩, .int .i64 0), (⟨w.heap.size + 1 + 1, 2, none⟩, .int .i64 0), (⟨w.heap.size + 1 + 1, 3, none⟩, .int .i64 0)] w w2 := hP0.next hb2
          clear hP0 hb2 hT hn1 c0 f0 c1 f1 c2 f2 c3 f3 c4 f4 c5 f5 c6 f6 c7 f7 c8 f8 c9 f9 c10 f10 c11 f11
          have kc := hP.cells
          have kf := hP.frz
          simp only [List.forall_mem_cons, List.not_mem_nil, false_implies, implies_true, and_true] at kc kf
          obtain ⟨c0, c1, c2, c3, c4, c5, c6, c7, c8, c9, c10, c11, c12, c13, c14, c15⟩ := kc
          obtain ⟨f0, f1, f2, f3, f4, f5, f6, f7, f8, f9, f10, f11, f12, f13, f14, f15⟩ := kf
          go_wp2_with fail
          refine (OV _ _ _ _ (by omega) (by omega) (by omega) (by omega)).out.mono ?_
          rintro e w3 ⟨rfl, hb3⟩
          have hQ : Lf w.heap.size (n1 + 1) [(⟨n1, 0, none⟩, .int .i64 (ovV 0 ((aR + bR + 1) / 2) (v * v) 2)), (⟨n1, 1, none⟩, .int .i64 0), (⟨n1, 2, none⟩, .int .i64 ((aR + bR + 1) / 2)), (⟨n1, 3, none⟩, .int .i64 ((aH + bH + 1) / 2)), (⟨w.heap.size, 0, none⟩, .int .i64 aU), (⟨w.heap.size, 1, none⟩, .int .i64 aW), (⟨w.heap.size, 2, none⟩, .int .i64 aR), (⟨w.heap.size, 3, none⟩, .int .i64 aH), (⟨w.heap.size + 1, 0, none⟩, .int .i64 bU), (⟨w.heap.size + 1, 1, none⟩, .int .i64 bW), (⟨w.heap.size + 1, 2, none⟩, .int .i64 bR), (⟨w.heap.size + 1, 3, none⟩, .int .i64 bH), (⟨w.heap.size + 1 + 1, 0, none⟩, .int .i64 0), (⟨w.heap.size + 1 + 1, 1, none⟩, .int .i64 0), (⟨w.heap.size + 1 + 1, 2, none⟩, .int .i64 0), (⟨w.heap.size + 1 + 1, 3, none⟩, .int .i64 0)] w w3 := (hP.set 0 n1 0 _ (.int .i64 (ovV 0 ((aR + bR + 1) / 2) (v * v) 2)) rfl (by simp [List.forall_mem_cons]; omega) (by omega)).next hb3
          clear hP hb3 c0 f0 c1 f1 c2 f2 c3 f3 c4 f4 c5 f5 c6 f6 c7 f7 c8 f8 c9 f9 c10 f10 c11 f11 c12 f12 c13 f13 c14 f14 c15 f15
          have kc := hQ.cells
          have kf := hQ.frz
          simp only [List.forall_mem_cons, List.not_mem_nil, false_implies, implies_true, and_true] at kc kf
          obtain ⟨c0, c1, c2, c3, c4, c5, c6, c7, c8, c9, c10, c11, c12, c13, c14, c15⟩ := kc
          obtain ⟨f0, f1, f2, f3, f4, f5, f6, f7, f8, f9, f10, f11, f12, f13, f14, f15⟩ := kf
          go_wp2_with fail
          have g0 : Lf w.heap.size (n1 + 1) [(⟨n1, 0, none⟩, .int .i64 (ovV 0 ((aR + bR + 1) / 2) (v * v) 2)), (⟨n1, 1, none⟩, .int .i64 (ovV v ((aR + bR + 1) / 2) (v * v) 2)), (⟨n1, 2, none⟩, .int .i64 ((aR + bR + 1) / 2)), (⟨n1, 3, none⟩, .int .i64 ((aH + bH + 1) / 2)), (⟨w.heap.size, 0, none⟩, .int .i64 aU), (⟨w.heap.size, 1, none⟩, .int .i64 aW), (⟨w.heap.size, 2, none⟩, .int .i64 aR), (⟨w.heap.size, 3, none⟩, .int .i64 aH), (⟨w.heap.size + 1, 0, none⟩, .int .i64 bU), (⟨w.heap.size + 1, 1, none⟩, .int .i64 bW), (⟨w.heap.size + 1, 2, none⟩, .int .i64 bR), (⟨w.heap.size + 1, 3, none⟩, .int .i64 bH), (⟨w.heap.size + 1 + 1, 0, none⟩, .int .i64 0), (⟨w.heap.size + 1 + 1, 1, none⟩, .int .i64 0), (⟨w.heap.size + 1 + 1, 2, none⟩, .int .i64 0), (⟨w.heap.size + 1 + 1, 3, none⟩, .int .i64 0)] w _ := hQ.set 1 (n1) 1 _ (.int .i64 (ovV v ((aR + bR + 1) / 2) (v * v) 2)) rfl (by simp [List.forall_mem_cons]; omega) (by omega)
          have g1 : Lf w.heap.size (n1 + 1) [(⟨n1, 0, none⟩, .int .i64 (ovV 0 ((aR + bR + 1) / 2) (v * v) 2)), (⟨n1, 1, none⟩, .int .i64 (ovV v ((aR + bR + 1) / 2) (v * v) 2)), (⟨n1, 2, none⟩, .int .i64 ((aR + bR + 1) / 2)), (⟨n1, 3, none⟩, .int .i64 ((aH + bH + 1) / 2)), (⟨w.heap.size, 0, none⟩, .int .i64 aU), (⟨w.heap.size, 1, none⟩, .int .i64 aW), (⟨w.heap.size, 2, none⟩, .int .i64 aR), (⟨w.heap.size, 3, none⟩, .int .i64 aH), (⟨w.heap.size + 1, 0, none⟩, .int .i64 bU), (⟨w.heap.size + 1, 1, none⟩, .int .i64 bW), (⟨w.heap.size + 1, 2, none⟩, .int .i64 bR), (⟨w.heap.size + 1, 3, none⟩, .int .i64 bH), (⟨w.heap.size + 1 + 1, 0, none⟩, .int .i64 (ovV 0 ((aR + bR + 1) / 2) (v * v) 2)), (⟨w.heap.size + 1 + 1, 1, none⟩, .int .i64 0), (⟨w.heap.size + 1 + 1, 2, none⟩, .int .i64 0), (⟨w.heap.size + 1 + 1, 3, none⟩, .int .i64 0)] w _ := g0.set 12 (w.heap.size + 1 + 1) 0 _ (.int .i64 (ovV 0 ((aR + bR + 1) / 2) (v * v) 2)) rfl (by simp [List.forall_mem_cons]; omega) (by omega)
          have g2 : Lf w.heap.size (n1 + 1) [(⟨n1, 0, none⟩, .int .i64 (ovV 0 ((aR + bR + 1) / 2) (v * v) 2)), (⟨n1, 1, none⟩, .int .i64 (ovV v ((aR + bR + 1) / 2) (v * v) 2)), (⟨n1, 2, none⟩, .int .i64 ((aR + bR + 1) / 2)), (⟨n1, 3, none⟩, .int .i64 ((aH + bH + 1) / 2)), (⟨w.heap.size, 0, none⟩, .int .i64 aU), (⟨w.heap.size, 1, none⟩, .int .i64 aW), (⟨w.heap.size, 2, none⟩, .int .i64 aR), (⟨w.heap.size, 3, none⟩, .int .i64 aH), (⟨w.heap.size + 1, 0, none⟩, .int .i64 bU), (⟨w.heap.size + 1, 1, none⟩, .int .i64 bW), (⟨w.heap.size + 1, 2, none⟩, .int .i64 bR), (⟨w.heap.size + 1, 3, none⟩, .int .i64 bH), (⟨w.heap.size + 1 + 1, 0, none⟩, .int .i64 (ovV 0 ((aR + bR + 1) / 2) (v * v) 2)), (⟨w.heap.size + 1 + 1, 1, none⟩, .int .i64 (ovV v ((aR + bR + 1) / 2) (v * v) 2)), (⟨w.heap.size + 1 + 1, 2, none⟩, .int .i64 0), (⟨w.heap.size + 1 + 1, 3, none⟩, .int .i64 0)] w _ := g1.set 13 (w.heap.size + 1 + 1) 1 _ (.int .i64 (ovV v ((aR + bR + 1) / 2) (v * v) 2)) rfl (by simp [List.forall_mem_cons]; omega) (by omega)
          have g3 : Lf w.heap.size (n1 + 1) [(⟨n1, 0, none⟩, .int .i64 (ovV 0 ((aR + bR + 1) / 2) (v * v) 2)), (⟨n1, 1, none⟩, .int .i64 (ovV v ((aR + bR + 1) / 2) (v * v) 2)), (⟨n1, 2, none⟩, .int .i64 ((aR + bR + 1) / 2)), (⟨n1, 3, none⟩, .int .i64 ((aH + bH + 1) / 2)), (⟨w.heap.size, 0, none⟩, .int .i64 aU), (⟨w.heap.size, 1, none⟩, .int .i64 aW), (⟨w.heap.size, 2, none⟩, .int .i64 aR), (⟨w.heap.size, 3, none⟩, .int .i64 aH), (⟨w.heap.size + 1, 0, none⟩, .int .i64 bU), (⟨w.heap.size + 1, 1, none⟩, .int .i64 bW), (⟨w.heap.size + 1, 2, none⟩, .int .i64 bR), (⟨w.heap.size + 1, 3, none⟩, .int .i64 bH), (⟨w.heap.size + 1 + 1, 0, none⟩, .int .i64 (ovV 0 ((aR + bR + 1) / 2) (v * v) 2)), (⟨w.heap.size + 1 + 1, 1, none⟩, .int .i64 (ovV v ((aR + bR + 1) / 2) (v * v) 2)), (⟨w.heap.size + 1 + 1, 2, none⟩, .int .i64 ((aR + bR + 1) / 2)), (⟨w.heap.size + 1 + 1, 3, none⟩, .int .i64 0)] w _ := g2.set 14 (w.heap.size + 1 + 1) 2 _ (.int .i64 ((aR + bR + 1) / 2)) rfl (by simp [List.forall_mem_cons]; omega) (by omega)
          have g4 : Lf w.heap.size (n1 + 1) [(⟨n1, 0, none⟩, .int .i64 (ovV 0 ((aR + bR + 1) / 2) (v * v) 2)), (⟨n1, 1, none⟩, .int .i64 (ovV v ((aR + bR + 1) / 2) (v * v) 2)), (⟨n1, 2, none⟩, .int .i64 ((aR + bR + 1) / 2)), (⟨n1, 3, none⟩, .int .i64 ((aH + bH + 1) / 2)), (⟨w.heap.size, 0, none⟩, .int .i64 aU), (⟨w.heap.size, 1, none⟩, .int .i64 aW), (⟨w.heap.size, 2, none⟩, .int .i64 aR), (⟨w.heap.size, 3, none⟩, .int .i64 aH), (⟨w.heap.size + 1, 0, none⟩, .int .i64 bU), (⟨w.heap.size + 1, 1, none⟩, .int .i64 bW), (⟨w.heap.size + 1, 2, none⟩, .int .i64 bR), (⟨w.heap.size + 1, 3, none⟩, .int .i64 bH), (⟨w.heap.size + 1 + 1, 0, none⟩, .int .i64 (ovV 0 ((aR + bR + 1) / 2) (v * v) 2)), (⟨w.heap.size + 1 + 1, 1, none⟩, .int .i64 (ovV v ((aR + bR + 1) / 2) (v * v) 2)), (⟨w.heap.size + 1 + 1, 2, none⟩, .int .i64 ((aR + bR + 1) / 2)), (⟨w.heap.size + 1 + 1, 3, none⟩, .int .i64 ((aH + bH + 1) / 2))] w _ := g3.set 15 (w.heap.size + 1 + 1) 3 _ (.int .i64 ((aH + bH + 1) / 2)) rfl (by simp [List.forall_mem_cons]; omega) (by omega)
          have kc := g4.cells
          simp only [List.forall_mem_cons, List.not_mem_nil, false_implies, implies_true, and_true] at kc
          obtain ⟨z0, z1, z2, z3, z4, z5, z6, z7, z8, z9, z10, z11, z12, z13, z14, z15⟩ := kc
          refine bodyPost_ret (v := .tuple #[.agg #[.int .i64 (ovV 0 ((aR + bR + 1) / 2) (v * v) 2), .int .i64 (ovV v ((aR + bR + 1) / 2) (v * v) 2), .int .i64 ((aR + bR + 1) / 2), .int .i64 ((aH + bH + 1) / 2)], .bool true]) (by simp [results, Try.results26, go_sem, z12, z13, z14, z15]) rfl ⟨?_, g4.be⟩
          first | rfl | (rw [if_neg HI.out]; first | rfl | (simp; done)) | (simp; done)
      · have hu0 : (u == 0) = false := by simp; exact hu
        have hi : ¬ (u = 0 ∧ v = 0) := fun h => hu h.1
        have HI := Lib.hid hi
        clear hu hi
        go_wp2_with fail
        have hP0 := hT.push #[.int .i64 0, .int .i64 0, .int .i64 ((aR + bR + 1) / 2), .int .i64 ((aH + bH + 1) / 2)] 34
        obtain ⟨n1, hn1⟩ : ∃ n1, wc.heap.size = n1 := ⟨_, rfl⟩
        have hl : w.heap.size + 1 + 1 + 1 ≤ n1 := by have := hT.lt; omega
        rewrite [hn1] at hP0
        rewrite [hn1]
        refine (OV _ _ _ _ (by omega) (by omega) (by omega) (by omega)).out.mono ?_
        rintro e w2 ⟨rfl, hb2⟩
        have hP : Lf w.heap.size (n1 + 1) [(⟨n1, 0, none⟩, .int .i64 0), (⟨n1, 1, none⟩, .int .i64 0), (⟨n1, 2, none⟩, .int .i64 ((aR + bR + 1) / 2)), (⟨n1, 3, none⟩, .int .i64 ((aH + bH + 1) / 2)), (⟨w.heap.size, 0, none⟩, .int .i64 aU), (⟨w.heap.size, 1, none⟩, .int .i64 aW), (⟨w.heap.size, 2, none⟩, .int .i64 aR), (⟨w.heap.size, 3, none⟩, .int .i64 aH), (⟨w.heap.size + 1, 0, none⟩, .int .i64 bU), (⟨w.heap.size + 1, 1, none⟩, .int .i64 bW), (⟨w.heap.size + 1, 2, none⟩, .int .i64 bR), (⟨w.heap.size + 1, 3, none⟩, .int .i64 bH), (⟨w.heap.size + 1 + 1, 0, none⟩, .int .i64 0), (⟨w.heap.size + 1 + 1, 1, none⟩, .int .i64 0), (⟨w.heap.size + 1 + 1, 2, none⟩, .int .i64 0), (⟨w.heap.size + 1 + 1, 3, none⟩, .int .i64 0)] w w2 := hP0.next hb2
        clear hP0 hb2 hT hn1 c0 f0 c1 f1 c2 f2 c3 f3 c4 f4 c5 f5 c6 f6 c7 f7 c8 f8 c9 f9 c10 f10 c11 f11
        have kc := hP.cells
        have kf := hP.frz
        simp only [List.forall_mem_cons, List.not_mem_nil, false_implies, implies_true, and_true] at kc kf
        obtain ⟨c0, c1, c2, c3, c4, c5, c6, c7, c8, c9, c10, c11, c12, c13, c14, c15⟩ := kc
        obtain ⟨f0, f1, f2, f3, f4, f5, f6, f7, f8, f9, f10, f11, f12, f13, f14, f15⟩ := kf
        go_wp2_with fail
        refine (OV _ _ _ _ (by omega) (by omega) (by omega) (by omega)).out.mono ?_
        rintro e w3 ⟨rfl, hb3⟩
        have hQ : Lf w.heap.size (n1 + 1) [(⟨n1, 0, none⟩, .int .i64 (ovV u ((aR + bR + 1) / 2) (u * u + v * v) 2)), (⟨n1, 1, none⟩, .int .i64 0), (⟨n1, 2, none⟩, .int .i64 ((aR + bR + 1) / 2)), (⟨n1, 3, none⟩, .int .i64 ((aH + bH + 1) / 2)), (⟨w.heap.size, 0, none⟩, .int .i64 aU), (⟨w.heap.size, 1, none⟩, .int .i64 aW), (⟨w.heap.size, 2, none⟩, .int .i64 aR), (⟨w.heap.size, 3, none⟩, .int .i64 aH), (⟨w.heap.size + 1, 0, none⟩, .int .i64 bU), (⟨w.heap.size + 1, 1, none⟩, .int .i64 bW), (⟨w.heap.size + 1, 2, none⟩, .int .i64 bR), (⟨w.heap.size + 1, 3, none⟩, .int .i64 bH), (⟨w.heap.size + 1 + 1, 0, none⟩, .int .i64 0), (⟨w.heap.size + 1 + 1, 1, none⟩, .int .i64 0), (⟨w.heap.size + 1 + 1, 2, none⟩, .int .i64 0), (⟨w.heap.size + 1 + 1, 3, none⟩, .int .i64 0)] w w3 := (hP.set 0 n1 0 _ (.int .i64 (ovV u ((aR + bR + 1) / 2) (u * u + v * v) 2)) rfl (by simp [List.forall_mem_cons]; omega) (by omega)).next hb3
        clear hP hb3 c0 f0 c1 f1 c2 f2 c3 f3 c4 f4 c5 f5 c6 f6 c7 f7 c8 f8 c9 f9 c10 f10 c11 f11 c12 f12 c13 f13 c14 f14 c15 f15
        have kc := hQ.cells
        have kf := hQ.frz
        simp only [List.forall_mem_cons, List.not_mem_nil, false_implies, implies_true, and_true] at kc kf
        obtain ⟨c0, c1, c2, c3, c4, c5, c6, c7, c8, c9, c10, c11, c12, c13, c14, c15⟩ := kc
        obtain ⟨f0, f1, f2, f3, f4, f5, f6, f7, f8, f9, f10, f11, f12, f13, f14, f15⟩ := kf
        go_wp2_with fail
        have g0 : Lf w.heap.size (n1 + 1) [(⟨n1, 0, none⟩, .int .i64 (ovV u ((aR + bR + 1) / 2) (u * u + v * v) 2)), (⟨n1, 1, none⟩, .int .i64 (ovV v ((aR + bR + 1) / 2) (u * u + v * v) 2)), (⟨n1, 2, none⟩, .int .i64 ((aR + bR + 1) / 2)), (⟨n1, 3, none⟩, .int .i64 ((aH + bH + 1) / 2)), (⟨w.heap.size, 0, none⟩, .int .i64 aU), (⟨w.heap.size, 1, none⟩, .int .i64 aW), (⟨w.heap.size, 2, none⟩, .int .i64 aR), (⟨w.heap.size, 3, none⟩, .int .i64 aH), (⟨w.heap.size + 1, 0, none⟩, .int .i64 bU), (⟨w.heap.size + 1, 1, none⟩, .int .i64 bW), (⟨w.heap.size + 1, 2, none⟩, .int .i64 bR), (⟨w.heap.size + 1, 3, none⟩, .int .i64 bH), (⟨w.heap.size + 1 + 1, 0, none⟩, .int .i64 0), (⟨w.heap.size + 1 + 1, 1, none⟩, .int .i64 0), (⟨w.heap.size + 1 + 1, 2, none⟩, .int .i64 0), (⟨w.heap.size + 1 + 1, 3, none⟩, .int .i64 0)] w _ := hQ.set 1 (n1) 1 _ (.int .i64 (ovV v ((aR + bR + 1) / 2) (u * u + v * v) 2)) rfl (by simp [List.forall_mem_cons]; omega) (by omega)
        have g1 : Lf w.heap.size (n1 + 1) [(⟨n1, 0, none⟩, .int .i64 (ovV u ((aR + bR + 1) / 2) (u * u + v * v) 2)), (⟨n1, 1, none⟩, .int .i64 (ovV v ((aR + bR + 1) / 2) (u * u + v * v) 2)), (⟨n1, 2, none⟩, .int .i64 ((aR + bR + 1) / 2)), (⟨n1, 3, none⟩, .int .i64 ((aH + bH + 1) / 2)), (⟨w.heap.size, 0, none⟩, .int .i64 aU), (⟨w.heap.size, 1, none⟩, .int .i64 aW), (⟨w.heap.size, 2, none⟩, .int .i64 aR), (⟨w.heap.size, 3, none⟩, .int .i64 aH), (⟨w.heap.size + 1, 0, none⟩, .int .i64 bU), (⟨w.heap.size + 1, 1, none⟩, .int .i64 bW), (⟨w.heap.size + 1, 2, none⟩, .int .i64 bR), (⟨w.heap.size + 1, 3, none⟩, .int .i64 bH), (⟨w.heap.size + 1 + 1, 0, none⟩, .int .i64 (ovV u ((aR + bR + 1) / 2) (u * u + v * v) 2)), (⟨w.heap.size + 1 + 1, 1, none⟩, .int .i64 0), (⟨w.heap.size + 1 + 1, 2, none⟩, .int .i64 0), (⟨w.heap.size + 1 + 1, 3, none⟩, .int .i64 0)] w _ := g0.set 12 (w.heap.size + 1 + 1) 0 _ (.int .i64 (ovV u ((aR + bR + 1) / 2) (u * u + v * v) 2)) rfl (by simp [List.forall_mem_cons]; omega) (by omega)
        have g2 : Lf w.heap.size (n1 + 1) [(⟨n1, 0, none⟩, .int .i64 (ovV u ((aR + bR + 1) / 2) (u * u + v * v) 2)), (⟨n1, 1, none⟩, .int .i64 (ovV v ((aR + bR + 1) / 2) (u * u + v * v) 2)), (⟨n1, 2, none⟩, .int .i64 ((aR + bR + 1) / 2)), (⟨n1, 3, none⟩, .int .i64 ((aH + bH + 1) / 2)), (⟨w.heap.size, 0, none⟩, .int .i64 aU), (⟨w.heap.size, 1, none⟩, .int .i64 aW), (⟨w.heap.size, 2, none⟩, .int .i64 aR), (⟨w.heap.size, 3, none⟩, .int .i64 aH), (⟨w.heap.size + 1, 0, none⟩, .int .i64 bU), (⟨w.heap.size + 1, 1, none⟩, .int .i64 bW), (⟨w.heap.size + 1, 2, none⟩, .int .i64 bR), (⟨w.heap.size + 1, 3, none⟩, .int .i64 bH), (⟨w.heap.size + 1 + 1, 0, none⟩, .int .i64 (ovV u ((aR + bR + 1) / 2) (u * u + v * v) 2)), (⟨w.heap.size + 1 + 1, 1, none⟩, .int .i64 (ovV v ((aR + bR + 1) / 2) (u * u + v * v) 2)), (⟨w.heap.size + 1 + 1, 2, none⟩, .int .i64 0), (⟨w.heap.size + 1 + 1, 3, none⟩, .int .i64 0)] w _ := g1.set 13 (w.heap.size + 1 + 1) 1 _ (.int .i64 (ovV v ((aR + bR + 1) / 2) (u * u + v * v) 2)) rfl (by simp [List.forall_mem_cons]; omega) (by omega)
        have g3 : Lf w.heap.size (n1 + 1) [(⟨n1, 0, none⟩, .int .i64 (ovV u ((aR + bR + 1) / 2) (u * u + v * v) 2)), (⟨n1, 1, none⟩, .int .i64 (ovV v ((aR + bR + 1) / 2) (u * u + v * v) 2)), (⟨n1, 2, none⟩, .int .i64 ((aR + bR + 1) / 2)), (⟨n1, 3, none⟩, .int .i64 ((aH + bH + 1) / 2)), (⟨w.heap.size, 0, none⟩, .int .i64 aU), (⟨w.heap.size, 1, none⟩, .int .i64 aW), (⟨w.heap.size, 2, none⟩, .int .i64 aR), (⟨w.heap.size, 3, none⟩, .int .i64 aH), (⟨w.heap.size + 1, 0, none⟩, .int .i64 bU), (⟨w.heap.size + 1, 1, none⟩, .int .i64 bW), (⟨w.heap.size + 1, 2, none⟩, .int .i64 bR), (⟨w.heap.size + 1, 3, none⟩, .int .i64 bH), (⟨w.heap.size + 1 + 1, 0, none⟩, .int .i64 (ovV u ((aR + bR + 1) / 2) (u * u + v * v) 2)), (⟨w.heap.size + 1 + 1, 1, none⟩, .int .i64 (ovV v ((aR + bR + 1) / 2) (u * u + v * v) 2)), (⟨w.heap.size + 1 + 1, 2, none⟩, .int .i64 ((aR + bR + 1) / 2)), (⟨w.heap.size + 1 + 1, 3, none⟩, .int .i64 0)] w _ := g2.set 14 (w.heap.size + 1 + 1) 2 _ (.int .i64 ((aR + bR + 1) / 2)) rfl (by simp [List.forall_mem_cons]; omega) (by omega)
        have g4 : Lf w.heap.size (n1 + 1) [(⟨n1, 0, none⟩, .int .i64 (ovV u ((aR + bR + 1) / 2) (u * u + v * v) 2)), (⟨n1, 1, none⟩, .int .i64 (ovV v ((aR + bR + 1) / 2) (u * u + v * v) 2)), (⟨n1, 2, none⟩, .int .i64 ((aR + bR + 1) / 2)), (⟨n1, 3, none⟩, .int .i64 ((aH + bH + 1) / 2)), (⟨w.heap.size, 0, none⟩, .int .i64 aU), (⟨w.heap.size, 1, none⟩, .int .i64 aW), (⟨w.heap.size, 2, none⟩, .int .i64 aR), (⟨w.heap.size, 3, none⟩, .int .i64 aH), (⟨w.heap.size + 1, 0, none⟩, .int .i64 bU), (⟨w.heap.size + 1, 1, none⟩, .int .i64 bW), (⟨w.heap.size + 1, 2, none⟩, .int .i64 bR), (⟨w.heap.size + 1, 3, none⟩, .int .i64 bH), (⟨w.heap.size + 1 + 1, 0, none⟩, .int .i64 (ovV u ((aR + bR + 1) / 2) (u * u + v * v) 2)), (⟨w.heap.size + 1 + 1, 1, none⟩, .int .i64 (ovV v ((aR + bR + 1) / 2) (u * u + v * v) 2)), (⟨w.heap.size + 1 + 1, 2, none⟩, .int .i64 ((aR + bR + 1) / 2)), (⟨w.heap.size + 1 + 1, 3, none⟩, .int .i64 ((aH + bH + 1) / 2))] w _ := g3.set 15 (w.heap.size + 1 + 1) 3 _ (.int .i64 ((aH + bH + 1) / 2)) rfl (by simp [List.forall_mem_cons]; omega) (by omega)
        have kc := g4.cells
        simp only [List.forall_mem_cons, List.not_mem_nil, false_implies, implies_true, and_true] at kc
        obtain ⟨z0, z1, z2, z3, z4, z5, z6, z7, z8, z9, z10, z11, z12, z13, z14, z15⟩ := kc
        refine bodyPost_ret (v := .tuple #[.agg #[.int .i64 (ovV u ((aR + bR + 1) / 2) (u * u + v * v) 2), .int .i64 (ovV v ((aR + bR + 1) / 2) (u * u + v * v) 2), .int .i64 ((aR + bR + 1) / 2), .int .i64 ((aH + bH + 1) / 2)], .bool true]) (by simp [results, Try.results26, go_sem, z12, z13, z14, z15]) rfl ⟨?_, g4.be⟩
        first | rfl | (rw [if_neg HI.out]; first | rfl | (simp; done)) | (simp; done)
  )
end Go.Proofs.Ytkjjoclbjkpdaaa
