/- Proved here: the reference's Middle, for any two spokes within the layer's limits; refusals too. -/
import Derived.Test.YtkjjoclbjkpdaaaKm1R
import Derived.StillTailTactics
namespace Go.Proofs.Ytkjjoclbjkpdaaa
open Go.RowKit
set_option linter.unusedVariables false
set_option linter.unusedSimpArgs false
theorem natAbs_sq' (x : Int) : ((x.natAbs * x.natAbs : Nat) : Int) = x * x := by
  rw [Int.natCast_mul]
  rcases Int.natAbs_eq x with h | h
  · rw [← h]
  · generalize (x.natAbs : Int) = k at *
    subst h; grind
theorem sq_pos {x : Int} (h : x ≠ 0) : 1 ≤ x * x := by
  have e : (x * x).natAbs = x.natAbs * x.natAbs := Int.natAbs_mul x x
  have h1 := Nat.mul_le_mul (show 1 ≤ x.natAbs by omega) (show 1 ≤ x.natAbs by omega)
  have e2 := natAbs_sq' x
  omega
theorem near_I (x r n : Int) (w : World) (hx : -94906268 ≤ x) (hx2 : x ≤ 94906268) (hr : 0 ≤ r) (hr2 : r ≤ 94906268) (hn : 1 ≤ n) (hn2 : n ≤ 36028797018963968) (hxn : x * x ≤ n) :
    Calls Try.prog 77 #[.int .i64 x, .int .i64 r, .int .i64 n] w fun e w' => e = .returned (.int .i64 (nrI x r n)) ∧ w = w' :=
  near_any x r n w hx hx2 hr hr2 hn hn2 (by have := natAbs_sq' x; omega)
set_option maxHeartbeats 2000000 in
set_option maxRecDepth 20000 in
theorem middleR_dir (aU aW aR aH bU bW bR bH dir : Int) (full : Bool) (w : World) (h1 : dir ≠ 1) (h2 : dir ≠ -1) :
    Calls Try.prog 59 #[.agg #[.int .i64 aU, .int .i64 aW, .int .i64 aR, .int .i64 aH], .agg #[.int .i64 bU, .int .i64 bW, .int .i64 bR, .int .i64 bH], .int .i64 dir, .bool full] w fun e w' => e = .returned (.tuple #[.agg #[.int .i64 0, .int .i64 0, .int .i64 0, .int .i64 0], .bool false]) ∧ Below w.heap.size w w' := by
  have e1 : (dir == 1) = false := by simp; exact h1
  have e2 : (dir == -1) = false := by simp; exact h2
  have e3 : (dir != 1) = true := by simp; exact h1
  have e4 : (dir != -1) = true := by simp; exact h2
  clear h1 h2
  go_enter Try.func59, Try.ntmps59
  go_wp2_with fail
  refine bodyPost_ret (v := .tuple #[.agg #[.int .i64 0, .int .i64 0, .int .i64 0, .int .i64 0], .bool false]) (by simp [results, Try.results59, go_sem]) rfl ⟨rfl, ?_⟩
  (repeat (first | exact Below.refl _ _ | assumption | refine Below.drew ?_ | (refine Below.alloc ?_ (by simp <;> omega) _) | (refine Below.setCell ?_ (by simp <;> omega) _)))
set_option maxHeartbeats 8000000 in
set_option maxRecDepth 20000 in
theorem middleR_p (aU aW aR aH bU bW bR bH : Int) (full : Bool) (u v : Int) (w : World) (sa : Sp aU aW aR aH) (sb : Sp bU bW bR bH) (HU : Hid (mdU aU aW bU bW 1 full = u)) (HV : Hid (mdW aU aW bU bW 1 full = v)) :
    Calls Try.prog 59 #[.agg #[.int .i64 aU, .int .i64 aW, .int .i64 aR, .int .i64 aH], .agg #[.int .i64 bU, .int .i64 bW, .int .i64 bR, .int .i64 bH], .int .i64 1, .bool full] w fun e w' => e = .returned (if u = 0 ∧ v = 0 then .tuple #[.agg #[.int .i64 0, .int .i64 0, .int .i64 0, .int .i64 0], .bool false] else .tuple #[.agg #[.int .i64 (nrI u ((aR + bR + 1) / 2) (u * u + v * v)), .int .i64 (nrI v ((aR + bR + 1) / 2) (u * u + v * v)), .int .i64 ((aR + bR + 1) / 2), .int .i64 ((aH + bH + 1) / 2)], .bool true]) ∧ Below w.heap.size w w' := by
  obtain ⟨a1, a2, a3, a4, a5, a6, a7, a8⟩ := sa
  obtain ⟨b1, b2, b3, b4, b5, b6, b7, b8⟩ := sb
  have hd : (1 : Int) = 1 ∨ (1 : Int) = -1 := by omega
  have DP := fun w => Lib.hid (dotR_any aU aW aR aH bU bW bR bH w ⟨⟨by omega, by omega⟩, by omega, by omega⟩ ⟨⟨by omega, by omega⟩, by omega, by omega⟩)
  have CP := fun w => Lib.hid (crossR_any aU aW aR aH bU bW bR bH w ⟨⟨by omega, by omega⟩, by omega, by omega⟩ ⟨⟨by omega, by omega⟩, by omega, by omega⟩)
  have HR := fun w => Lib.hid (half_any aR bR w (by omega) (by omega) (by omega) (by omega))
  have HH := fun w => Lib.hid (half_any aH bH w (by omega) (by omega) (by omega) (by omega))
  have m1 := mul_bdK (x := aU) (y := bW) (by omega) (by omega) (by omega) (by omega)
  have m2 := mul_bdK (x := aW) (y := bU) (by omega) (by omega) (by omega) (by omega)
  have m3 := dir_mul2 hd (x := aU * bW - aW * bU) (by omega) (by omega)
  have m4 := dir_mul hd (x := bW - aW) (by omega) (by omega)
  have m5 := dir_mul hd (x := aU - bU) (by omega) (by omega)
  have W1 := Lib.hid (wr_k (n := aU + bU) (by omega) (by omega))
  have W2 := Lib.hid (wr_k (n := aW + bW) (by omega) (by omega))
  have W3 := Lib.hid (wr_k (n := bW - aW) (by omega) (by omega))
  have W4 := Lib.hid (wr_k (n := aU - bU) (by omega) (by omega))
  have W5 := Lib.hid (wr_k (n := 1 * (bW - aW)) (by omega) (by omega))
  have W6 := Lib.hid (wr_k (n := 1 * (aU - bU)) (by omega) (by omega))
  have W7 := Lib.hid (wr_k (n := -aU) (by omega) (by omega))
  have W8 := Lib.hid (wr_k (n := -aW) (by omega) (by omega))
  have W9 := Lib.hid (wr_k (n := aW - bW) (by omega) (by omega))
  have W10 := Lib.hid (wr_k (n := bU - aU) (by omega) (by omega))
  have W11 := Lib.hid (wr_k (n := -(aU + bU)) (by omega) (by omega))
  have W12 := Lib.hid (wr_k (n := -(aW + bW)) (by omega) (by omega))
  have W13 := Lib.hid (wr_k (n := -(bW - aW)) (by omega) (by omega))
  have W14 := Lib.hid (wr_k (n := -(aU - bU)) (by omega) (by omega))
  have hub : -94906268 ≤ u ∧ u ≤ 94906268 := by
    rw [← HU.out]; unfold mdU; (repeat' split) <;> omega
  have hvb : -94906268 ≤ v ∧ v ≤ 94906268 := by
    rw [← HV.out]; unfold mdW; (repeat' split) <;> omega
  have qu := sq_bdK (x := u) hub.1 hub.2
  have qv := sq_bdK (x := v) hvb.1 hvb.2
  have NR := fun x n w h1 h2 h3 h4 h5 => Lib.hid (near_I x ((aR + bR + 1) / 2) n w h1 h2 (by omega) (by omega) h3 h4 h5)
  obtain ⟨m3a, m3b⟩ := m3
  obtain ⟨u1, u2⟩ := hub
  obtain ⟨v1, v2⟩ := hvb
  obtain ⟨qu1, qu2⟩ := qu
  obtain ⟨qv1, qv2⟩ := qv
  clear hd m1 m2 m4 m5
  have hT : Lf w.heap.size (w.heap.size + 1 + 1 + 1) [(⟨w.heap.size, 0, none⟩, .int .i64 aU), (⟨w.heap.size, 1, none⟩, .int .i64 aW), (⟨w.heap.size, 2, none⟩, .int .i64 aR), (⟨w.heap.size, 3, none⟩, .int .i64 aH), (⟨w.heap.size + 1, 0, none⟩, .int .i64 bU), (⟨w.heap.size + 1, 1, none⟩, .int .i64 bW), (⟨w.heap.size + 1, 2, none⟩, .int .i64 bR), (⟨w.heap.size + 1, 3, none⟩, .int .i64 bH), (⟨w.heap.size + 1 + 1, 0, none⟩, .int .i64 0), (⟨w.heap.size + 1 + 1, 1, none⟩, .int .i64 0), (⟨w.heap.size + 1 + 1, 2, none⟩, .int .i64 0), (⟨w.heap.size + 1 + 1, 3, none⟩, .int .i64 0)] w (((w.alloc (.cells #[.int .i64 aU, .int .i64 aW, .int .i64 aR, .int .i64 aH] 34)).alloc (.cells #[.int .i64 bU, .int .i64 bW, .int .i64 bR, .int .i64 bH] 34)).alloc (.cells #[.int .i64 0, .int .i64 0, .int .i64 0, .int .i64 0] 34)) :=
    ⟨by simp [List.forall_mem_cons, go_sem], by simp [List.forall_mem_cons, go_sem], by simp [List.forall_mem_cons] <;> omega, by simp, by (repeat (first | exact Below.refl _ _ | assumption | refine Below.drew ?_ | (refine Below.alloc ?_ (by simp <;> omega) _) | (refine Below.setCell ?_ (by simp <;> omega) _))), by omega⟩
  (
    go_enter Try.func59, Try.ntmps59
    first | go_upto_block 0 with fail | go_upto_block 1 with fail | go_upto_block 2 with fail
    go_cut [10, 11] (fun s t wx => s = .int .i64 u ∧ t = .int .i64 v ∧ Lf w.heap.size (w.heap.size + 1 + 1 + 1) [(⟨w.heap.size, 0, none⟩, .int .i64 aU), (⟨w.heap.size, 1, none⟩, .int .i64 aW), (⟨w.heap.size, 2, none⟩, .int .i64 aR), (⟨w.heap.size, 3, none⟩, .int .i64 aH), (⟨w.heap.size + 1, 0, none⟩, .int .i64 bU), (⟨w.heap.size + 1, 1, none⟩, .int .i64 bW), (⟨w.heap.size + 1, 2, none⟩, .int .i64 bR), (⟨w.heap.size + 1, 3, none⟩, .int .i64 bH), (⟨w.heap.size + 1 + 1, 0, none⟩, .int .i64 0), (⟨w.heap.size + 1 + 1, 1, none⟩, .int .i64 0), (⟨w.heap.size + 1 + 1, 2, none⟩, .int .i64 0), (⟨w.heap.size + 1 + 1, 3, none⟩, .int .i64 0)] w wx)
    case first =>
      cases full
      · by_cases hc1 : aU * bU + aW * bW ≤ 0
        · have HC1 := Lib.hid hc1
          clear hc1
          have kc := hT.cells
          have kf := hT.frz
          simp only [List.forall_mem_cons, List.not_mem_nil, false_implies, implies_true, and_true] at kc kf
          obtain ⟨c0, c1, c2, c3, c4, c5, c6, c7, c8, c9, c10, c11⟩ := kc
          obtain ⟨f0, f1, f2, f3, f4, f5, f6, f7, f8, f9, f10, f11⟩ := kf
          have hc1 := HC1.out
          go_wp2_with fail
          refine (DP _).out.mono ?_
          rintro e w1 ⟨rfl, hb1⟩
          have hT := hT.next hb1
          clear hb1
          have kc := hT.cells
          have kf := hT.frz
          simp only [List.forall_mem_cons, List.not_mem_nil, false_implies, implies_true, and_true] at kc kf
          obtain ⟨c0, c1, c2, c3, c4, c5, c6, c7, c8, c9, c10, c11⟩ := kc
          obtain ⟨f0, f1, f2, f3, f4, f5, f6, f7, f8, f9, f10, f11⟩ := kf
          have hc1 := HC1.out
          go_wp2_with fail
          refine (DP _).out.mono ?_
          rintro e w1 ⟨rfl, hb1⟩
          have hT := hT.next hb1
          clear hb1
          go_upto_region 4 with fail
          (refine wp_region_class (Lf w.heap.size (w.heap.size + 1 + 1 + 1) [(⟨w.heap.size, 0, none⟩, .int .i64 aU), (⟨w.heap.size, 1, none⟩, .int .i64 aW), (⟨w.heap.size, 2, none⟩, .int .i64 aR), (⟨w.heap.size, 3, none⟩, .int .i64 aH), (⟨w.heap.size + 1, 0, none⟩, .int .i64 bU), (⟨w.heap.size + 1, 1, none⟩, .int .i64 bW), (⟨w.heap.size + 1, 2, none⟩, .int .i64 bR), (⟨w.heap.size + 1, 3, none⟩, .int .i64 bH), (⟨w.heap.size + 1 + 1, 0, none⟩, .int .i64 0), (⟨w.heap.size + 1 + 1, 1, none⟩, .int .i64 0), (⟨w.heap.size + 1 + 1, 2, none⟩, .int .i64 0), (⟨w.heap.size + 1 + 1, 3, none⟩, .int .i64 0)] w) (hT.next (Below.refl _ _).drew) (by kernel_rfl) (by kernel_rfl) ?_; repeat (refine wpQuiet_step (fun qK9 qH9 => ?_); go_simp; first | (refine qH9 _ ?_; clear qH9 qK9) | (apply Exists.intro; refine ⟨?_, qH9 _ ?_⟩; (first | (intros; rfl) | ((intro wx hC; ((have qk9 := (hC).cells; simp only [List.forall_mem_cons, List.not_mem_nil, false_implies, implies_true, and_true] at qk9; repeat (obtain ⟨qk8, qk9⟩ := qk9)); go_simp; first | done | rfl)))); clear qH9 qK9)))
          refine wpQuiet_nil ?_
          clear hT
          intro wz hT
          go_wp2_with fail
          go_meet
          refine ⟨?_, ?_, hT⟩
          · rw [← HU.out]; simp [mdU, HC1.out, W3.out, W4.out, W13.out]
          · rw [← HV.out]; simp [mdW, HC1.out, W3.out, W4.out, W14.out]
        · have hn : 0 < aU * bU + aW * bW := by omega
          have HC1 := Lib.hid hc1
          by_cases hc2 : aU * bW - aW * bU ≤ 0
          · have EU : Hid (u = -(aU + bU)) := by show u = _; rw [← HU.out]; unfold mdU; simp only [Bool.false_eq_true, if_false]; (repeat' split) <;> omega
            have EV : Hid (v = -(aW + bW)) := by show v = _; rw [← HV.out]; unfold mdW; simp only [Bool.false_eq_true, if_false]; (repeat' split) <;> omega
            have HC2 := Lib.hid hc2
            clear hc2 hc1
            have kc := hT.cells
            have kf := hT.frz
            simp only [List.forall_mem_cons, List.not_mem_nil, false_implies, implies_true, and_true] at kc kf
            obtain ⟨c0, c1, c2, c3, c4, c5, c6, c7, c8, c9, c10, c11⟩ := kc
            obtain ⟨f0, f1, f2, f3, f4, f5, f6, f7, f8, f9, f10, f11⟩ := kf
            have hc2 := HC2.out
            go_wp2_with fail
            refine (DP _).out.mono ?_
            rintro e w1 ⟨rfl, hb1⟩
            have hT := hT.next hb1
            clear hb1
            have kc := hT.cells
            have kf := hT.frz
            simp only [List.forall_mem_cons, List.not_mem_nil, false_implies, implies_true, and_true] at kc kf
            obtain ⟨c0, c1, c2, c3, c4, c5, c6, c7, c8, c9, c10, c11⟩ := kc
            obtain ⟨f0, f1, f2, f3, f4, f5, f6, f7, f8, f9, f10, f11⟩ := kf
            go_wp2_with fail
            refine (CP _).out.mono ?_
            rintro e w1 ⟨rfl, hb1⟩
            have hT := hT.next hb1
            clear hb1
            have kc := hT.cells
            have kf := hT.frz
            simp only [List.forall_mem_cons, List.not_mem_nil, false_implies, implies_true, and_true] at kc kf
            obtain ⟨c0, c1, c2, c3, c4, c5, c6, c7, c8, c9, c10, c11⟩ := kc
            obtain ⟨f0, f1, f2, f3, f4, f5, f6, f7, f8, f9, f10, f11⟩ := kf
            go_wp2_with fail
            refine (DP _).out.mono ?_
            rintro e w1 ⟨rfl, hb1⟩
            have hT := hT.next hb1
            clear hb1
            go_upto_region 10 with fail
            (refine wp_region_class (Lf w.heap.size (w.heap.size + 1 + 1 + 1) [(⟨w.heap.size, 0, none⟩, .int .i64 aU), (⟨w.heap.size, 1, none⟩, .int .i64 aW), (⟨w.heap.size, 2, none⟩, .int .i64 aR), (⟨w.heap.size, 3, none⟩, .int .i64 aH), (⟨w.heap.size + 1, 0, none⟩, .int .i64 bU), (⟨w.heap.size + 1, 1, none⟩, .int .i64 bW), (⟨w.heap.size + 1, 2, none⟩, .int .i64 bR), (⟨w.heap.size + 1, 3, none⟩, .int .i64 bH), (⟨w.heap.size + 1 + 1, 0, none⟩, .int .i64 0), (⟨w.heap.size + 1 + 1, 1, none⟩, .int .i64 0), (⟨w.heap.size + 1 + 1, 2, none⟩, .int .i64 0), (⟨w.heap.size + 1 + 1, 3, none⟩, .int .i64 0)] w) (hT.next (Below.refl _ _).drew) (by kernel_rfl) (by kernel_rfl) ?_; repeat (refine wpQuiet_step (fun qK9 qH9 => ?_); go_simp; first | (refine qH9 _ ?_; clear qH9 qK9) | (apply Exists.intro; refine ⟨?_, qH9 _ ?_⟩; (first | (intros; rfl) | ((intro wx hC; ((have qk9 := (hC).cells; simp only [List.forall_mem_cons, List.not_mem_nil, false_implies, implies_true, and_true] at qk9; repeat (obtain ⟨qk8, qk9⟩ := qk9)); go_simp; first | done | rfl)))); clear qH9 qK9)))
            refine wpQuiet_nil ?_
            clear hT
            intro wz hT
            go_wp2_with fail
            go_meet
            refine ⟨?_, ?_, hT⟩
            · rw [EU.out]; simp [W1.out, W11.out]
            · rw [EV.out]; simp [W2.out, W12.out]
          · have EU : Hid (u = aU + bU) := by show u = _; rw [← HU.out]; unfold mdU; simp only [Bool.false_eq_true, if_false]; (repeat' split) <;> omega
            have EV : Hid (v = aW + bW) := by show v = _; rw [← HV.out]; unfold mdW; simp only [Bool.false_eq_true, if_false]; (repeat' split) <;> omega
            have HC2 := Lib.hid hc2
            clear hc2 hc1
            have kc := hT.cells
            have kf := hT.frz
            simp only [List.forall_mem_cons, List.not_mem_nil, false_implies, implies_true, and_true] at kc kf
            obtain ⟨c0, c1, c2, c3, c4, c5, c6, c7, c8, c9, c10, c11⟩ := kc
            obtain ⟨f0, f1, f2, f3, f4, f5, f6, f7, f8, f9, f10, f11⟩ := kf
            have hc2 := HC2.out
            go_wp2_with fail
            refine (DP _).out.mono ?_
            rintro e w1 ⟨rfl, hb1⟩
            have hT := hT.next hb1
            clear hb1
            have kc := hT.cells
            have kf := hT.frz
            simp only [List.forall_mem_cons, List.not_mem_nil, false_implies, implies_true, and_true] at kc kf
            obtain ⟨c0, c1, c2, c3, c4, c5, c6, c7, c8, c9, c10, c11⟩ := kc
            obtain ⟨f0, f1, f2, f3, f4, f5, f6, f7, f8, f9, f10, f11⟩ := kf
            go_wp2_with fail
            refine (CP _).out.mono ?_
            rintro e w1 ⟨rfl, hb1⟩
            have hT := hT.next hb1
            clear hb1
            go_upto_region 8 with fail
            (refine wp_region_class (Lf w.heap.size (w.heap.size + 1 + 1 + 1) [(⟨w.heap.size, 0, none⟩, .int .i64 aU), (⟨w.heap.size, 1, none⟩, .int .i64 aW), (⟨w.heap.size, 2, none⟩, .int .i64 aR), (⟨w.heap.size, 3, none⟩, .int .i64 aH), (⟨w.heap.size + 1, 0, none⟩, .int .i64 bU), (⟨w.heap.size + 1, 1, none⟩, .int .i64 bW), (⟨w.heap.size + 1, 2, none⟩, .int .i64 bR), (⟨w.heap.size + 1, 3, none⟩, .int .i64 bH), (⟨w.heap.size + 1 + 1, 0, none⟩, .int .i64 0), (⟨w.heap.size + 1 + 1, 1, none⟩, .int .i64 0), (⟨w.heap.size + 1 + 1, 2, none⟩, .int .i64 0), (⟨w.heap.size + 1 + 1, 3, none⟩, .int .i64 0)] w) (hT.next (Below.refl _ _).drew) (by kernel_rfl) (by kernel_rfl) ?_; repeat (refine wpQuiet_step (fun qK9 qH9 => ?_); go_simp; first | (refine qH9 _ ?_; clear qH9 qK9) | (apply Exists.intro; refine ⟨?_, qH9 _ ?_⟩; (first | (intros; rfl) | ((intro wx hC; ((have qk9 := (hC).cells; simp only [List.forall_mem_cons, List.not_mem_nil, false_implies, implies_true, and_true] at qk9; repeat (obtain ⟨qk8, qk9⟩ := qk9)); go_simp; first | done | rfl)))); clear qH9 qK9)))
            refine wpQuiet_nil ?_
            clear hT
            intro wz hT
            go_wp2_with fail
            go_meet
            refine ⟨?_, ?_, hT⟩
            · rw [EU.out]; simp [W1.out]
            · rw [EV.out]; simp [W2.out]
      · go_upto_region 6 with fail
        (refine wp_region_class (Lf w.heap.size (w.heap.size + 1 + 1 + 1) [(⟨w.heap.size, 0, none⟩, .int .i64 aU), (⟨w.heap.size, 1, none⟩, .int .i64 aW), (⟨w.heap.size, 2, none⟩, .int .i64 aR), (⟨w.heap.size, 3, none⟩, .int .i64 aH), (⟨w.heap.size + 1, 0, none⟩, .int .i64 bU), (⟨w.heap.size + 1, 1, none⟩, .int .i64 bW), (⟨w.heap.size + 1, 2, none⟩, .int .i64 bR), (⟨w.heap.size + 1, 3, none⟩, .int .i64 bH), (⟨w.heap.size + 1 + 1, 0, none⟩, .int .i64 0), (⟨w.heap.size + 1 + 1, 1, none⟩, .int .i64 0), (⟨w.heap.size + 1 + 1, 2, none⟩, .int .i64 0), (⟨w.heap.size + 1 + 1, 3, none⟩, .int .i64 0)] w) (hT.next (Below.refl _ _).drew) (by kernel_rfl) (by kernel_rfl) ?_; repeat (refine wpQuiet_step (fun qK9 qH9 => ?_); go_simp; first | (refine qH9 _ ?_; clear qH9 qK9) | (apply Exists.intro; refine ⟨?_, qH9 _ ?_⟩; (first | (intros; rfl) | ((intro wx hC; ((have qk9 := (hC).cells; simp only [List.forall_mem_cons, List.not_mem_nil, false_implies, implies_true, and_true] at qk9; repeat (obtain ⟨qk8, qk9⟩ := qk9)); go_simp; first | done | rfl)))); clear qH9 qK9)))
        refine wpQuiet_nil ?_
        clear hT
        intro wz hT
        go_wp2_with fail
        go_meet
        refine ⟨?_, ?_, hT⟩
        · rw [← HU.out]; simp [mdU, W7.out]
        · rw [← HV.out]; simp [mdW, W8.out]
      
    case rest =>
      obtain ⟨rfl, rfl, hT⟩ := hcut
      clear HU HV DP CP W1 W2 W3 W4 W5 W6 W7 W8 W9 W10 W11 W12 W13 W14 m3a m3b
      have kc := hT.cells
      have kf := hT.frz
      simp only [List.forall_mem_cons, List.not_mem_nil, false_implies, implies_true, and_true] at kc kf
      obtain ⟨c0, c1, c2, c3, c4, c5, c6, c7, c8, c9, c10, c11⟩ := kc
      obtain ⟨f0, f1, f2, f3, f4, f5, f6, f7, f8, f9, f10, f11⟩ := kf
      by_cases hu : u = 0
      · by_cases hv : v = 0
        · subst hu hv
          clear NR
          go_wp2_with fail
          refine bodyPost_ret (v := .tuple #[.agg #[.int .i64 0, .int .i64 0, .int .i64 0, .int .i64 0], .bool false]) (by simp [results, Try.results59, go_sem, *]) rfl ⟨by simp, ?_⟩
          exact (((hT.be.setCell (by simp; omega) _).setCell (by simp; omega) _).setCell (by simp; omega) _).setCell (by simp; omega) _
        · subst hu
          have hv1 : decide (v = 0) = false := decide_eq_false hv
          have hp := sq_pos hv
          have HI : Hid (¬ ((0 : Int) = 0 ∧ v = 0)) := fun h => hv h.2
          have NU := fun w => Lib.hid ((NR 0 (v * v) w (by omega) (by omega) (by omega) (by omega) (by omega)).out.mono fun e w' h => (⟨h.1, h.2.symm⟩ : _ ∧ w' = w))
          have NV := fun w => Lib.hid ((NR v (v * v) w (by omega) (by omega) (by omega) (by omega) (by omega)).out.mono fun e w' h => (⟨h.1, h.2.symm⟩ : _ ∧ w' = w))
          have HS := fun w => Lib.hid ((HH w).out.mono fun e w' h => (⟨h.1, h.2.symm⟩ : _ ∧ w' = w))
          clear NR
          obtain ⟨X, hX⟩ : ∃ X, (nrI 0 ((aR + bR + 1) / 2) (v * v)) = X := ⟨_, rfl⟩
          obtain ⟨Y, hY⟩ : ∃ Y, (nrI v ((aR + bR + 1) / 2) (v * v)) = Y := ⟨_, rfl⟩
          simp only [hX] at NU
          simp only [hY] at NV
          have HX := Lib.hid hX
          have HY := Lib.hid hY
          clear hX hY
          go_wp2_with fail
          refine (HR _).out.mono ?_
          rintro e w' ⟨rfl, rfl⟩
          go_upto_region 15 with fail
          refine wp_region_still_tail 15 (by kernel_rfl) (by kernel_rfl) ?_
          simp only [List.take_succ_cons, List.take_zero, List.drop_succ_cons, List.drop_zero]
          change wpStill _ _ (World.drew _) _ _ _
          iterate 3 still_step
          still_call ((NU _).out)
          iterate 3 still_step
          still_call ((NV _).out)
          iterate 5 still_step
          still_call ((HS _).out)
          still_step
          refine wpStill_nil ?_
          change wpList _ _ _ _ _ (World.drew _)
          go_wp2_with fail
          have g0 : Lf w.heap.size (w.heap.size + 1 + 1 + 1) [(⟨w.heap.size, 0, none⟩, .int .i64 aU), (⟨w.heap.size, 1, none⟩, .int .i64 aW), (⟨w.heap.size, 2, none⟩, .int .i64 aR), (⟨w.heap.size, 3, none⟩, .int .i64 aH), (⟨w.heap.size + 1, 0, none⟩, .int .i64 bU), (⟨w.heap.size + 1, 1, none⟩, .int .i64 bW), (⟨w.heap.size + 1, 2, none⟩, .int .i64 bR), (⟨w.heap.size + 1, 3, none⟩, .int .i64 bH), (⟨w.heap.size + 1 + 1, 0, none⟩, .int .i64 X), (⟨w.heap.size + 1 + 1, 1, none⟩, .int .i64 0), (⟨w.heap.size + 1 + 1, 2, none⟩, .int .i64 0), (⟨w.heap.size + 1 + 1, 3, none⟩, .int .i64 0)] w _ := hT.set 8 (w.heap.size + 1 + 1) 0 _ (.int .i64 X) rfl (by simp [List.forall_mem_cons]; omega) (by omega)
          have g1 : Lf w.heap.size (w.heap.size + 1 + 1 + 1) [(⟨w.heap.size, 0, none⟩, .int .i64 aU), (⟨w.heap.size, 1, none⟩, .int .i64 aW), (⟨w.heap.size, 2, none⟩, .int .i64 aR), (⟨w.heap.size, 3, none⟩, .int .i64 aH), (⟨w.heap.size + 1, 0, none⟩, .int .i64 bU), (⟨w.heap.size + 1, 1, none⟩, .int .i64 bW), (⟨w.heap.size + 1, 2, none⟩, .int .i64 bR), (⟨w.heap.size + 1, 3, none⟩, .int .i64 bH), (⟨w.heap.size + 1 + 1, 0, none⟩, .int .i64 X), (⟨w.heap.size + 1 + 1, 1, none⟩, .int .i64 Y), (⟨w.heap.size + 1 + 1, 2, none⟩, .int .i64 0), (⟨w.heap.size + 1 + 1, 3, none⟩, .int .i64 0)] w _ := g0.set 9 (w.heap.size + 1 + 1) 1 _ (.int .i64 Y) rfl (by simp [List.forall_mem_cons]; omega) (by omega)
          have g2 : Lf w.heap.size (w.heap.size + 1 + 1 + 1) [(⟨w.heap.size, 0, none⟩, .int .i64 aU), (⟨w.heap.size, 1, none⟩, .int .i64 aW), (⟨w.heap.size, 2, none⟩, .int .i64 aR), (⟨w.heap.size, 3, none⟩, .int .i64 aH), (⟨w.heap.size + 1, 0, none⟩, .int .i64 bU), (⟨w.heap.size + 1, 1, none⟩, .int .i64 bW), (⟨w.heap.size + 1, 2, none⟩, .int .i64 bR), (⟨w.heap.size + 1, 3, none⟩, .int .i64 bH), (⟨w.heap.size + 1 + 1, 0, none⟩, .int .i64 X), (⟨w.heap.size + 1 + 1, 1, none⟩, .int .i64 Y), (⟨w.heap.size + 1 + 1, 2, none⟩, .int .i64 ((aR + bR + 1) / 2)), (⟨w.heap.size + 1 + 1, 3, none⟩, .int .i64 0)] w _ := g1.set 10 (w.heap.size + 1 + 1) 2 _ (.int .i64 ((aR + bR + 1) / 2)) rfl (by simp [List.forall_mem_cons]; omega) (by omega)
          have g3 : Lf w.heap.size (w.heap.size + 1 + 1 + 1) [(⟨w.heap.size, 0, none⟩, .int .i64 aU), (⟨w.heap.size, 1, none⟩, .int .i64 aW), (⟨w.heap.size, 2, none⟩, .int .i64 aR), (⟨w.heap.size, 3, none⟩, .int .i64 aH), (⟨w.heap.size + 1, 0, none⟩, .int .i64 bU), (⟨w.heap.size + 1, 1, none⟩, .int .i64 bW), (⟨w.heap.size + 1, 2, none⟩, .int .i64 bR), (⟨w.heap.size + 1, 3, none⟩, .int .i64 bH), (⟨w.heap.size + 1 + 1, 0, none⟩, .int .i64 X), (⟨w.heap.size + 1 + 1, 1, none⟩, .int .i64 Y), (⟨w.heap.size + 1 + 1, 2, none⟩, .int .i64 ((aR + bR + 1) / 2)), (⟨w.heap.size + 1 + 1, 3, none⟩, .int .i64 ((aH + bH + 1) / 2))] w _ := g2.set 11 (w.heap.size + 1 + 1) 3 _ (.int .i64 ((aH + bH + 1) / 2)) rfl (by simp [List.forall_mem_cons]; omega) (by omega)
          have kc := g3.cells
          simp only [List.forall_mem_cons, List.not_mem_nil, false_implies, implies_true, and_true] at kc
          obtain ⟨z0, z1, z2, z3, z4, z5, z6, z7, z8, z9, z10, z11⟩ := kc
          refine bodyPost_ret (v := .tuple #[.agg #[.int .i64 X, .int .i64 Y, .int .i64 ((aR + bR + 1) / 2), .int .i64 ((aH + bH + 1) / 2)], .bool true]) (by simp [results, Try.results59, go_sem, z8, z9, z10, z11]) rfl ⟨?_, g3.be.drew⟩
          first | (simp [HX.out, HY.out]; done) | (rw [if_neg HI.out]; simp [HX.out, HY.out])
      · have hu0 : (u == 0) = false := by simp; exact hu
        have hp := sq_pos hu
        have hi : ¬ (u = 0 ∧ v = 0) := fun h => hu h.1
        have HI := Lib.hid hi
        clear hu hi
        have NU := fun w => Lib.hid ((NR u (u * u + v * v) w (by omega) (by omega) (by omega) (by omega) (by omega)).out.mono fun e w' h => (⟨h.1, h.2.symm⟩ : _ ∧ w' = w))
        have NV := fun w => Lib.hid ((NR v (u * u + v * v) w (by omega) (by omega) (by omega) (by omega) (by omega)).out.mono fun e w' h => (⟨h.1, h.2.symm⟩ : _ ∧ w' = w))
        have HS := fun w => Lib.hid ((HH w).out.mono fun e w' h => (⟨h.1, h.2.symm⟩ : _ ∧ w' = w))
        clear NR
        obtain ⟨X, hX⟩ : ∃ X, (nrI u ((aR + bR + 1) / 2) (u * u + v * v)) = X := ⟨_, rfl⟩
        obtain ⟨Y, hY⟩ : ∃ Y, (nrI v ((aR + bR + 1) / 2) (u * u + v * v)) = Y := ⟨_, rfl⟩
        simp only [hX] at NU
        simp only [hY] at NV
        have HX := Lib.hid hX
        have HY := Lib.hid hY
        clear hX hY
        go_wp2_with fail
        refine (HR _).out.mono ?_
        rintro e w' ⟨rfl, rfl⟩
        go_upto_region 15 with fail
        refine wp_region_still_tail 15 (by kernel_rfl) (by kernel_rfl) ?_
        simp only [List.take_succ_cons, List.take_zero, List.drop_succ_cons, List.drop_zero]
        change wpStill _ _ (World.drew _) _ _ _
        iterate 3 still_step
        still_call ((NU _).out)
        iterate 3 still_step
        still_call ((NV _).out)
        iterate 5 still_step
        still_call ((HS _).out)
        still_step
        refine wpStill_nil ?_
        change wpList _ _ _ _ _ (World.drew _)
        go_wp2_with fail
        have g0 : Lf w.heap.size (w.heap.size + 1 + 1 + 1) [(⟨w.heap.size, 0, none⟩, .int .i64 aU), (⟨w.heap.size, 1, none⟩, .int .i64 aW), (⟨w.heap.size, 2, none⟩, .int .i64 aR), (⟨w.heap.size, 3, none⟩, .int .i64 aH), (⟨w.heap.size + 1, 0, none⟩, .int .i64 bU), (⟨w.heap.size + 1, 1, none⟩, .int .i64 bW), (⟨w.heap.size + 1, 2, none⟩, .int .i64 bR), (⟨w.heap.size + 1, 3, none⟩, .int .i64 bH), (⟨w.heap.size + 1 + 1, 0, none⟩, .int .i64 X), (⟨w.heap.size + 1 + 1, 1, none⟩, .int .i64 0), (⟨w.heap.size + 1 + 1, 2, none⟩, .int .i64 0), (⟨w.heap.size + 1 + 1, 3, none⟩, .int .i64 0)] w _ := hT.set 8 (w.heap.size + 1 + 1) 0 _ (.int .i64 X) rfl (by simp [List.forall_mem_cons]; omega) (by omega)
        have g1 : Lf w.heap.size (w.heap.size + 1 + 1 + 1) [(⟨w.heap.size, 0, none⟩, .int .i64 aU), (⟨w.heap.size, 1, none⟩, .int .i64 aW), (⟨w.heap.size, 2, none⟩, .int .i64 aR), (⟨w.heap.size, 3, none⟩, .int .i64 aH), (⟨w.heap.size + 1, 0, none⟩, .int .i64 bU), (⟨w.heap.size + 1, 1, none⟩, .int .i64 bW), (⟨w.heap.size + 1, 2, none⟩, .int .i64 bR), (⟨w.heap.size + 1, 3, none⟩, .int .i64 bH), (⟨w.heap.size + 1 + 1, 0, none⟩, .int .i64 X), (⟨w.heap.size + 1 + 1, 1, none⟩, .int .i64 Y), (⟨w.heap.size + 1 + 1, 2, none⟩, .int .i64 0), (⟨w.heap.size + 1 + 1, 3, none⟩, .int .i64 0)] w _ := g0.set 9 (w.heap.size + 1 + 1) 1 _ (.int .i64 Y) rfl (by simp [List.forall_mem_cons]; omega) (by omega)
        have g2 : Lf w.heap.size (w.heap.size + 1 + 1 + 1) [(⟨w.heap.size, 0, none⟩, .int .i64 aU), (⟨w.heap.size, 1, none⟩, .int .i64 aW), (⟨w.heap.size, 2, none⟩, .int .i64 aR), (⟨w.heap.size, 3, none⟩, .int .i64 aH), (⟨w.heap.size + 1, 0, none⟩, .int .i64 bU), (⟨w.heap.size + 1, 1, none⟩, .int .i64 bW), (⟨w.heap.size + 1, 2, none⟩, .int .i64 bR), (⟨w.heap.size + 1, 3, none⟩, .int .i64 bH), (⟨w.heap.size + 1 + 1, 0, none⟩, .int .i64 X), (⟨w.heap.size + 1 + 1, 1, none⟩, .int .i64 Y), (⟨w.heap.size + 1 + 1, 2, none⟩, .int .i64 ((aR + bR + 1) / 2)), (⟨w.heap.size + 1 + 1, 3, none⟩, .int .i64 0)] w _ := g1.set 10 (w.heap.size + 1 + 1) 2 _ (.int .i64 ((aR + bR + 1) / 2)) rfl (by simp [List.forall_mem_cons]; omega) (by omega)
        have g3 : Lf w.heap.size (w.heap.size + 1 + 1 + 1) [(⟨w.heap.size, 0, none⟩, .int .i64 aU), (⟨w.heap.size, 1, none⟩, .int .i64 aW), (⟨w.heap.size, 2, none⟩, .int .i64 aR), (⟨w.heap.size, 3, none⟩, .int .i64 aH), (⟨w.heap.size + 1, 0, none⟩, .int .i64 bU), (⟨w.heap.size + 1, 1, none⟩, .int .i64 bW), (⟨w.heap.size + 1, 2, none⟩, .int .i64 bR), (⟨w.heap.size + 1, 3, none⟩, .int .i64 bH), (⟨w.heap.size + 1 + 1, 0, none⟩, .int .i64 X), (⟨w.heap.size + 1 + 1, 1, none⟩, .int .i64 Y), (⟨w.heap.size + 1 + 1, 2, none⟩, .int .i64 ((aR + bR + 1) / 2)), (⟨w.heap.size + 1 + 1, 3, none⟩, .int .i64 ((aH + bH + 1) / 2))] w _ := g2.set 11 (w.heap.size + 1 + 1) 3 _ (.int .i64 ((aH + bH + 1) / 2)) rfl (by simp [List.forall_mem_cons]; omega) (by omega)
        have kc := g3.cells
        simp only [List.forall_mem_cons, List.not_mem_nil, false_implies, implies_true, and_true] at kc
        obtain ⟨z0, z1, z2, z3, z4, z5, z6, z7, z8, z9, z10, z11⟩ := kc
        refine bodyPost_ret (v := .tuple #[.agg #[.int .i64 X, .int .i64 Y, .int .i64 ((aR + bR + 1) / 2), .int .i64 ((aH + bH + 1) / 2)], .bool true]) (by simp [results, Try.results59, go_sem, z8, z9, z10, z11]) rfl ⟨?_, g3.be.drew⟩
        first | (simp [HX.out, HY.out]; done) | (rw [if_neg HI.out]; simp [HX.out, HY.out])
  )
set_option maxHeartbeats 8000000 in
set_option maxRecDepth 20000 in
theorem middleR_m (aU aW aR aH bU bW bR bH : Int) (full : Bool) (u v : Int) (w : World) (sa : Sp aU aW aR aH) (sb : Sp bU bW bR bH) (HU : Hid (mdU aU aW bU bW (-1) full = u)) (HV : Hid (mdW aU aW bU bW (-1) full = v)) :
    Calls Try.prog 59 #[.agg #[.int .i64 aU, .int .i64 aW, .int .i64 aR, .int .i64 aH], .agg #[.int .i64 bU, .int .i64 bW, .int .i64 bR, .int .i64 bH], .int .i64 (-1), .bool full] w fun e w' => e = .returned (if u = 0 ∧ v = 0 then .tuple #[.agg #[.int .i64 0, .int .i64 0, .int .i64 0, .int .i64 0], .bool false] else .tuple #[.agg #[.int .i64 (nrI u ((aR + bR + 1) / 2) (u * u + v * v)), .int .i64 (nrI v ((aR + bR + 1) / 2) (u * u + v * v)), .int .i64 ((aR + bR + 1) / 2), .int .i64 ((aH + bH + 1) / 2)], .bool true]) ∧ Below w.heap.size w w' := by
  obtain ⟨a1, a2, a3, a4, a5, a6, a7, a8⟩ := sa
  obtain ⟨b1, b2, b3, b4, b5, b6, b7, b8⟩ := sb
  have hd : ((-1) : Int) = 1 ∨ ((-1) : Int) = -1 := by omega
  have DP := fun w => Lib.hid (dotR_any aU aW aR aH bU bW bR bH w ⟨⟨by omega, by omega⟩, by omega, by omega⟩ ⟨⟨by omega, by omega⟩, by omega, by omega⟩)
  have CP := fun w => Lib.hid (crossR_any aU aW aR aH bU bW bR bH w ⟨⟨by omega, by omega⟩, by omega, by omega⟩ ⟨⟨by omega, by omega⟩, by omega, by omega⟩)
  have HR := fun w => Lib.hid (half_any aR bR w (by omega) (by omega) (by omega) (by omega))
  have HH := fun w => Lib.hid (half_any aH bH w (by omega) (by omega) (by omega) (by omega))
  have m1 := mul_bdK (x := aU) (y := bW) (by omega) (by omega) (by omega) (by omega)
  have m2 := mul_bdK (x := aW) (y := bU) (by omega) (by omega) (by omega) (by omega)
  have m3 := dir_mul2 hd (x := aU * bW - aW * bU) (by omega) (by omega)
  have m4 := dir_mul hd (x := bW - aW) (by omega) (by omega)
  have m5 := dir_mul hd (x := aU - bU) (by omega) (by omega)
  have W1 := Lib.hid (wr_k (n := aU + bU) (by omega) (by omega))
  have W2 := Lib.hid (wr_k (n := aW + bW) (by omega) (by omega))
  have W3 := Lib.hid (wr_k (n := bW - aW) (by omega) (by omega))
  have W4 := Lib.hid (wr_k (n := aU - bU) (by omega) (by omega))
  have W5 := Lib.hid (wr_k (n := (-1) * (bW - aW)) (by omega) (by omega))
  have W6 := Lib.hid (wr_k (n := (-1) * (aU - bU)) (by omega) (by omega))
  have W7 := Lib.hid (wr_k (n := -aU) (by omega) (by omega))
  have W8 := Lib.hid (wr_k (n := -aW) (by omega) (by omega))
  have W9 := Lib.hid (wr_k (n := aW - bW) (by omega) (by omega))
  have W10 := Lib.hid (wr_k (n := bU - aU) (by omega) (by omega))
  have W11 := Lib.hid (wr_k (n := -(aU + bU)) (by omega) (by omega))
  have W12 := Lib.hid (wr_k (n := -(aW + bW)) (by omega) (by omega))
  have W13 := Lib.hid (wr_k (n := -(bW - aW)) (by omega) (by omega))
  have W14 := Lib.hid (wr_k (n := -(aU - bU)) (by omega) (by omega))
  have hub : -94906268 ≤ u ∧ u ≤ 94906268 := by
    rw [← HU.out]; unfold mdU; (repeat' split) <;> omega
  have hvb : -94906268 ≤ v ∧ v ≤ 94906268 := by
    rw [← HV.out]; unfold mdW; (repeat' split) <;> omega
  have qu := sq_bdK (x := u) hub.1 hub.2
  have qv := sq_bdK (x := v) hvb.1 hvb.2
  have NR := fun x n w h1 h2 h3 h4 h5 => Lib.hid (near_I x ((aR + bR + 1) / 2) n w h1 h2 (by omega) (by omega) h3 h4 h5)
  obtain ⟨m3a, m3b⟩ := m3
  obtain ⟨u1, u2⟩ := hub
  obtain ⟨v1, v2⟩ := hvb
  obtain ⟨qu1, qu2⟩ := qu
  obtain ⟨qv1, qv2⟩ := qv
  clear hd m1 m2 m4 m5
  have hT : Lf w.heap.size (w.heap.size + 1 + 1 + 1) [(⟨w.heap.size, 0, none⟩, .int .i64 aU), (⟨w.heap.size, 1, none⟩, .int .i64 aW), (⟨w.heap.size, 2, none⟩, .int .i64 aR), (⟨w.heap.size, 3, none⟩, .int .i64 aH), (⟨w.heap.size + 1, 0, none⟩, .int .i64 bU), (⟨w.heap.size + 1, 1, none⟩, .int .i64 bW), (⟨w.heap.size + 1, 2, none⟩, .int .i64 bR), (⟨w.heap.size + 1, 3, none⟩, .int .i64 bH), (⟨w.heap.size + 1 + 1, 0, none⟩, .int .i64 0), (⟨w.heap.size + 1 + 1, 1, none⟩, .int .i64 0), (⟨w.heap.size + 1 + 1, 2, none⟩, .int .i64 0), (⟨w.heap.size + 1 + 1, 3, none⟩, .int .i64 0)] w (((w.alloc (.cells #[.int .i64 aU, .int .i64 aW, .int .i64 aR, .int .i64 aH] 34)).alloc (.cells #[.int .i64 bU, .int .i64 bW, .int .i64 bR, .int .i64 bH] 34)).alloc (.cells #[.int .i64 0, .int .i64 0, .int .i64 0, .int .i64 0] 34)) :=
    ⟨by simp [List.forall_mem_cons, go_sem], by simp [List.forall_mem_cons, go_sem], by simp [List.forall_mem_cons] <;> omega, by simp, by (repeat (first | exact Below.refl _ _ | assumption | refine Below.drew ?_ | (refine Below.alloc ?_ (by simp <;> omega) _) | (refine Below.setCell ?_ (by simp <;> omega) _))), by omega⟩
  (
    go_enter Try.func59, Try.ntmps59
    first | go_upto_block 0 with fail | go_upto_block 1 with fail | go_upto_block 2 with fail
    go_cut [10, 11] (fun s t wx => s = .int .i64 u ∧ t = .int .i64 v ∧ Lf w.heap.size (w.heap.size + 1 + 1 + 1) [(⟨w.heap.size, 0, none⟩, .int .i64 aU), (⟨w.heap.size, 1, none⟩, .int .i64 aW), (⟨w.heap.size, 2, none⟩, .int .i64 aR), (⟨w.heap.size, 3, none⟩, .int .i64 aH), (⟨w.heap.size + 1, 0, none⟩, .int .i64 bU), (⟨w.heap.size + 1, 1, none⟩, .int .i64 bW), (⟨w.heap.size + 1, 2, none⟩, .int .i64 bR), (⟨w.heap.size + 1, 3, none⟩, .int .i64 bH), (⟨w.heap.size + 1 + 1, 0, none⟩, .int .i64 0), (⟨w.heap.size + 1 + 1, 1, none⟩, .int .i64 0), (⟨w.heap.size + 1 + 1, 2, none⟩, .int .i64 0), (⟨w.heap.size + 1 + 1, 3, none⟩, .int .i64 0)] w wx)
    case first =>
      cases full
      · by_cases hc1 : aU * bU + aW * bW ≤ 0
        · have HC1 := Lib.hid hc1
          clear hc1
          have kc := hT.cells
          have kf := hT.frz
          simp only [List.forall_mem_cons, List.not_mem_nil, false_implies, implies_true, and_true] at kc kf
          obtain ⟨c0, c1, c2, c3, c4, c5, c6, c7, c8, c9, c10, c11⟩ := kc
          obtain ⟨f0, f1, f2, f3, f4, f5, f6, f7, f8, f9, f10, f11⟩ := kf
          have hc1 := HC1.out
          go_wp2_with fail
          refine (DP _).out.mono ?_
          rintro e w1 ⟨rfl, hb1⟩
          have hT := hT.next hb1
          clear hb1
          have kc := hT.cells
          have kf := hT.frz
          simp only [List.forall_mem_cons, List.not_mem_nil, false_implies, implies_true, and_true] at kc kf
          obtain ⟨c0, c1, c2, c3, c4, c5, c6, c7, c8, c9, c10, c11⟩ := kc
          obtain ⟨f0, f1, f2, f3, f4, f5, f6, f7, f8, f9, f10, f11⟩ := kf
          have hc1 := HC1.out
          go_wp2_with fail
          refine (DP _).out.mono ?_
          rintro e w1 ⟨rfl, hb1⟩
          have hT := hT.next hb1
          clear hb1
          go_upto_region 4 with fail
          (refine wp_region_class (Lf w.heap.size (w.heap.size + 1 + 1 + 1) [(⟨w.heap.size, 0, none⟩, .int .i64 aU), (⟨w.heap.size, 1, none⟩, .int .i64 aW), (⟨w.heap.size, 2, none⟩, .int .i64 aR), (⟨w.heap.size, 3, none⟩, .int .i64 aH), (⟨w.heap.size + 1, 0, none⟩, .int .i64 bU), (⟨w.heap.size + 1, 1, none⟩, .int .i64 bW), (⟨w.heap.size + 1, 2, none⟩, .int .i64 bR), (⟨w.heap.size + 1, 3, none⟩, .int .i64 bH), (⟨w.heap.size + 1 + 1, 0, none⟩, .int .i64 0), (⟨w.heap.size + 1 + 1, 1, none⟩, .int .i64 0), (⟨w.heap.size + 1 + 1, 2, none⟩, .int .i64 0), (⟨w.heap.size + 1 + 1, 3, none⟩, .int .i64 0)] w) (hT.next (Below.refl _ _).drew) (by kernel_rfl) (by kernel_rfl) ?_; repeat (refine wpQuiet_step (fun qK9 qH9 => ?_); go_simp; first | (refine qH9 _ ?_; clear qH9 qK9) | (apply Exists.intro; refine ⟨?_, qH9 _ ?_⟩; (first | (intros; rfl) | ((intro wx hC; ((have qk9 := (hC).cells; simp only [List.forall_mem_cons, List.not_mem_nil, false_implies, implies_true, and_true] at qk9; repeat (obtain ⟨qk8, qk9⟩ := qk9)); go_simp; first | done | rfl)))); clear qH9 qK9)))
          refine wpQuiet_nil ?_
          clear hT
          intro wz hT
          go_wp2_with fail
          go_meet
          refine ⟨?_, ?_, hT⟩
          · rw [← HU.out]; simp [mdU, HC1.out, W3.out, W4.out, W13.out]
          · rw [← HV.out]; simp [mdW, HC1.out, W3.out, W4.out, W14.out]
        · have hn : 0 < aU * bU + aW * bW := by omega
          have HC1 := Lib.hid hc1
          by_cases hc2 : 0 ≤ aU * bW - aW * bU
          · have EU : Hid (u = -(aU + bU)) := by show u = _; rw [← HU.out]; unfold mdU; simp only [Bool.false_eq_true, if_false]; (repeat' split) <;> omega
            have EV : Hid (v = -(aW + bW)) := by show v = _; rw [← HV.out]; unfold mdW; simp only [Bool.false_eq_true, if_false]; (repeat' split) <;> omega
            have HC2 := Lib.hid hc2
            clear hc2 hc1
            have kc := hT.cells
            have kf := hT.frz
            simp only [List.forall_mem_cons, List.not_mem_nil, false_implies, implies_true, and_true] at kc kf
            obtain ⟨c0, c1, c2, c3, c4, c5, c6, c7, c8, c9, c10, c11⟩ := kc
            obtain ⟨f0, f1, f2, f3, f4, f5, f6, f7, f8, f9, f10, f11⟩ := kf
            have hc2 := HC2.out
            go_wp2_with fail
            refine (DP _).out.mono ?_
            rintro e w1 ⟨rfl, hb1⟩
            have hT := hT.next hb1
            clear hb1
            have kc := hT.cells
            have kf := hT.frz
            simp only [List.forall_mem_cons, List.not_mem_nil, false_implies, implies_true, and_true] at kc kf
            obtain ⟨c0, c1, c2, c3, c4, c5, c6, c7, c8, c9, c10, c11⟩ := kc
            obtain ⟨f0, f1, f2, f3, f4, f5, f6, f7, f8, f9, f10, f11⟩ := kf
            go_wp2_with fail
            refine (CP _).out.mono ?_
            rintro e w1 ⟨rfl, hb1⟩
            have hT := hT.next hb1
            clear hb1
            have kc := hT.cells
            have kf := hT.frz
            simp only [List.forall_mem_cons, List.not_mem_nil, false_implies, implies_true, and_true] at kc kf
            obtain ⟨c0, c1, c2, c3, c4, c5, c6, c7, c8, c9, c10, c11⟩ := kc
            obtain ⟨f0, f1, f2, f3, f4, f5, f6, f7, f8, f9, f10, f11⟩ := kf
            go_wp2_with fail
            refine (DP _).out.mono ?_
            rintro e w1 ⟨rfl, hb1⟩
            have hT := hT.next hb1
            clear hb1
            go_upto_region 10 with fail
            (refine wp_region_class (Lf w.heap.size (w.heap.size + 1 + 1 + 1) [(⟨w.heap.size, 0, none⟩, .int .i64 aU), (⟨w.heap.size, 1, none⟩, .int .i64 aW), (⟨w.heap.size, 2, none⟩, .int .i64 aR), (⟨w.heap.size, 3, none⟩, .int .i64 aH), (⟨w.heap.size + 1, 0, none⟩, .int .i64 bU), (⟨w.heap.size + 1, 1, none⟩, .int .i64 bW), (⟨w.heap.size + 1, 2, none⟩, .int .i64 bR), (⟨w.heap.size + 1, 3, none⟩, .int .i64 bH), (⟨w.heap.size + 1 + 1, 0, none⟩, .int .i64 0), (⟨w.heap.size + 1 + 1, 1, none⟩, .int .i64 0), (⟨w.heap.size + 1 + 1, 2, none⟩, .int .i64 0), (⟨w.heap.size + 1 + 1, 3, none⟩, .int .i64 0)] w) (hT.next (Below.refl _ _).drew) (by kernel_rfl) (by kernel_rfl) ?_; repeat (refine wpQuiet_step (fun qK9 qH9 => ?_); go_simp; first | (refine qH9 _ ?_; clear qH9 qK9) | (apply Exists.intro; refine ⟨?_, qH9 _ ?_⟩; (first | (intros; rfl) | ((intro wx hC; ((have qk9 := (hC).cells; simp only [List.forall_mem_cons, List.not_mem_nil, false_implies, implies_true, and_true] at qk9; repeat (obtain ⟨qk8, qk9⟩ := qk9)); go_simp; first | done | rfl)))); clear qH9 qK9)))
            refine wpQuiet_nil ?_
            clear hT
            intro wz hT
            go_wp2_with fail
            go_meet
            refine ⟨?_, ?_, hT⟩
            · rw [EU.out]; simp [W1.out, W11.out]
            · rw [EV.out]; simp [W2.out, W12.out]
          · have EU : Hid (u = aU + bU) := by show u = _; rw [← HU.out]; unfold mdU; simp only [Bool.false_eq_true, if_false]; (repeat' split) <;> omega
            have EV : Hid (v = aW + bW) := by show v = _; rw [← HV.out]; unfold mdW; simp only [Bool.false_eq_true, if_false]; (repeat' split) <;> omega
            have HC2 := Lib.hid hc2
            clear hc2 hc1
            have kc := hT.cells
            have kf := hT.frz
            simp only [List.forall_mem_cons, List.not_mem_nil, false_implies, implies_true, and_true] at kc kf
            obtain ⟨c0, c1, c2, c3, c4, c5, c6, c7, c8, c9, c10, c11⟩ := kc
            obtain ⟨f0, f1, f2, f3, f4, f5, f6, f7, f8, f9, f10, f11⟩ := kf
            have hc2 := HC2.out
            go_wp2_with fail
            refine (DP _).out.mono ?_
            rintro e w1 ⟨rfl, hb1⟩
            have hT := hT.next hb1
            clear hb1
            have kc := hT.cells
            have kf := hT.frz
            simp only [List.forall_mem_cons, List.not_mem_nil, false_implies, implies_true, and_true] at kc kf
            obtain ⟨c0, c1, c2, c3, c4, c5, c6, c7, c8, c9, c10, c11⟩ := kc
            obtain ⟨f0, f1, f2, f3, f4, f5, f6, f7, f8, f9, f10, f11⟩ := kf
            go_wp2_with fail
            refine (CP _).out.mono ?_
            rintro e w1 ⟨rfl, hb1⟩
            have hT := hT.next hb1
            clear hb1
            go_upto_region 8 with fail
            (refine wp_region_class (Lf w.heap.size (w.heap.size + 1 + 1 + 1) [(⟨w.heap.size, 0, none⟩, .int .i64 aU), (⟨w.heap.size, 1, none⟩, .int .i64 aW), (⟨w.heap.size, 2, none⟩, .int .i64 aR), (⟨w.heap.size, 3, none⟩, .int .i64 aH), (⟨w.heap.size + 1, 0, none⟩, .int .i64 bU), (⟨w.heap.size + 1, 1, none⟩, .int .i64 bW), (⟨w.heap.size + 1, 2, none⟩, .int .i64 bR), (⟨w.heap.size + 1, 3, none⟩, .int .i64 bH), (⟨w.heap.size + 1 + 1, 0, none⟩, .int .i64 0), (⟨w.heap.size + 1 + 1, 1, none⟩, .int .i64 0), (⟨w.heap.size + 1 + 1, 2, none⟩, .int .i64 0), (⟨w.heap.size + 1 + 1, 3, none⟩, .int .i64 0)] w) (hT.next (Below.refl _ _).drew) (by kernel_rfl) (by kernel_rfl) ?_; repeat (refine wpQuiet_step (fun qK9 qH9 => ?_); go_simp; first | (refine qH9 _ ?_; clear qH9 qK9) | (apply Exists.intro; refine ⟨?_, qH9 _ ?_⟩; (first | (intros; rfl) | ((intro wx hC; ((have qk9 := (hC).cells; simp only [List.forall_mem_cons, List.not_mem_nil, false_implies, implies_true, and_true] at qk9; repeat (obtain ⟨qk8, qk9⟩ := qk9)); go_simp; first | done | rfl)))); clear qH9 qK9)))
            refine wpQuiet_nil ?_
            clear hT
            intro wz hT
            go_wp2_with fail
            go_meet
            refine ⟨?_, ?_, hT⟩
            · rw [EU.out]; simp [W1.out]
            · rw [EV.out]; simp [W2.out]
      · go_upto_region 6 with fail
        (refine wp_region_class (Lf w.heap.size (w.heap.size + 1 + 1 + 1) [(⟨w.heap.size, 0, none⟩, .int .i64 aU), (⟨w.heap.size, 1, none⟩, .int .i64 aW), (⟨w.heap.size, 2, none⟩, .int .i64 aR), (⟨w.heap.size, 3, none⟩, .int .i64 aH), (⟨w.heap.size + 1, 0, none⟩, .int .i64 bU), (⟨w.heap.size + 1, 1, none⟩, .int .i64 bW), (⟨w.heap.size + 1, 2, none⟩, .int .i64 bR), (⟨w.heap.size + 1, 3, none⟩, .int .i64 bH), (⟨w.heap.size + 1 + 1, 0, none⟩, .int .i64 0), (⟨w.heap.size + 1 + 1, 1, none⟩, .int .i64 0), (⟨w.heap.size + 1 + 1, 2, none⟩, .int .i64 0), (⟨w.heap.size + 1 + 1, 3, none⟩, .int .i64 0)] w) (hT.next (Below.refl _ _).drew) (by kernel_rfl) (by kernel_rfl) ?_; repeat (refine wpQuiet_step (fun qK9 qH9 => ?_); go_simp; first | (refine qH9 _ ?_; clear qH9 qK9) | (apply Exists.intro; refine ⟨?_, qH9 _ ?_⟩; (first | (intros; rfl) | ((intro wx hC; ((have qk9 := (hC).cells; simp only [List.forall_mem_cons, List.not_mem_nil, false_implies, implies_true, and_true] at qk9; repeat (obtain ⟨qk8, qk9⟩ := qk9)); go_simp; first | done | rfl)))); clear qH9 qK9)))
        refine wpQuiet_nil ?_
        clear hT
        intro wz hT
        go_wp2_with fail
        go_meet
        refine ⟨?_, ?_, hT⟩
        · rw [← HU.out]; simp [mdU, W7.out]
        · rw [← HV.out]; simp [mdW, W8.out]
      
    case rest =>
      obtain ⟨rfl, rfl, hT⟩ := hcut
      clear HU HV DP CP W1 W2 W3 W4 W5 W6 W7 W8 W9 W10 W11 W12 W13 W14 m3a m3b
      have kc := hT.cells
      have kf := hT.frz
      simp only [List.forall_mem_cons, List.not_mem_nil, false_implies, implies_true, and_true] at kc kf
      obtain ⟨c0, c1, c2, c3, c4, c5, c6, c7, c8, c9, c10, c11⟩ := kc
      obtain ⟨f0, f1, f2, f3, f4, f5, f6, f7, f8, f9, f10, f11⟩ := kf
      by_cases hu : u = 0
      · by_cases hv : v = 0
        · subst hu hv
          clear NR
          go_wp2_with fail
          refine bodyPost_ret (v := .tuple #[.agg #[.int .i64 0, .int .i64 0, .int .i64 0, .int .i64 0], .bool false]) (by simp [results, Try.results59, go_sem, *]) rfl ⟨by simp, ?_⟩
          exact (((hT.be.setCell (by simp; omega) _).setCell (by simp; omega) _).setCell (by simp; omega) _).setCell (by simp; omega) _
        · subst hu
          have hv1 : decide (v = 0) = false := decide_eq_false hv
          have hp := sq_pos hv
          have HI : Hid (¬ ((0 : Int) = 0 ∧ v = 0)) := fun h => hv h.2
          have NU := fun w => Lib.hid ((NR 0 (v * v) w (by omega) (by omega) (by omega) (by omega) (by omega)).out.mono fun e w' h => (⟨h.1, h.2.symm⟩ : _ ∧ w' = w))
          have NV := fun w => Lib.hid ((NR v (v * v) w (by omega) (by omega) (by omega) (by omega) (by omega)).out.mono fun e w' h => (⟨h.1, h.2.symm⟩ : _ ∧ w' = w))
          have HS := fun w => Lib.hid ((HH w).out.mono fun e w' h => (⟨h.1, h.2.symm⟩ : _ ∧ w' = w))
          clear NR
          obtain ⟨X, hX⟩ : ∃ X, (nrI 0 ((aR + bR + 1) / 2) (v * v)) = X := ⟨_, rfl⟩
          obtain ⟨Y, hY⟩ : ∃ Y, (nrI v ((aR + bR + 1) / 2) (v * v)) = Y := ⟨_, rfl⟩
          simp only [hX] at NU
          simp only [hY] at NV
          have HX := Lib.hid hX
          have HY := Lib.hid hY
          clear hX hY
          go_wp2_with fail
          refine (HR _).out.mono ?_
          rintro e w' ⟨rfl, rfl⟩
          go_upto_region 15 with fail
          refine wp_region_still_tail 15 (by kernel_rfl) (by kernel_rfl) ?_
          simp only [List.take_succ_cons, List.take_zero, List.drop_succ_cons, List.drop_zero]
          change wpStill _ _ (World.drew _) _ _ _
          iterate 3 still_step
          still_call ((NU _).out)
          iterate 3 still_step
          still_call ((NV _).out)
          iterate 5 still_step
          still_call ((HS _).out)
          still_step
          refine wpStill_nil ?_
          change wpList _ _ _ _ _ (World.drew _)
          go_wp2_with fail
          have g0 : Lf w.heap.size (w.heap.size + 1 + 1 + 1) [(⟨w.heap.size, 0, none⟩, .int .i64 aU), (⟨w.heap.size, 1, none⟩, .int .i64 aW), (⟨w.heap.size, 2, none⟩, .int .i64 aR), (⟨w.heap.size, 3, none⟩, .int .i64 aH), (⟨w.heap.size + 1, 0, none⟩, .int .i64 bU), (⟨w.heap.size + 1, 1, none⟩, .int .i64 bW), (⟨w.heap.size + 1, 2, none⟩, .int .i64 bR), (⟨w.heap.size + 1, 3, none⟩, .int .i64 bH), (⟨w.heap.size + 1 + 1, 0, none⟩, .int .i64 X), (⟨w.heap.size + 1 + 1, 1, none⟩, .int .i64 0), (⟨w.heap.size + 1 + 1, 2, none⟩, .int .i64 0), (⟨w.heap.size + 1 + 1, 3, none⟩, .int .i64 0)] w _ := hT.set 8 (w.heap.size + 1 + 1) 0 _ (.int .i64 X) rfl (by simp [List.forall_mem_cons]; omega) (by omega)
          have g1 : Lf w.heap.size (w.heap.size + 1 + 1 + 1) [(⟨w.heap.size, 0, none⟩, .int .i64 aU), (⟨w.heap.size, 1, none⟩, .int .i64 aW), (⟨w.heap.size, 2, none⟩, .int .i64 aR), (⟨w.heap.size, 3, none⟩, .int .i64 aH), (⟨w.heap.size + 1, 0, none⟩, .int .i64 bU), (⟨w.heap.size + 1, 1, none⟩, .int .i64 bW), (⟨w.heap.size + 1, 2, none⟩, .int .i64 bR), (⟨w.heap.size + 1, 3, none⟩, .int .i64 bH), (⟨w.heap.size + 1 + 1, 0, none⟩, .int .i64 X), (⟨w.heap.size + 1 + 1, 1, none⟩, .int .i64 Y), (⟨w.heap.size + 1 + 1, 2, none⟩, .int .i64 0), (⟨w.heap.size + 1 + 1, 3, none⟩, .int .i64 0)] w _ := g0.set 9 (w.heap.size + 1 + 1) 1 _ (.int .i64 Y) rfl (by simp [List.forall_mem_cons]; omega) (by omega)
          have g2 : Lf w.heap.size (w.heap.size + 1 + 1 + 1) [(⟨w.heap.size, 0, none⟩, .int .i64 aU), (⟨w.heap.size, 1, none⟩, .int .i64 aW), (⟨w.heap.size, 2, none⟩, .int .i64 aR), (⟨w.heap.size, 3, none⟩, .int .i64 aH), (⟨w.heap.size + 1, 0, none⟩, .int .i64 bU), (⟨w.heap.size + 1, 1, none⟩, .int .i64 bW), (⟨w.heap.size + 1, 2, none⟩, .int .i64 bR), (⟨w.heap.size + 1, 3, none⟩, .int .i64 bH), (⟨w.heap.size + 1 + 1, 0, none⟩, .int .i64 X), (⟨w.heap.size + 1 + 1, 1, none⟩, .int .i64 Y), (⟨w.heap.size + 1 + 1, 2, none⟩, .int .i64 ((aR + bR + 1) / 2)), (⟨w.heap.size + 1 + 1, 3, none⟩, .int .i64 0)] w _ := g1.set 10 (w.heap.size + 1 + 1) 2 _ (.int .i64 ((aR + bR + 1) / 2)) rfl (by simp [List.forall_mem_cons]; omega) (by omega)
          have g3 : Lf w.heap.size (w.heap.size + 1 + 1 + 1) [(⟨w.heap.size, 0, none⟩, .int .i64 aU), (⟨w.heap.size, 1, none⟩, .int .i64 aW), (⟨w.heap.size, 2, none⟩, .int .i64 aR), (⟨w.heap.size, 3, none⟩, .int .i64 aH), (⟨w.heap.size + 1, 0, none⟩, .int .i64 bU), (⟨w.heap.size + 1, 1, none⟩, .int .i64 bW), (⟨w.heap.size + 1, 2, none⟩, .int .i64 bR), (⟨w.heap.size + 1, 3, none⟩, .int .i64 bH), (⟨w.heap.size + 1 + 1, 0, none⟩, .int .i64 X), (⟨w.heap.size + 1 + 1, 1, none⟩, .int .i64 Y), (⟨w.heap.size + 1 + 1, 2, none⟩, .int .i64 ((aR + bR + 1) / 2)), (⟨w.heap.size + 1 + 1, 3, none⟩, .int .i64 ((aH + bH + 1) / 2))] w _ := g2.set 11 (w.heap.size + 1 + 1) 3 _ (.int .i64 ((aH + bH + 1) / 2)) rfl (by simp [List.forall_mem_cons]; omega) (by omega)
          have kc := g3.cells
          simp only [List.forall_mem_cons, List.not_mem_nil, false_implies, implies_true, and_true] at kc
          obtain ⟨z0, z1, z2, z3, z4, z5, z6, z7, z8, z9, z10, z11⟩ := kc
          refine bodyPost_ret (v := .tuple #[.agg #[.int .i64 X, .int .i64 Y, .int .i64 ((aR + bR + 1) / 2), .int .i64 ((aH + bH + 1) / 2)], .bool true]) (by simp [results, Try.results59, go_sem, z8, z9, z10, z11]) rfl ⟨?_, g3.be.drew⟩
          first | (simp [HX.out, HY.out]; done) | (rw [if_neg HI.out]; simp [HX.out, HY.out])
      · have hu0 : (u == 0) = false := by simp; exact hu
        have hp := sq_pos hu
        have hi : ¬ (u = 0 ∧ v = 0) := fun h => hu h.1
        have HI := Lib.hid hi
        clear hu hi
        have NU := fun w => Lib.hid ((NR u (u * u + v * v) w (by omega) (by omega) (by omega) (by omega) (by omega)).out.mono fun e w' h => (⟨h.1, h.2.symm⟩ : _ ∧ w' = w))
        have NV := fun w => Lib.hid ((NR v (u * u + v * v) w (by omega) (by omega) (by omega) (by omega) (by omega)).out.mono fun e w' h => (⟨h.1, h.2.symm⟩ : _ ∧ w' = w))
        have HS := fun w => Lib.hid ((HH w).out.mono fun e w' h => (⟨h.1, h.2.symm⟩ : _ ∧ w' = w))
        clear NR
        obtain ⟨X, hX⟩ : ∃ X, (nrI u ((aR + bR + 1) / 2) (u * u + v * v)) = X := ⟨_, rfl⟩
        obtain ⟨Y, hY⟩ : ∃ Y, (nrI v ((aR + bR + 1) / 2) (u * u + v * v)) = Y := ⟨_, rfl⟩
        simp only [hX] at NU
        simp only [hY] at NV
        have HX := Lib.hid hX
        have HY := Lib.hid hY
        clear hX hY
        go_wp2_with fail
        refine (HR _).out.mono ?_
        rintro e w' ⟨rfl, rfl⟩
        go_upto_region 15 with fail
        refine wp_region_still_tail 15 (by kernel_rfl) (by kernel_rfl) ?_
        simp only [List.take_succ_cons, List.take_zero, List.drop_succ_cons, List.drop_zero]
        change wpStill _ _ (World.drew _) _ _ _
        iterate 3 still_step
        still_call ((NU _).out)
        iterate 3 still_step
        still_call ((NV _).out)
        iterate 5 still_step
        still_call ((HS _).out)
        still_step
        refine wpStill_nil ?_
        change wpList _ _ _ _ _ (World.drew _)
        go_wp2_with fail
        have g0 : Lf w.heap.size (w.heap.size + 1 + 1 + 1) [(⟨w.heap.size, 0, none⟩, .int .i64 aU), (⟨w.heap.size, 1, none⟩, .int .i64 aW), (⟨w.heap.size, 2, none⟩, .int .i64 aR), (⟨w.heap.size, 3, none⟩, .int .i64 aH), (⟨w.heap.size + 1, 0, none⟩, .int .i64 bU), (⟨w.heap.size + 1, 1, none⟩, .int .i64 bW), (⟨w.heap.size + 1, 2, none⟩, .int .i64 bR), (⟨w.heap.size + 1, 3, none⟩, .int .i64 bH), (⟨w.heap.size + 1 + 1, 0, none⟩, .int .i64 X), (⟨w.heap.size + 1 + 1, 1, none⟩, .int .i64 0), (⟨w.heap.size + 1 + 1, 2, none⟩, .int .i64 0), (⟨w.heap.size + 1 + 1, 3, none⟩, .int .i64 0)] w _ := hT.set 8 (w.heap.size + 1 + 1) 0 _ (.int .i64 X) rfl (by simp [List.forall_mem_cons]; omega) (by omega)
        have g1 : Lf w.heap.size (w.heap.size + 1 + 1 + 1) [(⟨w.heap.size, 0, none⟩, .int .i64 aU), (⟨w.heap.size, 1, none⟩, .int .i64 aW), (⟨w.heap.size, 2, none⟩, .int .i64 aR), (⟨w.heap.size, 3, none⟩, .int .i64 aH), (⟨w.heap.size + 1, 0, none⟩, .int .i64 bU), (⟨w.heap.size + 1, 1, none⟩, .int .i64 bW), (⟨w.heap.size + 1, 2, none⟩, .int .i64 bR), (⟨w.heap.size + 1, 3, none⟩, .int .i64 bH), (⟨w.heap.size + 1 + 1, 0, none⟩, .int .i64 X), (⟨w.heap.size + 1 + 1, 1, none⟩, .int .i64 Y), (⟨w.heap.size + 1 + 1, 2, none⟩, .int .i64 0), (⟨w.heap.size + 1 + 1, 3, none⟩, .int .i64 0)] w _ := g0.set 9 (w.heap.size + 1 + 1) 1 _ (.int .i64 Y) rfl (by simp [List.forall_mem_cons]; omega) (by omega)
        have g2 : Lf w.heap.size (w.heap.size + 1 + 1 + 1) [(⟨w.heap.size, 0, none⟩, .int .i64 aU), (⟨w.heap.size, 1, none⟩, .int .i64 aW), (⟨w.heap.size, 2, none⟩, .int .i64 aR), (⟨w.heap.size, 3, none⟩, .int .i64 aH), (⟨w.heap.size + 1, 0, none⟩, .int .i64 bU), (⟨w.heap.size + 1, 1, none⟩, .int .i64 bW), (⟨w.heap.size + 1, 2, none⟩, .int .i64 bR), (⟨w.heap.size + 1, 3, none⟩, .int .i64 bH), (⟨w.heap.size + 1 + 1, 0, none⟩, .int .i64 X), (⟨w.heap.size + 1 + 1, 1, none⟩, .int .i64 Y), (⟨w.heap.size + 1 + 1, 2, none⟩, .int .i64 ((aR + bR + 1) / 2)), (⟨w.heap.size + 1 + 1, 3, none⟩, .int .i64 0)] w _ := g1.set 10 (w.heap.size + 1 + 1) 2 _ (.int .i64 ((aR + bR + 1) / 2)) rfl (by simp [List.forall_mem_cons]; omega) (by omega)
        have g3 : Lf w.heap.size (w.heap.size + 1 + 1 + 1) [(⟨w.heap.size, 0, none⟩, .int .i64 aU), (⟨w.heap.size, 1, none⟩, .int .i64 aW), (⟨w.heap.size, 2, none⟩, .int .i64 aR), (⟨w.heap.size, 3, none⟩, .int .i64 aH), (⟨w.heap.size + 1, 0, none⟩, .int .i64 bU), (⟨w.heap.size + 1, 1, none⟩, .int .i64 bW), (⟨w.heap.size + 1, 2, none⟩, .int .i64 bR), (⟨w.heap.size + 1, 3, none⟩, .int .i64 bH), (⟨w.heap.size + 1 + 1, 0, none⟩, .int .i64 X), (⟨w.heap.size + 1 + 1, 1, none⟩, .int .i64 Y), (⟨w.heap.size + 1 + 1, 2, none⟩, .int .i64 ((aR + bR + 1) / 2)), (⟨w.heap.size + 1 + 1, 3, none⟩, .int .i64 ((aH + bH + 1) / 2))] w _ := g2.set 11 (w.heap.size + 1 + 1) 3 _ (.int .i64 ((aH + bH + 1) / 2)) rfl (by simp [List.forall_mem_cons]; omega) (by omega)
        have kc := g3.cells
        simp only [List.forall_mem_cons, List.not_mem_nil, false_implies, implies_true, and_true] at kc
        obtain ⟨z0, z1, z2, z3, z4, z5, z6, z7, z8, z9, z10, z11⟩ := kc
        refine bodyPost_ret (v := .tuple #[.agg #[.int .i64 X, .int .i64 Y, .int .i64 ((aR + bR + 1) / 2), .int .i64 ((aH + bH + 1) / 2)], .bool true]) (by simp [results, Try.results59, go_sem, z8, z9, z10, z11]) rfl ⟨?_, g3.be.drew⟩
        first | (simp [HX.out, HY.out]; done) | (rw [if_neg HI.out]; simp [HX.out, HY.out])
  )
end Go.Proofs.Ytkjjoclbjkpdaaa
