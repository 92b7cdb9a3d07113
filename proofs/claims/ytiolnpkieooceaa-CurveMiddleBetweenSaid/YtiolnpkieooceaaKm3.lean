/- Proved here: Middle of the program and of the reference give the same at any two spokes; which spokes are small; the laws CurveMiddle and CurveMiddleCircle; no conditions but that integers are ints. -/
import Derived.Test.YtiolnpkieooceaaKm2
import Derived.Test.YtiolnpkieooceaaKb2
namespace Go.Proofs.Ytiolnpkieooceaa
open Go.RowKit
set_option linter.unusedVariables false
set_option linter.unusedSimpArgs false
/-- what is known of a middle -/
structure Mid (aU aW aR aH bU bW bR bH dir : Int) (full : Bool) (m0 m1 m2 m3 : Int) (ok : Bool) : Prop where
  no : ok = false → m0 = 0 ∧ m1 = 0 ∧ m2 = 0 ∧ m3 = 0
  yes : ok = true → m2 = (aR + bR + 1) / 2 ∧ m3 = (aH + bH + 1) / 2 ∧ m0 = nrI (mdU aU aW bU bW dir full) ((aR + bR + 1) / 2) (mdU aU aW bU bW dir full * mdU aU aW bU bW dir full + mdW aU aW bU bW dir full * mdW aU aW bU bW dir full) ∧ m1 = nrI (mdW aU aW bU bW dir full) ((aR + bR + 1) / 2) (mdU aU aW bU bW dir full * mdU aU aW bU bW dir full + mdW aU aW bU bW dir full * mdW aU aW bU bW dir full)
  is : ok = true ↔ (dir = 1 ∨ dir = -1) ∧ ¬ (mdU aU aW bU bW dir full = 0 ∧ mdW aU aW bU bW dir full = 0)
theorem wp_cls {P : Program} {c : Code} {Q : Exit → Act → World → Prop} {a : Act} {W : World} (C : World → Prop) (h : C W) (k : ∀ wx, C wx → c.wp P Q a wx) : c.wp P Q a W := k W h
theorem Lf.cut {B n m : Nat} {cs ds : List (Addr × Value)} {w0 w : World} (h : Lf B n cs w0 w) (hs : ∀ p ∈ ds, p ∈ cs) (hi : ∀ p ∈ ds, p.1.block < m) (h1 : B ≤ m) (h2 : m ≤ n) : Lf B m ds w0 w :=
  ⟨fun p hp => h.cells p (hs p hp), fun p hp => h.frz p (hs p hp), hi, Nat.le_trans h2 h.lt, h.be, h1⟩
theorem mdU_bd {aU aW aR aH bU bW bR bH dir : Int} {full : Bool} (sa : Sp aU aW aR aH) (sb : Sp bU bW bR bH) (hd : dir = 1 ∨ dir = -1) : -67108864 ≤ mdU aU aW bU bW dir full ∧ mdU aU aW bU bW dir full ≤ 67108864 := by
  obtain ⟨a1, a2, a3, a4, a5, a6, a7, a8⟩ := sa
  obtain ⟨b1, b2, b3, b4, b5, b6, b7, b8⟩ := sb
  have m4 := dir_mul hd (x := bW - aW) (by omega) (by omega)
  unfold mdU; (repeat' split) <;> omega
theorem mdW_bd {aU aW aR aH bU bW bR bH dir : Int} {full : Bool} (sa : Sp aU aW aR aH) (sb : Sp bU bW bR bH) (hd : dir = 1 ∨ dir = -1) : -67108864 ≤ mdW aU aW bU bW dir full ∧ mdW aU aW bU bW dir full ≤ 67108864 := by
  obtain ⟨a1, a2, a3, a4, a5, a6, a7, a8⟩ := sa
  obtain ⟨b1, b2, b3, b4, b5, b6, b7, b8⟩ := sb
  have m5 := dir_mul hd (x := aU - bU) (by omega) (by omega)
  unfold mdW; (repeat' split) <;> omega
theorem sum_pos {u v : Int} (h : ¬ (u = 0 ∧ v = 0)) (q1 : 0 ≤ u * u) (q2 : 0 ≤ v * v) : 1 ≤ u * u + v * v := by
  by_cases hu : u = 0
  · have := sq_pos (x := v) (fun e => h ⟨hu, e⟩); omega
  · have := sq_pos hu; omega
theorem mid_any (aU aW aR aH bU bW bR bH dir : Int) (full : Bool) (sa : Sp aU aW aR aH) (sb : Sp bU bW bR bH) :
    ∃ (m0 m1 m2 m3 : Int) (ok : Bool), Mid aU aW aR aH bU bW bR bH dir full m0 m1 m2 m3 ok ∧ (∀ w, Hid (Calls Try.prog 16 #[.agg #[.int .i64 aU, .int .i64 aW, .int .i64 aR, .int .i64 aH], .agg #[.int .i64 bU, .int .i64 bW, .int .i64 bR, .int .i64 bH], .int .i64 dir, .bool full] w fun e w' => e = .returned (.tuple #[.agg #[.int .i64 m0, .int .i64 m1, .int .i64 m2, .int .i64 m3], .bool ok]) ∧ Below w.heap.size w w')) ∧ (∀ w, Hid (Calls Try.prog 17 #[.agg #[.int .i64 aU, .int .i64 aW, .int .i64 aR, .int .i64 aH], .agg #[.int .i64 bU, .int .i64 bW, .int .i64 bR, .int .i64 bH], .int .i64 dir, .bool full] w fun e w' => e = .returned (.tuple #[.agg #[.int .i64 m0, .int .i64 m1, .int .i64 m2, .int .i64 m3], .bool ok]) ∧ Below w.heap.size w w')) := by
  by_cases hd : dir = 1 ∨ dir = -1
  · have hP : ∀ (u v : Int) (w : World), Hid (mdU aU aW bU bW dir full = u) → Hid (mdW aU aW bU bW dir full = v) → Calls Try.prog 16 #[.agg #[.int .i64 aU, .int .i64 aW, .int .i64 aR, .int .i64 aH], .agg #[.int .i64 bU, .int .i64 bW, .int .i64 bR, .int .i64 bH], .int .i64 dir, .bool full] w fun e w' => e = .returned (if u = 0 ∧ v = 0 then .tuple #[.agg #[.int .i64 0, .int .i64 0, .int .i64 0, .int .i64 0], .bool false] else .tuple #[.agg #[.int .i64 (ovV u ((aR + bR + 1) / 2) (u * u + v * v) 2), .int .i64 (ovV v ((aR + bR + 1) / 2) (u * u + v * v) 2), .int .i64 ((aR + bR + 1) / 2), .int .i64 ((aH + bH + 1) / 2)], .bool true]) ∧ Below w.heap.size w w' := by
      intro u v w hU hV
      rcases hd with rfl | rfl
      · exact middleP_p aU aW aR aH bU bW bR bH full u v w sa sb hU hV
      · exact middleP_m aU aW aR aH bU bW bR bH full u v w sa sb hU hV
    have hR : ∀ (u v : Int) (w : World), Hid (mdU aU aW bU bW dir full = u) → Hid (mdW aU aW bU bW dir full = v) → Calls Try.prog 17 #[.agg #[.int .i64 aU, .int .i64 aW, .int .i64 aR, .int .i64 aH], .agg #[.int .i64 bU, .int .i64 bW, .int .i64 bR, .int .i64 bH], .int .i64 dir, .bool full] w fun e w' => e = .returned (if u = 0 ∧ v = 0 then .tuple #[.agg #[.int .i64 0, .int .i64 0, .int .i64 0, .int .i64 0], .bool false] else .tuple #[.agg #[.int .i64 (nrI u ((aR + bR + 1) / 2) (u * u + v * v)), .int .i64 (nrI v ((aR + bR + 1) / 2) (u * u + v * v)), .int .i64 ((aR + bR + 1) / 2), .int .i64 ((aH + bH + 1) / 2)], .bool true]) ∧ Below w.heap.size w w' := by
      intro u v w hU hV
      rcases hd with rfl | rfl
      · exact middleR_p aU aW aR aH bU bW bR bH full u v w sa sb hU hV
      · exact middleR_m aU aW aR aH bU bW bR bH full u v w sa sb hU hV
    have bu := mdU_bd (full := full) sa sb hd
    have bv := mdW_bd (full := full) sa sb hd
    have hP := fun w => hP _ _ w rfl rfl
    have hR := fun w => hR _ _ w rfl rfl
    have ha := sa.r1; have ha2 := sa.r2; have hb := sb.r1; have hb2 := sb.r2
    have is : ∀ ok : Bool, (ok = true ↔ ¬ (mdU aU aW bU bW dir full = 0 ∧ mdW aU aW bU bW dir full = 0)) → (ok = true ↔ (dir = 1 ∨ dir = -1) ∧ ¬ (mdU aU aW bU bW dir full = 0 ∧ mdW aU aW bU bW dir full = 0)) := fun ok h => ⟨fun g => ⟨hd, h.1 g⟩, fun g => h.2 g.2⟩
    by_cases hz : mdU aU aW bU bW dir full = 0 ∧ mdW aU aW bU bW dir full = 0
    · refine ⟨0, 0, 0, 0, false, ⟨fun _ => ⟨rfl, rfl, rfl, rfl⟩, fun h => (nomatch h), is _ ⟨fun h => (nomatch h), fun h => absurd hz h⟩⟩, fun w => ?_, fun w => ?_⟩
      · have h := hP w; rw [if_pos hz] at h; exact h
      · have h := hR w; rw [if_pos hz] at h; exact h
    · have qu := sq_bdK bu.1 bu.2
      have qv := sq_bdK bv.1 bv.2
      have np := sum_pos hz qu.1 qv.1
      have hU := near_ov (mdU aU aW bU bW dir full) ((aR + bR + 1) / 2) (mdU aU aW bU bW dir full * mdU aU aW bU bW dir full + mdW aU aW bU bW dir full * mdW aU aW bU bW dir full) bu.1 bu.2 (by omega) (by omega) np (by omega) (by have := natAbs_sq' (mdU aU aW bU bW dir full); omega)
      have hV := near_ov (mdW aU aW bU bW dir full) ((aR + bR + 1) / 2) (mdU aU aW bU bW dir full * mdU aU aW bU bW dir full + mdW aU aW bU bW dir full * mdW aU aW bU bW dir full) bv.1 bv.2 (by omega) (by omega) np (by omega) (by have := natAbs_sq' (mdW aU aW bU bW dir full); omega)
      refine ⟨_, _, _, _, true, ⟨fun h => (nomatch h), fun _ => ⟨rfl, rfl, rfl, rfl⟩, is _ ⟨fun _ => hz, fun _ => rfl⟩⟩, fun w => ?_, fun w => ?_⟩
      · have h := hP w; rw [if_neg hz, hU.1, hV.1] at h; exact h
      · have h := hR w; rw [if_neg hz] at h; exact h
  · refine ⟨0, 0, 0, 0, false, ⟨fun _ => ⟨rfl, rfl, rfl, rfl⟩, fun h => (nomatch h), ⟨fun h => (nomatch h), fun h => absurd h.1 hd⟩⟩, fun w => ?_, fun w => ?_⟩
    · exact middleP_dir aU aW aR aH bU bW bR bH dir full w (fun e => hd (Or.inl e)) (fun e => hd (Or.inr e))
    · exact middleR_dir aU aW aR aH bU bW bR bH dir full w (fun e => hd (Or.inl e)) (fun e => hd (Or.inr e))
/-- which spokes are small -/
def spB (u w r h : Int) : Bool := smB 33554432 u w h && (decide (1 ≤ r) && decide (r ≤ 67108864))
theorem spB_t {u w r h : Int} (g : spB u w r h = true) : Sp u w r h := by
  unfold spB at g
  rw [Bool.and_eq_true, Bool.and_eq_true, decide_eq_true_eq, decide_eq_true_eq] at g
  obtain ⟨⟨h1, h2⟩, ⟨h3, h4⟩, h5, h6⟩ := smB_iff.1 g.1
  exact ⟨h1, h2, h3, h4, g.2.1, g.2.2, h5, h6⟩
set_option maxHeartbeats 1000000 in
theorem spoke_any (u v r h : Int) (w : World) : Calls Try.prog 15 #[.agg #[.int .i64 u, .int .i64 v, .int .i64 r, .int .i64 h]] w fun e w' => e = .returned (.bool (spB u v r h)) ∧ Below w.heap.size w w' := by
  have S := fun w => Lib.hid (small_any u v h 33554432 w (by omega) (by omega))
  have HB : Hid (spB u v r h = (smB 33554432 u v h && (decide (1 ≤ r) && decide (r ≤ 67108864)))) := rfl
  generalize smB 33554432 u v h = s at *
  have hT : Lf w.heap.size (w.heap.size + 1) [(⟨w.heap.size, 0, none⟩, .int .i64 u), (⟨w.heap.size, 1, none⟩, .int .i64 v), (⟨w.heap.size, 2, none⟩, .int .i64 r), (⟨w.heap.size, 3, none⟩, .int .i64 h)] w (w.alloc (.cells #[.int .i64 u, .int .i64 v, .int .i64 r, .int .i64 h] 30)) :=
    ⟨by simp [List.forall_mem_cons, go_sem], by simp [List.forall_mem_cons, go_sem], by simp [List.forall_mem_cons] <;> omega, by simp, by (repeat (first | exact Below.refl _ _ | assumption | refine Below.drew ?_ | (refine Below.alloc ?_ (by simp <;> omega) _) | (refine Below.setCell ?_ (by simp <;> omega) _))), by omega⟩
  generalize spB u v r h = q at *
  by_cases h1 : 1 ≤ r
  · by_cases h2 : r ≤ 67108864
    · have HQ : Hid (q = s) := by show q = s; rw [HB.out, decide_eq_true h1, decide_eq_true h2]; simp
      clear HB
      cases s
      all_goals
        go_enter Try.func15, Try.ntmps15
        go_wp2_with fail
        refine (S _).out.mono ?_
        rintro e w1 ⟨rfl, hb1⟩
        have hT := hT.next hb1
        (have qk9 := (hT).cells; simp only [List.forall_mem_cons, List.not_mem_nil, false_implies, implies_true, and_true] at qk9; repeat (obtain ⟨qk8, qk9⟩ := qk9))
        go_wp2_with fail
        go_ret
        exact ⟨by rw [HQ.out]; rfl, hT.be⟩
    · have h2' : decide (r ≤ 67108864) = false := decide_eq_false h2
      have HQ : Hid (q = false) := by show q = false; rw [HB.out, h2']; simp
      clear HB
      cases s
      all_goals
        go_enter Try.func15, Try.ntmps15
        go_wp2_with fail
        refine (S _).out.mono ?_
        rintro e w1 ⟨rfl, hb1⟩
        have hT := hT.next hb1
        (have qk9 := (hT).cells; simp only [List.forall_mem_cons, List.not_mem_nil, false_implies, implies_true, and_true] at qk9; repeat (obtain ⟨qk8, qk9⟩ := qk9))
        go_wp2_with fail
        go_ret
        exact ⟨by rw [HQ.out]; rfl, hT.be⟩
  · have h1' : decide (1 ≤ r) = false := decide_eq_false h1
    have HQ : Hid (q = false) := by show q = false; rw [HB.out, h1']; simp
    clear HB
    cases s
    all_goals
      go_enter Try.func15, Try.ntmps15
      go_wp2_with fail
      refine (S _).out.mono ?_
      rintro e w1 ⟨rfl, hb1⟩
      have hT := hT.next hb1
      (have qk9 := (hT).cells; simp only [List.forall_mem_cons, List.not_mem_nil, false_implies, implies_true, and_true] at qk9; repeat (obtain ⟨qk8, qk9⟩ := qk9))
      go_wp2_with fail
      go_ret
      exact ⟨by rw [HQ.out]; rfl, hT.be⟩
set_option maxHeartbeats 8000000 in
set_option maxRecDepth 20000 in
theorem law_middle (aU aW aR aH bU bW bR bH dir : Int) (full : Bool) (w : World) (laU : -9223372036854775808 ≤ aU) (uaU : aU ≤ 9223372036854775807) (laW : -9223372036854775808 ≤ aW) (uaW : aW ≤ 9223372036854775807) (laR : -9223372036854775808 ≤ aR) (uaR : aR ≤ 9223372036854775807) (laH : -9223372036854775808 ≤ aH) (uaH : aH ≤ 9223372036854775807) (lbU : -9223372036854775808 ≤ bU) (ubU : bU ≤ 9223372036854775807) (lbW : -9223372036854775808 ≤ bW) (ubW : bW ≤ 9223372036854775807) (lbR : -9223372036854775808 ≤ bR) (ubR : bR ≤ 9223372036854775807) (lbH : -9223372036854775808 ≤ bH) (ubH : bH ≤ 9223372036854775807) (ldir : -9223372036854775808 ≤ dir) (udir : dir ≤ 9223372036854775807) :
    Calls Try.prog 5 #[.agg #[.int .i64 aU, .int .i64 aW, .int .i64 aR, .int .i64 aH], .agg #[.int .i64 bU, .int .i64 bW, .int .i64 bR, .int .i64 bH], .int .i64 dir, .bool full] w fun e w' => e = .returned (.bool true) ∧ Below w.heap.size w w' := by
  have S0 := fun w => Lib.hid (spoke_any aU aW aR aH w)
  have S1 := fun w => Lib.hid (spoke_any bU bW bR bH w)
  clear laU uaU laW uaW laR uaR laH uaH lbU ubU lbW ubW lbR ubR lbH ubH ldir udir
  cases hA : spB aU aW aR aH
  · rw [hA] at S0
    clear hA
    go_enter Try.func5, Try.ntmps5
    go_wp2_with fail
    refine (awake_any _).mono ?_
    rintro e w1 ⟨rfl, hb1⟩
    have hT : Lf w.heap.size (w.heap.size + 1 + 1) [(⟨w.heap.size, 0, none⟩, .int .i64 aU), (⟨w.heap.size, 1, none⟩, .int .i64 aW), (⟨w.heap.size, 2, none⟩, .int .i64 aR), (⟨w.heap.size, 3, none⟩, .int .i64 aH), (⟨w.heap.size + 1, 0, none⟩, .int .i64 bU), (⟨w.heap.size + 1, 1, none⟩, .int .i64 bW), (⟨w.heap.size + 1, 2, none⟩, .int .i64 bR), (⟨w.heap.size + 1, 3, none⟩, .int .i64 bH)] w w1 := Lf.next (w := ((w.alloc (.cells #[.int .i64 aU, .int .i64 aW, .int .i64 aR, .int .i64 aH] 30)).alloc (.cells #[.int .i64 bU, .int .i64 bW, .int .i64 bR, .int .i64 bH] 30))) ⟨by simp [List.forall_mem_cons, go_sem], by simp [List.forall_mem_cons, go_sem], by simp [List.forall_mem_cons] <;> omega, by simp, by (repeat (first | exact Below.refl _ _ | assumption | refine Below.drew ?_ | (refine Below.alloc ?_ (by simp <;> omega) _) | (refine Below.setCell ?_ (by simp <;> omega) _))), by omega⟩ hb1
    clear hb1
    have kc := hT.cells
    have kf := hT.frz
    simp only [List.forall_mem_cons, List.not_mem_nil, false_implies, implies_true, and_true] at kc kf
    obtain ⟨c0, c1, c2, c3, c4, c5, c6, c7⟩ := kc
    obtain ⟨f0, f1, f2, f3, f4, f5, f6, f7⟩ := kf
    go_wp2_with fail
    refine (S0 _).out.mono ?_
    rintro e w2 ⟨rfl, hb2⟩
    have hT := hT.next hb2
    clear hb2 c0 f0 c1 f1 c2 f2 c3 f3 c4 f4 c5 f5 c6 f6 c7 f7
    have kc := hT.cells
    have kf := hT.frz
    simp only [List.forall_mem_cons, List.not_mem_nil, false_implies, implies_true, and_true] at kc kf
    obtain ⟨c0, c1, c2, c3, c4, c5, c6, c7⟩ := kc
    obtain ⟨f0, f1, f2, f3, f4, f5, f6, f7⟩ := kf
    go_wp2_with fail
    go_ret
    exact ⟨rfl, hT.be⟩
  rw [hA] at S0
  cases hB : spB bU bW bR bH
  · rw [hB] at S1
    clear hA hB
    go_enter Try.func5, Try.ntmps5
    go_wp2_with fail
    refine (awake_any _).mono ?_
    rintro e w1 ⟨rfl, hb1⟩
    have hT : Lf w.heap.size (w.heap.size + 1 + 1) [(⟨w.heap.size, 0, none⟩, .int .i64 aU), (⟨w.heap.size, 1, none⟩, .int .i64 aW), (⟨w.heap.size, 2, none⟩, .int .i64 aR), (⟨w.heap.size, 3, none⟩, .int .i64 aH), (⟨w.heap.size + 1, 0, none⟩, .int .i64 bU), (⟨w.heap.size + 1, 1, none⟩, .int .i64 bW), (⟨w.heap.size + 1, 2, none⟩, .int .i64 bR), (⟨w.heap.size + 1, 3, none⟩, .int .i64 bH)] w w1 := Lf.next (w := ((w.alloc (.cells #[.int .i64 aU, .int .i64 aW, .int .i64 aR, .int .i64 aH] 30)).alloc (.cells #[.int .i64 bU, .int .i64 bW, .int .i64 bR, .int .i64 bH] 30))) ⟨by simp [List.forall_mem_cons, go_sem], by simp [List.forall_mem_cons, go_sem], by simp [List.forall_mem_cons] <;> omega, by simp, by (repeat (first | exact Below.refl _ _ | assumption | refine Below.drew ?_ | (refine Below.alloc ?_ (by simp <;> omega) _) | (refine Below.setCell ?_ (by simp <;> omega) _))), by omega⟩ hb1
    clear hb1
    have kc := hT.cells
    have kf := hT.frz
    simp only [List.forall_mem_cons, List.not_mem_nil, false_implies, implies_true, and_true] at kc kf
    obtain ⟨c0, c1, c2, c3, c4, c5, c6, c7⟩ := kc
    obtain ⟨f0, f1, f2, f3, f4, f5, f6, f7⟩ := kf
    go_wp2_with fail
    refine (S0 _).out.mono ?_
    rintro e w2 ⟨rfl, hb2⟩
    have hT := hT.next hb2
    clear hb2 c0 f0 c1 f1 c2 f2 c3 f3 c4 f4 c5 f5 c6 f6 c7 f7
    have kc := hT.cells
    have kf := hT.frz
    simp only [List.forall_mem_cons, List.not_mem_nil, false_implies, implies_true, and_true] at kc kf
    obtain ⟨c0, c1, c2, c3, c4, c5, c6, c7⟩ := kc
    obtain ⟨f0, f1, f2, f3, f4, f5, f6, f7⟩ := kf
    go_wp2_with fail
    refine (S1 _).out.mono ?_
    rintro e w3 ⟨rfl, hb3⟩
    have hT := hT.next hb3
    clear hb3 c0 f0 c1 f1 c2 f2 c3 f3 c4 f4 c5 f5 c6 f6 c7 f7
    have kc := hT.cells
    have kf := hT.frz
    simp only [List.forall_mem_cons, List.not_mem_nil, false_implies, implies_true, and_true] at kc kf
    obtain ⟨c0, c1, c2, c3, c4, c5, c6, c7⟩ := kc
    obtain ⟨f0, f1, f2, f3, f4, f5, f6, f7⟩ := kf
    go_wp2_with fail
    go_ret
    exact ⟨rfl, hT.be⟩
  · rw [hB] at S1
    obtain ⟨m00, m01, m02, m03, o0, _, P0, R0⟩ := mid_any aU aW aR aH bU bW bR bH dir full (spB_t hA) (spB_t hB)
    obtain ⟨m10, m11, m12, m13, o1, _, P1, R1⟩ := mid_any aU aW aR aH bU bW bR bH 1 full (spB_t hA) (spB_t hB)
    obtain ⟨m20, m21, m22, m23, o2, _, P2, R2⟩ := mid_any aU aW aR aH bU bW bR bH (-1) full (spB_t hA) (spB_t hB)
    clear hA hB
    go_enter Try.func5, Try.ntmps5
    go_wp2_with fail
    refine (awake_any _).mono ?_
    rintro e w1 ⟨rfl, hb1⟩
    have hT : Lf w.heap.size (w.heap.size + 1 + 1) [(⟨w.heap.size, 0, none⟩, .int .i64 aU), (⟨w.heap.size, 1, none⟩, .int .i64 aW), (⟨w.heap.size, 2, none⟩, .int .i64 aR), (⟨w.heap.size, 3, none⟩, .int .i64 aH), (⟨w.heap.size + 1, 0, none⟩, .int .i64 bU), (⟨w.heap.size + 1, 1, none⟩, .int .i64 bW), (⟨w.heap.size + 1, 2, none⟩, .int .i64 bR), (⟨w.heap.size + 1, 3, none⟩, .int .i64 bH)] w w1 := Lf.next (w := ((w.alloc (.cells #[.int .i64 aU, .int .i64 aW, .int .i64 aR, .int .i64 aH] 30)).alloc (.cells #[.int .i64 bU, .int .i64 bW, .int .i64 bR, .int .i64 bH] 30))) ⟨by simp [List.forall_mem_cons, go_sem], by simp [List.forall_mem_cons, go_sem], by simp [List.forall_mem_cons] <;> omega, by simp, by (repeat (first | exact Below.refl _ _ | assumption | refine Below.drew ?_ | (refine Below.alloc ?_ (by simp <;> omega) _) | (refine Below.setCell ?_ (by simp <;> omega) _))), by omega⟩ hb1
    clear hb1
    have kc := hT.cells
    have kf := hT.frz
    simp only [List.forall_mem_cons, List.not_mem_nil, false_implies, implies_true, and_true] at kc kf
    obtain ⟨c0, c1, c2, c3, c4, c5, c6, c7⟩ := kc
    obtain ⟨f0, f1, f2, f3, f4, f5, f6, f7⟩ := kf
    go_wp2_with fail
    refine (S0 _).out.mono ?_
    rintro e w2 ⟨rfl, hb2⟩
    have hT := hT.next hb2
    clear hb2 c0 f0 c1 f1 c2 f2 c3 f3 c4 f4 c5 f5 c6 f6 c7 f7
    have kc := hT.cells
    have kf := hT.frz
    simp only [List.forall_mem_cons, List.not_mem_nil, false_implies, implies_true, and_true] at kc kf
    obtain ⟨c0, c1, c2, c3, c4, c5, c6, c7⟩ := kc
    obtain ⟨f0, f1, f2, f3, f4, f5, f6, f7⟩ := kf
    go_wp2_with fail
    refine (S1 _).out.mono ?_
    rintro e w3 ⟨rfl, hb3⟩
    have hT := hT.next hb3
    clear hb3 c0 f0 c1 f1 c2 f2 c3 f3 c4 f4 c5 f5 c6 f6 c7 f7
    have kc := hT.cells
    have kf := hT.frz
    simp only [List.forall_mem_cons, List.not_mem_nil, false_implies, implies_true, and_true] at kc kf
    obtain ⟨c0, c1, c2, c3, c4, c5, c6, c7⟩ := kc
    obtain ⟨f0, f1, f2, f3, f4, f5, f6, f7⟩ := kf
    go_wp2_with fail
    clear c0 f0 c1 f1 c2 f2 c3 f3 c4 f4 c5 f5 c6 f6 c7 f7
    go_loopw [27] (fun t wr => ((t = .int .i64 0 ∨ t = .int .i64 1) ∨ (t = .int .i64 2 ∨ t = .int .i64 3)) ∧ Lf w.heap.size (w.heap.size + 1 + 1) [(⟨w.heap.size, 0, none⟩, .int .i64 aU), (⟨w.heap.size, 1, none⟩, .int .i64 aW), (⟨w.heap.size, 2, none⟩, .int .i64 aR), (⟨w.heap.size, 3, none⟩, .int .i64 aH), (⟨w.heap.size + 1, 0, none⟩, .int .i64 bU), (⟨w.heap.size + 1, 1, none⟩, .int .i64 bW), (⟨w.heap.size + 1, 2, none⟩, .int .i64 bR), (⟨w.heap.size + 1, 3, none⟩, .int .i64 bH)] w wr) (fun t _ => 3 - (intOf t).toNat)
    case atStart => exact ⟨Or.inl (Or.inl rfl), hT⟩
    case round =>
    clear hT
    obtain ⟨hd, hT⟩ := hrel
    rcases hd with (rfl | rfl) | (rfl | rfl)
    · have I0 : ∀ w, (Instr.index 22 (.agg #[.int .i64 dir, .int .i64 1, .int .i64 (-1)]) (.int .i64 0)).run Try.prog w = .ok (.int .i64 dir) w := fun _ => by kernel_rfl
      have kc := hT.cells
      have kf := hT.frz
      simp only [List.forall_mem_cons, List.not_mem_nil, false_implies, implies_true, and_true] at kc kf
      obtain ⟨c0, c1, c2, c3, c4, c5, c6, c7⟩ := kc
      obtain ⟨f0, f1, f2, f3, f4, f5, f6, f7⟩ := kf
      go_wp2_with fail
      refine (P0 _).out.mono ?_
      rintro e w1 ⟨rfl, hb1⟩
      have hT1 := hT.next hb1
      have hz1 := hT1.lt
      clear c0 f0 c1 f1 c2 f2 c3 f3 c4 f4 c5 f5 c6 f6 c7 f7
      go_upto_region 9 with fail
      refine wp_cls (Lf w.heap.size (w1.heap.size + 1) [(⟨w1.heap.size, 0, none⟩, .int .i64 m00), (⟨w1.heap.size, 1, none⟩, .int .i64 m01), (⟨w1.heap.size, 2, none⟩, .int .i64 m02), (⟨w1.heap.size, 3, none⟩, .int .i64 m03), (⟨w.heap.size, 0, none⟩, .int .i64 aU), (⟨w.heap.size, 1, none⟩, .int .i64 aW), (⟨w.heap.size, 2, none⟩, .int .i64 aR), (⟨w.heap.size, 3, none⟩, .int .i64 aH), (⟨w.heap.size + 1, 0, none⟩, .int .i64 bU), (⟨w.heap.size + 1, 1, none⟩, .int .i64 bW), (⟨w.heap.size + 1, 2, none⟩, .int .i64 bR), (⟨w.heap.size + 1, 3, none⟩, .int .i64 bH)] w) (hT1.push #[.int .i64 m00, .int .i64 m01, .int .i64 m02, .int .i64 m03] 30) ?_
      intro wx hT2
      have kc := hT2.cells
      have kf := hT2.frz
      simp only [List.forall_mem_cons, List.not_mem_nil, false_implies, implies_true, and_true] at kc kf
      obtain ⟨c0, c1, c2, c3, c4, c5, c6, c7, c8, c9, c10, c11⟩ := kc
      obtain ⟨f0, f1, f2, f3, f4, f5, f6, f7, f8, f9, f10, f11⟩ := kf
      go_wp2_with fail
      refine (R0 _).out.mono ?_
      rintro e w2 ⟨rfl, hb2⟩
      have hT3 := hT2.next hb2
      have hz2 := hT3.lt
      clear c0 f0 c1 f1 c2 f2 c3 f3 c4 f4 c5 f5 c6 f6 c7 f7 c8 f8 c9 f9 c10 f10 c11 f11
      go_upto_region 10 with fail
      refine wp_cls (Lf w.heap.size (w2.heap.size + 1) [(⟨w2.heap.size, 0, none⟩, .int .i64 m00), (⟨w2.heap.size, 1, none⟩, .int .i64 m01), (⟨w2.heap.size, 2, none⟩, .int .i64 m02), (⟨w2.heap.size, 3, none⟩, .int .i64 m03), (⟨w1.heap.size, 0, none⟩, .int .i64 m00), (⟨w1.heap.size, 1, none⟩, .int .i64 m01), (⟨w1.heap.size, 2, none⟩, .int .i64 m02), (⟨w1.heap.size, 3, none⟩, .int .i64 m03), (⟨w.heap.size, 0, none⟩, .int .i64 aU), (⟨w.heap.size, 1, none⟩, .int .i64 aW), (⟨w.heap.size, 2, none⟩, .int .i64 aR), (⟨w.heap.size, 3, none⟩, .int .i64 aH), (⟨w.heap.size + 1, 0, none⟩, .int .i64 bU), (⟨w.heap.size + 1, 1, none⟩, .int .i64 bW), (⟨w.heap.size + 1, 2, none⟩, .int .i64 bR), (⟨w.heap.size + 1, 3, none⟩, .int .i64 bH)] w) (hT3.push #[.int .i64 m00, .int .i64 m01, .int .i64 m02, .int .i64 m03] 30) ?_
      intro wy hT4
      have kc := hT4.cells
      have kf := hT4.frz
      simp only [List.forall_mem_cons, List.not_mem_nil, false_implies, implies_true, and_true] at kc kf
      obtain ⟨c0, c1, c2, c3, c4, c5, c6, c7, c8, c9, c10, c11, c12, c13, c14, c15⟩ := kc
      obtain ⟨f0, f1, f2, f3, f4, f5, f6, f7, f8, f9, f10, f11, f12, f13, f14, f15⟩ := kf
      go_wp2_with fail
      go_roundw
      case rel => exact ⟨Or.inl (Or.inr rfl), hT4.cut (fun p hp => (List.mem_cons_of_mem _ (List.mem_cons_of_mem _ (List.mem_cons_of_mem _ (List.mem_cons_of_mem _ (List.mem_cons_of_mem _ (List.mem_cons_of_mem _ (List.mem_cons_of_mem _ (List.mem_cons_of_mem _ hp))))))))) hT.inn (by omega) (by omega)⟩
      case measure => simp [intOf]
    · have I0 : ∀ w, (Instr.index 22 (.agg #[.int .i64 dir, .int .i64 1, .int .i64 (-1)]) (.int .i64 1)).run Try.prog w = .ok (.int .i64 1) w := fun _ => by kernel_rfl
      have kc := hT.cells
      have kf := hT.frz
      simp only [List.forall_mem_cons, List.not_mem_nil, false_implies, implies_true, and_true] at kc kf
      obtain ⟨c0, c1, c2, c3, c4, c5, c6, c7⟩ := kc
      obtain ⟨f0, f1, f2, f3, f4, f5, f6, f7⟩ := kf
      go_wp2_with fail
      refine (P1 _).out.mono ?_
      rintro e w1 ⟨rfl, hb1⟩
      have hT1 := hT.next hb1
      have hz1 := hT1.lt
      clear c0 f0 c1 f1 c2 f2 c3 f3 c4 f4 c5 f5 c6 f6 c7 f7
      go_upto_region 9 with fail
      refine wp_cls (Lf w.heap.size (w1.heap.size + 1) [(⟨w1.heap.size, 0, none⟩, .int .i64 m10), (⟨w1.heap.size, 1, none⟩, .int .i64 m11), (⟨w1.heap.size, 2, none⟩, .int .i64 m12), (⟨w1.heap.size, 3, none⟩, .int .i64 m13), (⟨w.heap.size, 0, none⟩, .int .i64 aU), (⟨w.heap.size, 1, none⟩, .int .i64 aW), (⟨w.heap.size, 2, none⟩, .int .i64 aR), (⟨w.heap.size, 3, none⟩, .int .i64 aH), (⟨w.heap.size + 1, 0, none⟩, .int .i64 bU), (⟨w.heap.size + 1, 1, none⟩, .int .i64 bW), (⟨w.heap.size + 1, 2, none⟩, .int .i64 bR), (⟨w.heap.size + 1, 3, none⟩, .int .i64 bH)] w) (hT1.push #[.int .i64 m10, .int .i64 m11, .int .i64 m12, .int .i64 m13] 30) ?_
      intro wx hT2
      have kc := hT2.cells
      have kf := hT2.frz
      simp only [List.forall_mem_cons, List.not_mem_nil, false_implies, implies_true, and_true] at kc kf
      obtain ⟨c0, c1, c2, c3, c4, c5, c6, c7, c8, c9, c10, c11⟩ := kc
      obtain ⟨f0, f1, f2, f3, f4, f5, f6, f7, f8, f9, f10, f11⟩ := kf
      go_wp2_with fail
      refine (R1 _).out.mono ?_
      rintro e w2 ⟨rfl, hb2⟩
      have hT3 := hT2.next hb2
      have hz2 := hT3.lt
      clear c0 f0 c1 f1 c2 f2 c3 f3 c4 f4 c5 f5 c6 f6 c7 f7 c8 f8 c9 f9 c10 f10 c11 f11
      go_upto_region 10 with fail
      refine wp_cls (Lf w.heap.size (w2.heap.size + 1) [(⟨w2.heap.size, 0, none⟩, .int .i64 m10), (⟨w2.heap.size, 1, none⟩, .int .i64 m11), (⟨w2.heap.size, 2, none⟩, .int .i64 m12), (⟨w2.heap.size, 3, none⟩, .int .i64 m13), (⟨w1.heap.size, 0, none⟩, .int .i64 m10), (⟨w1.heap.size, 1, none⟩, .int .i64 m11), (⟨w1.heap.size, 2, none⟩, .int .i64 m12), (⟨w1.heap.size, 3, none⟩, .int .i64 m13), (⟨w.heap.size, 0, none⟩, .int .i64 aU), (⟨w.heap.size, 1, none⟩, .int .i64 aW), (⟨w.heap.size, 2, none⟩, .int .i64 aR), (⟨w.heap.size, 3, none⟩, .int .i64 aH), (⟨w.heap.size + 1, 0, none⟩, .int .i64 bU), (⟨w.heap.size + 1, 1, none⟩, .int .i64 bW), (⟨w.heap.size + 1, 2, none⟩, .int .i64 bR), (⟨w.heap.size + 1, 3, none⟩, .int .i64 bH)] w) (hT3.push #[.int .i64 m10, .int .i64 m11, .int .i64 m12, .int .i64 m13] 30) ?_
      intro wy hT4
      have kc := hT4.cells
      have kf := hT4.frz
      simp only [List.forall_mem_cons, List.not_mem_nil, false_implies, implies_true, and_true] at kc kf
      obtain ⟨c0, c1, c2, c3, c4, c5, c6, c7, c8, c9, c10, c11, c12, c13, c14, c15⟩ := kc
      obtain ⟨f0, f1, f2, f3, f4, f5, f6, f7, f8, f9, f10, f11, f12, f13, f14, f15⟩ := kf
      go_wp2_with fail
      go_roundw
      case rel => exact ⟨Or.inr (Or.inl rfl), hT4.cut (fun p hp => (List.mem_cons_of_mem _ (List.mem_cons_of_mem _ (List.mem_cons_of_mem _ (List.mem_cons_of_mem _ (List.mem_cons_of_mem _ (List.mem_cons_of_mem _ (List.mem_cons_of_mem _ (List.mem_cons_of_mem _ hp))))))))) hT.inn (by omega) (by omega)⟩
      case measure => simp [intOf]
    · have I0 : ∀ w, (Instr.index 22 (.agg #[.int .i64 dir, .int .i64 1, .int .i64 (-1)]) (.int .i64 2)).run Try.prog w = .ok (.int .i64 (-1)) w := fun _ => by kernel_rfl
      have kc := hT.cells
      have kf := hT.frz
      simp only [List.forall_mem_cons, List.not_mem_nil, false_implies, implies_true, and_true] at kc kf
      obtain ⟨c0, c1, c2, c3, c4, c5, c6, c7⟩ := kc
      obtain ⟨f0, f1, f2, f3, f4, f5, f6, f7⟩ := kf
      go_wp2_with fail
      refine (P2 _).out.mono ?_
      rintro e w1 ⟨rfl, hb1⟩
      have hT1 := hT.next hb1
      have hz1 := hT1.lt
      clear c0 f0 c1 f1 c2 f2 c3 f3 c4 f4 c5 f5 c6 f6 c7 f7
      go_upto_region 9 with fail
      refine wp_cls (Lf w.heap.size (w1.heap.size + 1) [(⟨w1.heap.size, 0, none⟩, .int .i64 m20), (⟨w1.heap.size, 1, none⟩, .int .i64 m21), (⟨w1.heap.size, 2, none⟩, .int .i64 m22), (⟨w1.heap.size, 3, none⟩, .int .i64 m23), (⟨w.heap.size, 0, none⟩, .int .i64 aU), (⟨w.heap.size, 1, none⟩, .int .i64 aW), (⟨w.heap.size, 2, none⟩, .int .i64 aR), (⟨w.heap.size, 3, none⟩, .int .i64 aH), (⟨w.heap.size + 1, 0, none⟩, .int .i64 bU), (⟨w.heap.size + 1, 1, none⟩, .int .i64 bW), (⟨w.heap.size + 1, 2, none⟩, .int .i64 bR), (⟨w.heap.size + 1, 3, none⟩, .int .i64 bH)] w) (hT1.push #[.int .i64 m20, .int .i64 m21, .int .i64 m22, .int .i64 m23] 30) ?_
      intro wx hT2
      have kc := hT2.cells
      have kf := hT2.frz
      simp only [List.forall_mem_cons, List.not_mem_nil, false_implies, implies_true, and_true] at kc kf
      obtain ⟨c0, c1, c2, c3, c4, c5, c6, c7, c8, c9, c10, c11⟩ := kc
      obtain ⟨f0, f1, f2, f3, f4, f5, f6, f7, f8, f9, f10, f11⟩ := kf
      go_wp2_with fail
      refine (R2 _).out.mono ?_
      rintro e w2 ⟨rfl, hb2⟩
      have hT3 := hT2.next hb2
      have hz2 := hT3.lt
      clear c0 f0 c1 f1 c2 f2 c3 f3 c4 f4 c5 f5 c6 f6 c7 f7 c8 f8 c9 f9 c10 f10 c11 f11
      go_upto_region 10 with fail
      refine wp_cls (Lf w.heap.size (w2.heap.size + 1) [(⟨w2.heap.size, 0, none⟩, .int .i64 m20), (⟨w2.heap.size, 1, none⟩, .int .i64 m21), (⟨w2.heap.size, 2, none⟩, .int .i64 m22), (⟨w2.heap.size, 3, none⟩, .int .i64 m23), (⟨w1.heap.size, 0, none⟩, .int .i64 m20), (⟨w1.heap.size, 1, none⟩, .int .i64 m21), (⟨w1.heap.size, 2, none⟩, .int .i64 m22), (⟨w1.heap.size, 3, none⟩, .int .i64 m23), (⟨w.heap.size, 0, none⟩, .int .i64 aU), (⟨w.heap.size, 1, none⟩, .int .i64 aW), (⟨w.heap.size, 2, none⟩, .int .i64 aR), (⟨w.heap.size, 3, none⟩, .int .i64 aH), (⟨w.heap.size + 1, 0, none⟩, .int .i64 bU), (⟨w.heap.size + 1, 1, none⟩, .int .i64 bW), (⟨w.heap.size + 1, 2, none⟩, .int .i64 bR), (⟨w.heap.size + 1, 3, none⟩, .int .i64 bH)] w) (hT3.push #[.int .i64 m20, .int .i64 m21, .int .i64 m22, .int .i64 m23] 30) ?_
      intro wy hT4
      have kc := hT4.cells
      have kf := hT4.frz
      simp only [List.forall_mem_cons, List.not_mem_nil, false_implies, implies_true, and_true] at kc kf
      obtain ⟨c0, c1, c2, c3, c4, c5, c6, c7, c8, c9, c10, c11, c12, c13, c14, c15⟩ := kc
      obtain ⟨f0, f1, f2, f3, f4, f5, f6, f7, f8, f9, f10, f11, f12, f13, f14, f15⟩ := kf
      go_wp2_with fail
      go_roundw
      case rel => exact ⟨Or.inr (Or.inr rfl), hT4.cut (fun p hp => (List.mem_cons_of_mem _ (List.mem_cons_of_mem _ (List.mem_cons_of_mem _ (List.mem_cons_of_mem _ (List.mem_cons_of_mem _ (List.mem_cons_of_mem _ (List.mem_cons_of_mem _ (List.mem_cons_of_mem _ hp))))))))) hT.inn (by omega) (by omega)⟩
      case measure => simp [intOf]
    · go_wp2_with fail
      go_ret
      exact ⟨rfl, hT.be⟩
end Go.Proofs.Ytiolnpkieooceaa
