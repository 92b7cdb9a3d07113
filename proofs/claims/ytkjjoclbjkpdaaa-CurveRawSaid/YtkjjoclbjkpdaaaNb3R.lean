/- Proved here: the ends of an arc, of the reference, and their nominal radii; ranges as stated. -/
import Derived.Test.YtkjjoclbjkpdaaaNb2R
import Derived.Test.YtkjjoclbjkpdaaaWq2R
namespace Go.Proofs.Ytkjjoclbjkpdaaa
open Go.RowKit
set_option linter.unusedVariables false
set_option linter.unusedSimpArgs false
/-- the square root, rounded to the nearest integer -/
def rad (n : Int) : Int := sqV n 2
theorem rad_near (n : Nat) (h : n ≤ 1152921504606846976) : rad (n : Int) = if rtN n * (rtN n + 1) < n then ((rtN n : Nat) : Int) + 1 else ((rtN n : Nat) : Int) := by
  have s := rtN_spec n (by omega)
  have hr : rootN n 2 = rtN n + (if rtN n < n - rtN n * rtN n then 1 else 0) := by
    unfold rootN upI
    by_cases h : rtN n < n - rtN n * rtN n
    · rw [decide_eq_true h, if_pos h]; rfl
    · rw [decide_eq_false h, if_neg h]; rfl
  have hb : rtN n ≤ 1073741824 := by
    refine Nat.le_of_not_lt fun hc => ?_
    have := sq_mono (show 1073741825 ≤ rtN n from hc)
    omega
  have hg : sqG (n : Int) 2 = true := decide_eq_true ⟨by omega, by decide, by decide⟩
  have e : rtN n * (rtN n + 1) = rtN n * rtN n + rtN n := Nat.mul_succ _ _
  rw [e]
  unfold rad sqV sgV
  rw [hg, if_pos rfl, if_neg (by decide), Int.toNat_natCast, if_pos (by rw [hr]; split <;> omega), hr]
  by_cases h1 : rtN n * rtN n + rtN n < n
  · rw [if_pos (by omega), if_pos h1]; rfl
  · rw [if_neg (by omega), if_neg h1]; rfl
theorem res_spoke {fn : Func} {t b : Nat} (h : fn.results = #[.cell t 34]) (tmps : Array Value) (ht : tmps.getD t undef = .pointer (some ⟨b, 0, none⟩)) (w : World) (x0 x1 x2 x3 : Int)
    (c0 : w.cell? ⟨b, 0, none⟩ = some (.int .i64 x0)) (c1 : w.cell? ⟨b, 1, none⟩ = some (.int .i64 x1)) (c2 : w.cell? ⟨b, 2, none⟩ = some (.int .i64 x2)) (c3 : w.cell? ⟨b, 3, none⟩ = some (.int .i64 x3)) :
    (results fn tmps).run Try.prog w = .ok (.agg #[.int .i64 x0, .int .i64 x1, .int .i64 x2, .int .i64 x3]) w := by
  rw [Array.getD_eq_getD_getElem?] at ht
  simp [results, h, ht, go_sem, c0, c1, c2, c3]
theorem res_spokes {fn : Func} {t b t' b' : Nat} (h : fn.results = #[.cell t 34, .cell t' 34]) (tmps : Array Value) (ht : tmps.getD t undef = .pointer (some ⟨b, 0, none⟩)) (ht' : tmps.getD t' undef = .pointer (some ⟨b', 0, none⟩)) (w : World) (x0 x1 x2 x3 y0 y1 y2 y3 : Int)
    (c0 : w.cell? ⟨b, 0, none⟩ = some (.int .i64 x0)) (c1 : w.cell? ⟨b, 1, none⟩ = some (.int .i64 x1)) (c2 : w.cell? ⟨b, 2, none⟩ = some (.int .i64 x2)) (c3 : w.cell? ⟨b, 3, none⟩ = some (.int .i64 x3))
    (d0 : w.cell? ⟨b', 0, none⟩ = some (.int .i64 y0)) (d1 : w.cell? ⟨b', 1, none⟩ = some (.int .i64 y1)) (d2 : w.cell? ⟨b', 2, none⟩ = some (.int .i64 y2)) (d3 : w.cell? ⟨b', 3, none⟩ = some (.int .i64 y3)) :
    (results fn tmps).run Try.prog w = .ok (.tuple #[.agg #[.int .i64 x0, .int .i64 x1, .int .i64 x2, .int .i64 x3], .agg #[.int .i64 y0, .int .i64 y1, .int .i64 y2, .int .i64 y3]]) w := by
  rw [Array.getD_eq_getD_getElem?] at ht ht'
  simp [results, h, ht, ht', go_sem, c0, c1, c2, c3, d0, d1, d2, d3]
theorem sc_bd {x : Int} (h : -2097152 ≤ x ∧ x ≤ 2097152) : 0 ≤ x * 16 * (x * 16) ∧ x * 16 * (x * 16) ≤ 1125899906842624 := by
  have := sq_bdK (x := x * 16) (by omega) (by omega)
  have e : (x * 16 * (x * 16)).natAbs ≤ 33554432 * 33554432 := by rw [Int.natAbs_mul]; exact Nat.mul_le_mul (by omega) (by omega)
  omega
set_option maxHeartbeats 8000000 in
set_option maxRecDepth 20000 in
theorem spokeR_any (U W R H : Int) (w : World) (hu : -2097152 ≤ U ∧ U ≤ 2097152) (hw : -2097152 ≤ W ∧ W ≤ 2097152) (hh : -2097152 ≤ H ∧ H ≤ 2097152) :
    Calls Try.prog 57 #[.agg #[.int .i64 (U), .int .i64 (W), .int .i64 (R), .int .i64 (H)]] w fun e w' => e = .returned (.agg #[.int .i64 (U * 16), .int .i64 (W * 16), .int .i64 (rad (U * 16 * (U * 16) + W * 16 * (W * 16))), .int .i64 (H * 16)]) ∧ Below w.heap.size w w' := by
  have q1 := sc_bd hu
  have q2 := sc_bd hw
  have DT := fun w => Lib.hid (dotR_any (U * 16) (W * 16) 0 (H * 16) (U * 16) (W * 16) 0 (H * 16) w ⟨⟨by omega, by omega⟩, by omega, by omega⟩ ⟨⟨by omega, by omega⟩, by omega, by omega⟩)
  obtain ⟨n, hn⟩ := Int.eq_ofNat_of_zero_le (show 0 ≤ (U * 16 * (U * 16) + W * 16 * (W * 16)) by omega)
  have hb : n ≤ 2251799813685248 := by omega
  have HV := Lib.hid (rad_near n (by omega))
  have RT := fun w => Lib.hid (rootR_any n w (by omega))
  rw [hn] at DT ⊢
  have hr : rtN n ≤ 67108864 := by
    have s := rtN_spec n (by omega)
    refine Nat.le_of_not_lt fun hc => ?_
    have := sq_mono (show 67108865 ≤ rtN n from hc)
    omega
  generalize rad (n : Int) = V at *
  generalize rtN n = T at *
  have m := Nat.mul_le_mul hr (Nat.succ_le_succ hr)
  have es : (T : Int) * ((T : Int) + 1) = ((T * T.succ : Nat) : Int) := by rw [Int.natCast_mul]; rfl
  have s1 : 0 ≤ (T : Int) * ((T : Int) + 1) := by omega
  have s2 : (T : Int) * ((T : Int) + 1) ≤ 13511040169000000 := by omega
  obtain ⟨hu1, hu2⟩ := hu
  obtain ⟨hw1, hw2⟩ := hw
  obtain ⟨hh1, hh2⟩ := hh
  clear q1 q2 hn m
  have hT : Lf w.heap.size (w.heap.size + 3) [(⟨w.heap.size, 0, none⟩, .int .i64 U), (⟨w.heap.size, 1, none⟩, .int .i64 W), (⟨w.heap.size, 2, none⟩, .int .i64 R), (⟨w.heap.size, 3, none⟩, .int .i64 H), (⟨w.heap.size + 1, 0, none⟩, .int .i64 0), (⟨w.heap.size + 1, 1, none⟩, .int .i64 0), (⟨w.heap.size + 1, 2, none⟩, .int .i64 0), (⟨w.heap.size + 1, 3, none⟩, .int .i64 0), (⟨w.heap.size + 1 + 1, 0, none⟩, .int .i64 (U * 16)), (⟨w.heap.size + 1 + 1, 1, none⟩, .int .i64 (W * 16)), (⟨w.heap.size + 1 + 1, 2, none⟩, .int .i64 (0)), (⟨w.heap.size + 1 + 1, 3, none⟩, .int .i64 (H * 16))] w (((w.alloc (.cells #[.int .i64 U, .int .i64 W, .int .i64 R, .int .i64 H] 34)).alloc (.cells #[.int .i64 0, .int .i64 0, .int .i64 0, .int .i64 0] 34)).alloc (.cells #[.int .i64 (U * 16), .int .i64 (W * 16), .int .i64 0, .int .i64 (H * 16)] 34)) := ⟨by simp [List.forall_mem_cons, go_sem], by simp [List.forall_mem_cons, go_sem], by simp [List.forall_mem_cons] <;> omega, by simp, by (repeat (first | exact Below.refl _ _ | refine Below.alloc ?_ (by simp <;> omega) _)), by omega⟩
  have hR0 : ∀ G : Nat → Value, Row (w.heap.size + 1) 4 0 G (((w.alloc (.cells #[.int .i64 U, .int .i64 W, .int .i64 R, .int .i64 H] 34)).alloc (.cells #[.int .i64 0, .int .i64 0, .int .i64 0, .int .i64 0] 34)).alloc (.cells #[.int .i64 (U * 16), .int .i64 (W * 16), .int .i64 0, .int .i64 (H * 16)] 34)) :=
    fun G => (Row.freshg4 _ _ _ _ _ _ _ _ (by simp)).next ((Below.refl _ _).alloc (Nat.le_refl _) _)
  have c1 : T * (T + 1) < n ∨ ¬ T * (T + 1) < n := Decidable.em _
  have es2 : T * T.succ = T * (T + 1) := rfl
  rw [es2] at es
  rcases c1 with c1 | c1
  · have HF : Hid (V = (T : Int) + 1) := by show V = _; rw [HV.out, if_pos c1]
    have c2 : (T : Int) * ((T : Int) + 1) < n := by omega
    clear c1 es es2 HV hb
    go_enter Try.func57, Try.ntmps57
    go_wp2_with fail
    refine (DT _).out.mono ?_
    rintro e w1 ⟨rfl, hb1⟩
    have hT := hT.next hb1
    have hR1 := (hR0 (fun i => if i = 0 then .int .i64 (U * 16) else if i = 1 then .int .i64 (W * 16) else if i = 2 then .int .i64 ((T : Int) + 1) else .int .i64 (H * 16))).next hb1
    clear hb1 DT
    have kc := hT.cells
    have kf := hT.frz
    simp only [List.forall_mem_cons, List.not_mem_nil, false_implies, implies_true, and_true] at kc kf
    obtain ⟨yc0, yc1, yc2, yc3, yc4, yc5, yc6, yc7, yc8, yc9, yc10, yc11⟩ := kc
    obtain ⟨yf0, yf1, yf2, yf3, yf4, yf5, yf6, yf7, yf8, yf9, yf10, yf11⟩ := kf
    go_wp2_with fail
    refine (RT _).out.mono ?_
    rintro e w2 ⟨rfl, rfl⟩
    clear RT
    go_wp2_with fail
    have hR := ((((((hR1.other (g' := w.heap.size + 1 + 1) (by omega) 2 (.int .i64 (T : Int))).other (g' := w.heap.size + 1 + 1) (by omega) 2 (.int .i64 ((T : Int) + 1))).step (.int .i64 (U * 16)) (by decide) rfl).step (.int .i64 (W * 16)) (by decide) rfl).step (.int .i64 ((T : Int) + 1)) (by decide) rfl).step (.int .i64 (H * 16)) (by decide) rfl)
    refine bodyPost_ret (res_spoke (b := w.heap.size + 1) Try.results57 _ rfl _ (U * 16) (W * 16) ((T : Int) + 1) (H * 16) (hR.cell 0 (by decide)) (hR.cell 1 (by decide)) (hR.cell 2 (by decide)) (hR.cell 3 (by decide))) rfl ⟨by rw [HF.out], ?_⟩
    iterate 6 refine Below.setCell ?_ (by simp <;> omega) _
    exact hT.be
  · have HF : Hid (V = (T : Int)) := by show V = _; rw [HV.out, if_neg c1]
    have c2 : ¬ (T : Int) * ((T : Int) + 1) < n := by omega
    clear c1 es es2 HV hb
    go_enter Try.func57, Try.ntmps57
    go_wp2_with fail
    refine (DT _).out.mono ?_
    rintro e w1 ⟨rfl, hb1⟩
    have hT := hT.next hb1
    have hR1 := (hR0 (fun i => if i = 0 then .int .i64 (U * 16) else if i = 1 then .int .i64 (W * 16) else if i = 2 then .int .i64 ((T : Int)) else .int .i64 (H * 16))).next hb1
    clear hb1 DT
    have kc := hT.cells
    have kf := hT.frz
    simp only [List.forall_mem_cons, List.not_mem_nil, false_implies, implies_true, and_true] at kc kf
    obtain ⟨yc0, yc1, yc2, yc3, yc4, yc5, yc6, yc7, yc8, yc9, yc10, yc11⟩ := kc
    obtain ⟨yf0, yf1, yf2, yf3, yf4, yf5, yf6, yf7, yf8, yf9, yf10, yf11⟩ := kf
    go_wp2_with fail
    refine (RT _).out.mono ?_
    rintro e w2 ⟨rfl, rfl⟩
    clear RT
    go_wp2_with fail
    have hR := (((((hR1.other (g' := w.heap.size + 1 + 1) (by omega) 2 (.int .i64 (T : Int))).step (.int .i64 (U * 16)) (by decide) rfl).step (.int .i64 (W * 16)) (by decide) rfl).step (.int .i64 ((T : Int))) (by decide) rfl).step (.int .i64 (H * 16)) (by decide) rfl)
    refine bodyPost_ret (res_spoke (b := w.heap.size + 1) Try.results57 _ rfl _ (U * 16) (W * 16) ((T : Int)) (H * 16) (hR.cell 0 (by decide)) (hR.cell 1 (by decide)) (hR.cell 2 (by decide)) (hR.cell 3 (by decide))) rfl ⟨by rw [HF.out], ?_⟩
    iterate 5 refine Below.setCell ?_ (by simp <;> omega) _
    exact hT.be
set_option maxHeartbeats 8000000 in
set_option maxRecDepth 40000 in
theorem endsR_any (t : Itm) (w : World) (ht : t.Pos) :
    Calls Try.prog 48 #[.agg #[.int .i64 t.kind, .int .i64 t.block, .int .i64 t.fx, .int .i64 t.fy, .int .i64 t.fz, .int .i64 t.tx, .int .i64 t.ty, .int .i64 t.tz, .int .i64 t.plane, .int .i64 t.cx, .int .i64 t.cy, .int .i64 t.cz, .int .i64 t.dir, .bool t.full, .int .i64 t.feed, .bool t.perrev, .int .i64 t.side, .int .i64 t.radius, .int .i64 t.blend, .int .i64 t.n, .int .i64 t.speed, .bool t.on]] w fun e w' => e = .returned (.tuple #[.agg #[.int .i64 (t.aU), .int .i64 (t.aW), .int .i64 (0), .int .i64 (t.aH)], .agg #[.int .i64 (t.bU), .int .i64 (t.bW), .int .i64 (0), .int .i64 (t.bH)]]) ∧ Below w.heap.size w w' := by
  obtain ⟨⟨⟨fx1, fx2⟩, ⟨fy1, fy2⟩, fz1, fz2⟩, ⟨⟨tx1, tx2⟩, ⟨ty1, ty2⟩, tz1, tz2⟩, ⟨⟨cx1, cx2⟩, ⟨cy1, cy2⟩, cz1, cz2⟩, hk⟩ := ht
  have PLf := fun w => Lib.hid (planeR_any t.plane t.fx t.fy t.fz w hk)
  have PLt := fun w => Lib.hid (planeR_any t.plane t.tx t.ty t.tz w hk)
  have PLc := fun w => Lib.hid (planeR_any t.plane t.cx t.cy t.cz w hk)
  unfold Itm.aU Itm.aW Itm.aH Itm.bU Itm.bW Itm.bH
  obtain ⟨b1, b2⟩ := plU_bd (k := t.plane) ⟨fx1, fx2⟩ ⟨fy1, fy2⟩ ⟨fz1, fz2⟩
  obtain ⟨b3, b4⟩ := plW_bd (k := t.plane) ⟨fx1, fx2⟩ ⟨fy1, fy2⟩ ⟨fz1, fz2⟩
  obtain ⟨b5, b6⟩ := plU_bd (k := t.plane) ⟨tx1, tx2⟩ ⟨ty1, ty2⟩ ⟨tz1, tz2⟩
  obtain ⟨b7, b8⟩ := plW_bd (k := t.plane) ⟨tx1, tx2⟩ ⟨ty1, ty2⟩ ⟨tz1, tz2⟩
  obtain ⟨b9, b10⟩ := plU_bd (k := t.plane) ⟨cx1, cx2⟩ ⟨cy1, cy2⟩ ⟨cz1, cz2⟩
  obtain ⟨b11, b12⟩ := plW_bd (k := t.plane) ⟨cx1, cx2⟩ ⟨cy1, cy2⟩ ⟨cz1, cz2⟩
  clear fx1 fx2 fy1 fy2 fz1 fz2 tx1 tx2 ty1 ty2 tz1 tz2 cx1 cx2 cy1 cy2 cz1 cz2 hk
  generalize plU t.plane t.fx t.fy t.fz = fU at *
  generalize plW t.plane t.fx t.fy t.fz = fW at *
  generalize plH t.plane t.fx t.fy t.fz = fH at *
  generalize plU t.plane t.tx t.ty t.tz = tU at *
  generalize plW t.plane t.tx t.ty t.tz = tW at *
  generalize plH t.plane t.tx t.ty t.tz = tH at *
  generalize plU t.plane t.cx t.cy t.cz = cU at *
  generalize plW t.plane t.cx t.cy t.cz = cW at *
  generalize plH t.plane t.cx t.cy t.cz = cH at *
  have hT : Lf w.heap.size (w.heap.size + 4) [(⟨w.heap.size + 1 + 1 + 1, 0, none⟩, .int .i64 t.cx), (⟨w.heap.size + 1 + 1 + 1, 1, none⟩, .int .i64 t.cy), (⟨w.heap.size + 1 + 1 + 1, 2, none⟩, .int .i64 t.cz), (⟨w.heap.size, 2, none⟩, .int .i64 t.fx), (⟨w.heap.size, 3, none⟩, .int .i64 t.fy), (⟨w.heap.size, 4, none⟩, .int .i64 t.fz), (⟨w.heap.size, 5, none⟩, .int .i64 t.tx), (⟨w.heap.size, 6, none⟩, .int .i64 t.ty), (⟨w.heap.size, 7, none⟩, .int .i64 t.tz), (⟨w.heap.size, 8, none⟩, .int .i64 t.plane), (⟨w.heap.size, 9, none⟩, .int .i64 t.cx), (⟨w.heap.size, 10, none⟩, .int .i64 t.cy), (⟨w.heap.size, 11, none⟩, .int .i64 t.cz)] w ((((w.alloc (.cells #[.int .i64 t.kind, .int .i64 t.block, .int .i64 t.fx, .int .i64 t.fy, .int .i64 t.fz, .int .i64 t.tx, .int .i64 t.ty, .int .i64 t.tz, .int .i64 t.plane, .int .i64 t.cx, .int .i64 t.cy, .int .i64 t.cz, .int .i64 t.dir, .bool t.full, .int .i64 t.feed, .bool t.perrev, .int .i64 t.side, .int .i64 t.radius, .int .i64 t.blend, .int .i64 t.n, .int .i64 t.speed, .bool t.on] 27)).alloc (.cells #[.int .i64 0, .int .i64 0, .int .i64 0, .int .i64 0] 34)).alloc (.cells #[.int .i64 0, .int .i64 0, .int .i64 0, .int .i64 0] 34)).alloc (.cells #[.int .i64 t.cx, .int .i64 t.cy, .int .i64 t.cz] 47)) := ⟨by simp [List.forall_mem_cons, go_sem], by simp [List.forall_mem_cons, go_sem], by simp [List.forall_mem_cons] <;> omega, by simp, by (repeat (first | exact Below.refl _ _ | refine Below.alloc ?_ (by simp <;> omega) _)), by omega⟩
  have hA : Row (w.heap.size + 1) 4 0 (fun i => if i = 0 then .int .i64 (fU - cU) else if i = 1 then .int .i64 (fW - cW) else if i = 2 then .int .i64 (0) else .int .i64 (fH)) ((((w.alloc (.cells #[.int .i64 t.kind, .int .i64 t.block, .int .i64 t.fx, .int .i64 t.fy, .int .i64 t.fz, .int .i64 t.tx, .int .i64 t.ty, .int .i64 t.tz, .int .i64 t.plane, .int .i64 t.cx, .int .i64 t.cy, .int .i64 t.cz, .int .i64 t.dir, .bool t.full, .int .i64 t.feed, .bool t.perrev, .int .i64 t.side, .int .i64 t.radius, .int .i64 t.blend, .int .i64 t.n, .int .i64 t.speed, .bool t.on] 27)).alloc (.cells #[.int .i64 0, .int .i64 0, .int .i64 0, .int .i64 0] 34)).alloc (.cells #[.int .i64 0, .int .i64 0, .int .i64 0, .int .i64 0] 34)).alloc (.cells #[.int .i64 t.cx, .int .i64 t.cy, .int .i64 t.cz] 47)) := ((Row.freshg4 _ _ _ _ _ _ _ _ (by simp)).next ((Below.refl _ _).alloc (Nat.le_refl _) _)).next ((Below.refl _ _).alloc (Nat.le_refl _) _)
  have hB : Row (w.heap.size + 1 + 1) 4 0 (fun i => if i = 0 then .int .i64 (tU - cU) else if i = 1 then .int .i64 (tW - cW) else if i = 2 then .int .i64 (0) else .int .i64 (tH)) ((((w.alloc (.cells #[.int .i64 t.kind, .int .i64 t.block, .int .i64 t.fx, .int .i64 t.fy, .int .i64 t.fz, .int .i64 t.tx, .int .i64 t.ty, .int .i64 t.tz, .int .i64 t.plane, .int .i64 t.cx, .int .i64 t.cy, .int .i64 t.cz, .int .i64 t.dir, .bool t.full, .int .i64 t.feed, .bool t.perrev, .int .i64 t.side, .int .i64 t.radius, .int .i64 t.blend, .int .i64 t.n, .int .i64 t.speed, .bool t.on] 27)).alloc (.cells #[.int .i64 0, .int .i64 0, .int .i64 0, .int .i64 0] 34)).alloc (.cells #[.int .i64 0, .int .i64 0, .int .i64 0, .int .i64 0] 34)).alloc (.cells #[.int .i64 t.cx, .int .i64 t.cy, .int .i64 t.cz] 47)) := (Row.freshg4 _ _ _ _ _ _ _ _ (by simp)).next ((Below.refl _ _).alloc (Nat.le_refl _) _)
  go_enter Try.func48, Try.ntmps48
  go_wp2_with fail
  refine (PLc _).out.mono ?_
  rintro e w1 ⟨rfl, hb1⟩
  have hT := hT.next hb1
  have hA := hA.next hb1
  have hB := hB.next hb1
  clear hb1 PLc
  have kc := hT.cells
  have kf := hT.frz
  simp only [List.forall_mem_cons, List.not_mem_nil, false_implies, implies_true, and_true] at kc kf
  obtain ⟨yc0, yc1, yc2, yc3, yc4, yc5, yc6, yc7, yc8, yc9, yc10, yc11, yc12⟩ := kc
  obtain ⟨yf0, yf1, yf2, yf3, yf4, yf5, yf6, yf7, yf8, yf9, yf10, yf11, yf12⟩ := kf
  go_wp2_with fail
  refine (PLf _).out.mono ?_
  rintro e w2 ⟨rfl, hb1⟩
  have hT := hT.next hb1
  have hA := hA.next hb1
  have hB := hB.next hb1
  clear hb1 PLf
  clear yc0 yf0 yc1 yf1 yc2 yf2 yc3 yf3 yc4 yf4 yc5 yf5 yc6 yf6 yc7 yf7 yc8 yf8 yc9 yf9 yc10 yf10 yc11 yf11 yc12 yf12
  have kc := hT.cells
  have kf := hT.frz
  simp only [List.forall_mem_cons, List.not_mem_nil, false_implies, implies_true, and_true] at kc kf
  obtain ⟨yc0, yc1, yc2, yc3, yc4, yc5, yc6, yc7, yc8, yc9, yc10, yc11, yc12⟩ := kc
  obtain ⟨yf0, yf1, yf2, yf3, yf4, yf5, yf6, yf7, yf8, yf9, yf10, yf11, yf12⟩ := kf
  go_wp2_with fail
  refine (PLt _).out.mono ?_
  rintro e w3 ⟨rfl, hb1⟩
  have hT := hT.next hb1
  have hA := hA.next hb1
  have hB := hB.next hb1
  clear hb1 PLt
  clear yc0 yf0 yc1 yf1 yc2 yf2 yc3 yf3 yc4 yf4 yc5 yf5 yc6 yf6 yc7 yf7 yc8 yf8 yc9 yf9 yc10 yf10 yc11 yf11 yc12 yf12
  obtain ⟨u0, yu0⟩ := hA.ex 0 (by decide)
  have yf0 := hA.frz 0 (by decide)
  obtain ⟨v0, yv0⟩ := hB.ex 0 (by decide)
  have yg0 := hB.frz 0 (by decide)
  obtain ⟨u1, yu1⟩ := hA.ex 1 (by decide)
  have yf1 := hA.frz 1 (by decide)
  obtain ⟨v1, yv1⟩ := hB.ex 1 (by decide)
  have yg1 := hB.frz 1 (by decide)
  obtain ⟨u2, yu2⟩ := hA.ex 2 (by decide)
  have yf2 := hA.frz 2 (by decide)
  obtain ⟨v2, yv2⟩ := hB.ex 2 (by decide)
  have yg2 := hB.frz 2 (by decide)
  obtain ⟨u3, yu3⟩ := hA.ex 3 (by decide)
  have yf3 := hA.frz 3 (by decide)
  obtain ⟨v3, yv3⟩ := hB.ex 3 (by decide)
  have yg3 := hB.frz 3 (by decide)
  go_wp2_with fail
  have hR := ((((hA.step (.int .i64 (fU - cU)) (by decide) rfl).step (.int .i64 (fW - cW)) (by decide) rfl).step (.int .i64 (0)) (by decide) rfl).step (.int .i64 (fH)) (by decide) rfl)
  have hR := ((((hR.other (g' := w.heap.size + 1 + 1) (by omega) 0 (.int .i64 (tU - cU))).other (g' := w.heap.size + 1 + 1) (by omega) 1 (.int .i64 (tW - cW))).other (g' := w.heap.size + 1 + 1) (by omega) 2 (.int .i64 (0))).other (g' := w.heap.size + 1 + 1) (by omega) 3 (.int .i64 (tH)))
  have hS := ((((((((hB.other (g' := w.heap.size + 1) (by omega) 0 (.int .i64 (fU - cU))).other (g' := w.heap.size + 1) (by omega) 1 (.int .i64 (fW - cW))).other (g' := w.heap.size + 1) (by omega) 2 (.int .i64 (0))).other (g' := w.heap.size + 1) (by omega) 3 (.int .i64 (fH))).step (.int .i64 (tU - cU)) (by decide) rfl).step (.int .i64 (tW - cW)) (by decide) rfl).step (.int .i64 (0)) (by decide) rfl).step (.int .i64 (tH)) (by decide) rfl)
  refine bodyPost_ret (res_spokes (b := w.heap.size + 1) (b' := w.heap.size + 1 + 1) Try.results48 _ rfl rfl _ (fU - cU) (fW - cW) (0) (fH) (tU - cU) (tW - cW) (0) (tH) (hR.cell 0 (by decide)) (hR.cell 1 (by decide)) (hR.cell 2 (by decide)) (hR.cell 3 (by decide)) (hS.cell 0 (by decide)) (hS.cell 1 (by decide)) (hS.cell 2 (by decide)) (hS.cell 3 (by decide))) rfl ⟨rfl, ?_⟩
  iterate 8 refine Below.setCell ?_ (by simp <;> omega) _
  exact hT.be
end Go.Proofs.Ytkjjoclbjkpdaaa
