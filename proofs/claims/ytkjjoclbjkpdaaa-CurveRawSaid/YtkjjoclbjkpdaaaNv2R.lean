/- Proved here: Valid of the reference says false for arcs that do not meet the conditions. -/
import Derived.Test.YtkjjoclbjkpdaaaNc4R
namespace Go.Proofs.Ytkjjoclbjkpdaaa
open Go.RowKit
set_option linter.unusedVariables false
set_option linter.unusedSimpArgs false
theorem near_Rf {x y : Int} (h : 64 * min x y < (max x y - min x y - 16) * (max x y - min x y - 16)) : 4 * x * y < (x + y - 16) * (x + y - 16) := by
  rcases Int.le_total x y with g | g
  · rw [Int.max_eq_right g, Int.min_eq_left g] at h
    have e : (x + y - 16) * (x + y - 16) - 4 * x * y = (y - x - 16) * (y - x - 16) - 64 * x := by grind
    omega
  · rw [Int.max_eq_left g, Int.min_eq_right g] at h
    have e : (x + y - 16) * (x + y - 16) - 4 * x * y = (x - y - 16) * (x - y - 16) - 64 * y := by grind
    omega
theorem cmpZ_gt {P Q : Int} (h : Q < P) : 0 < cmpZ P Q := by unfold cmpZ; split; omega; split; omega; decide
set_option maxHeartbeats 16000000 in
set_option maxRecDepth 40000 in
theorem VRf_plane (t : Itm) (w : World) (hk : t.kind = 3) (f1 : In 1048576 t.fx t.fy t.fz) (t1 : In 1048576 t.tx t.ty t.tz) (pk : ¬ PlK t.plane) :
    Calls Try.prog 21 #[.agg #[.int .i64 t.kind, .int .i64 t.block, .int .i64 t.fx, .int .i64 t.fy, .int .i64 t.fz, .int .i64 t.tx, .int .i64 t.ty, .int .i64 t.tz, .int .i64 t.plane, .int .i64 t.cx, .int .i64 t.cy, .int .i64 t.cz, .int .i64 t.dir, .bool t.full, .int .i64 t.feed, .bool t.perrev, .int .i64 t.side, .int .i64 t.radius, .int .i64 t.blend, .int .i64 t.n, .int .i64 t.speed, .bool t.on]] w fun e w' => e = .returned (.bool false) ∧ Below w.heap.size w w' := by
  have WF := fun w => Lib.hid (withinR_any t.fx t.fy t.fz w)
  have WT := fun w => Lib.hid (withinR_any t.tx t.ty t.tz w)
  have MO := fun w => Lib.hid (motion3 w)
  rw [smB_iff.2 f1] at WF
  rw [smB_iff.2 t1] at WT
  clear f1 t1
  have hI : ItC t w.heap.size (w.alloc (.cells #[.int .i64 t.kind, .int .i64 t.block, .int .i64 t.fx, .int .i64 t.fy, .int .i64 t.fz, .int .i64 t.tx, .int .i64 t.ty, .int .i64 t.tz, .int .i64 t.plane, .int .i64 t.cx, .int .i64 t.cy, .int .i64 t.cz, .int .i64 t.dir, .bool t.full, .int .i64 t.feed, .bool t.perrev, .int .i64 t.side, .int .i64 t.radius, .int .i64 t.blend, .int .i64 t.n, .int .i64 t.speed, .bool t.on] 27)) := ItC.fresh t w _ rfl
  obtain ⟨k, hkk⟩ : ∃ k, t.plane = k := ⟨_, rfl⟩
  obtain ⟨d, hdd⟩ : ∃ d, t.dir = d := ⟨_, rfl⟩
  obtain ⟨f, hff⟩ : ∃ f, t.full = f := ⟨_, rfl⟩
  have hT : ∀ (k0 p0 d0 : Int) (f0 : Bool), t.kind = k0 → t.plane = p0 → t.dir = d0 → t.full = f0 → Lf w.heap.size (w.heap.size + 1) [(⟨w.heap.size, 0, none⟩, .int .i64 k0), (⟨w.heap.size, 2, none⟩, .int .i64 t.fx), (⟨w.heap.size, 3, none⟩, .int .i64 t.fy), (⟨w.heap.size, 4, none⟩, .int .i64 t.fz), (⟨w.heap.size, 5, none⟩, .int .i64 t.tx), (⟨w.heap.size, 6, none⟩, .int .i64 t.ty), (⟨w.heap.size, 7, none⟩, .int .i64 t.tz), (⟨w.heap.size, 8, none⟩, .int .i64 p0), (⟨w.heap.size, 9, none⟩, .int .i64 t.cx), (⟨w.heap.size, 10, none⟩, .int .i64 t.cy), (⟨w.heap.size, 11, none⟩, .int .i64 t.cz), (⟨w.heap.size, 12, none⟩, .int .i64 d0), (⟨w.heap.size, 13, none⟩, .bool f0)] w (w.alloc (.cells #[.int .i64 t.kind, .int .i64 t.block, .int .i64 t.fx, .int .i64 t.fy, .int .i64 t.fz, .int .i64 t.tx, .int .i64 t.ty, .int .i64 t.tz, .int .i64 t.plane, .int .i64 t.cx, .int .i64 t.cy, .int .i64 t.cz, .int .i64 t.dir, .bool t.full, .int .i64 t.feed, .bool t.perrev, .int .i64 t.side, .int .i64 t.radius, .int .i64 t.blend, .int .i64 t.n, .int .i64 t.speed, .bool t.on] 27)) := by
    rintro _ _ _ _ rfl rfl rfl rfl
    exact ⟨by simp [List.forall_mem_cons, go_sem], by simp [List.forall_mem_cons, go_sem], by simp [List.forall_mem_cons] <;> omega, by simp, by (repeat (first | exact Below.refl _ _ | refine Below.alloc ?_ (by simp <;> omega) _)), by omega⟩
  have hT := hT 3 k d f hk hkk hdd hff
  rw [hkk] at pk
  clear hk hkk hdd hff
  have h17 : ¬ k = 17 := fun e => pk (Or.inl e)
  have h18 : ¬ k = 18 := fun e => pk (Or.inr (Or.inl e))
  have h19 : ¬ k = 19 := fun e => pk (Or.inr (Or.inr e))
  clear pk
  go_enter Try.func21, Try.ntmps21
  go_upto_region 1 with fail
  refine wp_cls (fun wr => ItC t w.heap.size wr ∧ Lf w.heap.size (w.heap.size + 1) [(⟨w.heap.size, 0, none⟩, .int .i64 3), (⟨w.heap.size, 2, none⟩, .int .i64 t.fx), (⟨w.heap.size, 3, none⟩, .int .i64 t.fy), (⟨w.heap.size, 4, none⟩, .int .i64 t.fz), (⟨w.heap.size, 5, none⟩, .int .i64 t.tx), (⟨w.heap.size, 6, none⟩, .int .i64 t.ty), (⟨w.heap.size, 7, none⟩, .int .i64 t.tz), (⟨w.heap.size, 8, none⟩, .int .i64 k), (⟨w.heap.size, 9, none⟩, .int .i64 t.cx), (⟨w.heap.size, 10, none⟩, .int .i64 t.cy), (⟨w.heap.size, 11, none⟩, .int .i64 t.cz), (⟨w.heap.size, 12, none⟩, .int .i64 d), (⟨w.heap.size, 13, none⟩, .bool f)] w wr) ⟨hI, hT⟩ ?_
  clear hT hI
  rintro w0 ⟨hI, hT⟩
  have kc := hT.cells
  have kf := hT.frz
  simp only [List.forall_mem_cons, List.not_mem_nil, false_implies, implies_true, and_true] at kc kf
  obtain ⟨yc0, yc1, yc2, yc3, yc4, yc5, yc6, yc7, yc8, yc9, yc10, yc11, yc12⟩ := kc
  obtain ⟨yf0, yf1, yf2, yf3, yf4, yf5, yf6, yf7, yf8, yf9, yf10, yf11, yf12⟩ := kf
  go_wp2_with fail
  refine (MO _).out.mono ?_
  rintro e w1 ⟨rfl, hb1⟩
  have hT := hT.next hb1
  have hI := hI.next hb1
  clear hb1 yc0 yf0 yc1 yf1 yc2 yf2 yc3 yf3 yc4 yf4 yc5 yf5 yc6 yf6 yc7 yf7 yc8 yf8 yc9 yf9 yc10 yf10 yc11 yf11 yc12 yf12
  have kc := hT.cells
  have kf := hT.frz
  simp only [List.forall_mem_cons, List.not_mem_nil, false_implies, implies_true, and_true] at kc kf
  obtain ⟨yc0, yc1, yc2, yc3, yc4, yc5, yc6, yc7, yc8, yc9, yc10, yc11, yc12⟩ := kc
  obtain ⟨yf0, yf1, yf2, yf3, yf4, yf5, yf6, yf7, yf8, yf9, yf10, yf11, yf12⟩ := kf
  go_wp2_with fail
  refine (WF _).out.mono ?_
  rintro e w1 ⟨rfl, hb1⟩
  have hT := hT.next hb1
  have hI := hI.next hb1
  clear hb1 yc0 yf0 yc1 yf1 yc2 yf2 yc3 yf3 yc4 yf4 yc5 yf5 yc6 yf6 yc7 yf7 yc8 yf8 yc9 yf9 yc10 yf10 yc11 yf11 yc12 yf12
  have kc := hT.cells
  have kf := hT.frz
  simp only [List.forall_mem_cons, List.not_mem_nil, false_implies, implies_true, and_true] at kc kf
  obtain ⟨yc0, yc1, yc2, yc3, yc4, yc5, yc6, yc7, yc8, yc9, yc10, yc11, yc12⟩ := kc
  obtain ⟨yf0, yf1, yf2, yf3, yf4, yf5, yf6, yf7, yf8, yf9, yf10, yf11, yf12⟩ := kf
  go_wp2_with fail
  refine (WT _).out.mono ?_
  rintro e w1 ⟨rfl, hb1⟩
  have hT := hT.next hb1
  have hI := hI.next hb1
  clear hb1 yc0 yf0 yc1 yf1 yc2 yf2 yc3 yf3 yc4 yf4 yc5 yf5 yc6 yf6 yc7 yf7 yc8 yf8 yc9 yf9 yc10 yf10 yc11 yf11 yc12 yf12
  have kc := hT.cells
  have kf := hT.frz
  simp only [List.forall_mem_cons, List.not_mem_nil, false_implies, implies_true, and_true] at kc kf
  obtain ⟨yc0, yc1, yc2, yc3, yc4, yc5, yc6, yc7, yc8, yc9, yc10, yc11, yc12⟩ := kc
  obtain ⟨yf0, yf1, yf2, yf3, yf4, yf5, yf6, yf7, yf8, yf9, yf10, yf11, yf12⟩ := kf
  go_wp2_with fail
  go_ret
  exact ⟨by first | rfl | (simp; done) | (simp; omega), hT.be⟩
set_option maxHeartbeats 16000000 in
set_option maxRecDepth 40000 in
theorem VRf_dir (t : Itm) (w : World) (hk : t.kind = 3) (f1 : In 1048576 t.fx t.fy t.fz) (t1 : In 1048576 t.tx t.ty t.tz) (pk : PlK t.plane) (hd : ¬ (t.dir = 1 ∨ t.dir = -1)) :
    Calls Try.prog 21 #[.agg #[.int .i64 t.kind, .int .i64 t.block, .int .i64 t.fx, .int .i64 t.fy, .int .i64 t.fz, .int .i64 t.tx, .int .i64 t.ty, .int .i64 t.tz, .int .i64 t.plane, .int .i64 t.cx, .int .i64 t.cy, .int .i64 t.cz, .int .i64 t.dir, .bool t.full, .int .i64 t.feed, .bool t.perrev, .int .i64 t.side, .int .i64 t.radius, .int .i64 t.blend, .int .i64 t.n, .int .i64 t.speed, .bool t.on]] w fun e w' => e = .returned (.bool false) ∧ Below w.heap.size w w' := by
  have WF := fun w => Lib.hid (withinR_any t.fx t.fy t.fz w)
  have WT := fun w => Lib.hid (withinR_any t.tx t.ty t.tz w)
  have MO := fun w => Lib.hid (motion3 w)
  rw [smB_iff.2 f1] at WF
  rw [smB_iff.2 t1] at WT
  clear f1 t1
  have hI : ItC t w.heap.size (w.alloc (.cells #[.int .i64 t.kind, .int .i64 t.block, .int .i64 t.fx, .int .i64 t.fy, .int .i64 t.fz, .int .i64 t.tx, .int .i64 t.ty, .int .i64 t.tz, .int .i64 t.plane, .int .i64 t.cx, .int .i64 t.cy, .int .i64 t.cz, .int .i64 t.dir, .bool t.full, .int .i64 t.feed, .bool t.perrev, .int .i64 t.side, .int .i64 t.radius, .int .i64 t.blend, .int .i64 t.n, .int .i64 t.speed, .bool t.on] 27)) := ItC.fresh t w _ rfl
  obtain ⟨k, hkk⟩ : ∃ k, t.plane = k := ⟨_, rfl⟩
  obtain ⟨d, hdd⟩ : ∃ d, t.dir = d := ⟨_, rfl⟩
  obtain ⟨f, hff⟩ : ∃ f, t.full = f := ⟨_, rfl⟩
  have hT : ∀ (k0 p0 d0 : Int) (f0 : Bool), t.kind = k0 → t.plane = p0 → t.dir = d0 → t.full = f0 → Lf w.heap.size (w.heap.size + 1) [(⟨w.heap.size, 0, none⟩, .int .i64 k0), (⟨w.heap.size, 2, none⟩, .int .i64 t.fx), (⟨w.heap.size, 3, none⟩, .int .i64 t.fy), (⟨w.heap.size, 4, none⟩, .int .i64 t.fz), (⟨w.heap.size, 5, none⟩, .int .i64 t.tx), (⟨w.heap.size, 6, none⟩, .int .i64 t.ty), (⟨w.heap.size, 7, none⟩, .int .i64 t.tz), (⟨w.heap.size, 8, none⟩, .int .i64 p0), (⟨w.heap.size, 9, none⟩, .int .i64 t.cx), (⟨w.heap.size, 10, none⟩, .int .i64 t.cy), (⟨w.heap.size, 11, none⟩, .int .i64 t.cz), (⟨w.heap.size, 12, none⟩, .int .i64 d0), (⟨w.heap.size, 13, none⟩, .bool f0)] w (w.alloc (.cells #[.int .i64 t.kind, .int .i64 t.block, .int .i64 t.fx, .int .i64 t.fy, .int .i64 t.fz, .int .i64 t.tx, .int .i64 t.ty, .int .i64 t.tz, .int .i64 t.plane, .int .i64 t.cx, .int .i64 t.cy, .int .i64 t.cz, .int .i64 t.dir, .bool t.full, .int .i64 t.feed, .bool t.perrev, .int .i64 t.side, .int .i64 t.radius, .int .i64 t.blend, .int .i64 t.n, .int .i64 t.speed, .bool t.on] 27)) := by
    rintro _ _ _ _ rfl rfl rfl rfl
    exact ⟨by simp [List.forall_mem_cons, go_sem], by simp [List.forall_mem_cons, go_sem], by simp [List.forall_mem_cons] <;> omega, by simp, by (repeat (first | exact Below.refl _ _ | refine Below.alloc ?_ (by simp <;> omega) _)), by omega⟩
  have hT := hT 3 k d f hk hkk hdd hff
  rw [hkk] at pk
  rw [hdd] at hd
  clear hk hkk hdd hff
  have hd1 : ¬ d = 1 := fun e => hd (Or.inl e)
  have hd2 : ¬ d = -1 := fun e => hd (Or.inr e)
  clear hd
  go_enter Try.func21, Try.ntmps21
  go_upto_region 1 with fail
  refine wp_cls (fun wr => ItC t w.heap.size wr ∧ Lf w.heap.size (w.heap.size + 1) [(⟨w.heap.size, 0, none⟩, .int .i64 3), (⟨w.heap.size, 2, none⟩, .int .i64 t.fx), (⟨w.heap.size, 3, none⟩, .int .i64 t.fy), (⟨w.heap.size, 4, none⟩, .int .i64 t.fz), (⟨w.heap.size, 5, none⟩, .int .i64 t.tx), (⟨w.heap.size, 6, none⟩, .int .i64 t.ty), (⟨w.heap.size, 7, none⟩, .int .i64 t.tz), (⟨w.heap.size, 8, none⟩, .int .i64 k), (⟨w.heap.size, 9, none⟩, .int .i64 t.cx), (⟨w.heap.size, 10, none⟩, .int .i64 t.cy), (⟨w.heap.size, 11, none⟩, .int .i64 t.cz), (⟨w.heap.size, 12, none⟩, .int .i64 d), (⟨w.heap.size, 13, none⟩, .bool f)] w wr) ⟨hI, hT⟩ ?_
  clear hT hI
  rintro w0 ⟨hI, hT⟩
  have kc := hT.cells
  have kf := hT.frz
  simp only [List.forall_mem_cons, List.not_mem_nil, false_implies, implies_true, and_true] at kc kf
  obtain ⟨yc0, yc1, yc2, yc3, yc4, yc5, yc6, yc7, yc8, yc9, yc10, yc11, yc12⟩ := kc
  obtain ⟨yf0, yf1, yf2, yf3, yf4, yf5, yf6, yf7, yf8, yf9, yf10, yf11, yf12⟩ := kf
  go_wp2_with fail
  refine (MO _).out.mono ?_
  rintro e w1 ⟨rfl, hb1⟩
  have hT := hT.next hb1
  have hI := hI.next hb1
  clear hb1 yc0 yf0 yc1 yf1 yc2 yf2 yc3 yf3 yc4 yf4 yc5 yf5 yc6 yf6 yc7 yf7 yc8 yf8 yc9 yf9 yc10 yf10 yc11 yf11 yc12 yf12
  have kc := hT.cells
  have kf := hT.frz
  simp only [List.forall_mem_cons, List.not_mem_nil, false_implies, implies_true, and_true] at kc kf
  obtain ⟨yc0, yc1, yc2, yc3, yc4, yc5, yc6, yc7, yc8, yc9, yc10, yc11, yc12⟩ := kc
  obtain ⟨yf0, yf1, yf2, yf3, yf4, yf5, yf6, yf7, yf8, yf9, yf10, yf11, yf12⟩ := kf
  go_wp2_with fail
  refine (WF _).out.mono ?_
  rintro e w1 ⟨rfl, hb1⟩
  have hT := hT.next hb1
  have hI := hI.next hb1
  clear hb1 yc0 yf0 yc1 yf1 yc2 yf2 yc3 yf3 yc4 yf4 yc5 yf5 yc6 yf6 yc7 yf7 yc8 yf8 yc9 yf9 yc10 yf10 yc11 yf11 yc12 yf12
  have kc := hT.cells
  have kf := hT.frz
  simp only [List.forall_mem_cons, List.not_mem_nil, false_implies, implies_true, and_true] at kc kf
  obtain ⟨yc0, yc1, yc2, yc3, yc4, yc5, yc6, yc7, yc8, yc9, yc10, yc11, yc12⟩ := kc
  obtain ⟨yf0, yf1, yf2, yf3, yf4, yf5, yf6, yf7, yf8, yf9, yf10, yf11, yf12⟩ := kf
  go_wp2_with fail
  refine (WT _).out.mono ?_
  rintro e w1 ⟨rfl, hb1⟩
  have hT := hT.next hb1
  have hI := hI.next hb1
  clear hb1 yc0 yf0 yc1 yf1 yc2 yf2 yc3 yf3 yc4 yf4 yc5 yf5 yc6 yf6 yc7 yf7 yc8 yf8 yc9 yf9 yc10 yf10 yc11 yf11 yc12 yf12
  have kc := hT.cells
  have kf := hT.frz
  simp only [List.forall_mem_cons, List.not_mem_nil, false_implies, implies_true, and_true] at kc kf
  obtain ⟨yc0, yc1, yc2, yc3, yc4, yc5, yc6, yc7, yc8, yc9, yc10, yc11, yc12⟩ := kc
  obtain ⟨yf0, yf1, yf2, yf3, yf4, yf5, yf6, yf7, yf8, yf9, yf10, yf11, yf12⟩ := kf
  rcases pk with rfl | rfl | rfl
  · go_wp2_with fail
    go_ret
    exact ⟨by first | rfl | (simp; done) | (simp; omega), hT.be⟩
  · go_wp2_with fail
    go_ret
    exact ⟨by first | rfl | (simp; done) | (simp; omega), hT.be⟩
  · go_wp2_with fail
    go_ret
    exact ⟨by first | rfl | (simp; done) | (simp; omega), hT.be⟩
set_option maxHeartbeats 16000000 in
set_option maxRecDepth 40000 in
theorem VRf_cen (t : Itm) (w : World) (hk : t.kind = 3) (f1 : In 1048576 t.fx t.fy t.fz) (t1 : In 1048576 t.tx t.ty t.tz) (pk : PlK t.plane) (hd : t.dir = 1 ∨ t.dir = -1) (c1 : smB 1048576 t.cx t.cy t.cz = false) :
    Calls Try.prog 21 #[.agg #[.int .i64 t.kind, .int .i64 t.block, .int .i64 t.fx, .int .i64 t.fy, .int .i64 t.fz, .int .i64 t.tx, .int .i64 t.ty, .int .i64 t.tz, .int .i64 t.plane, .int .i64 t.cx, .int .i64 t.cy, .int .i64 t.cz, .int .i64 t.dir, .bool t.full, .int .i64 t.feed, .bool t.perrev, .int .i64 t.side, .int .i64 t.radius, .int .i64 t.blend, .int .i64 t.n, .int .i64 t.speed, .bool t.on]] w fun e w' => e = .returned (.bool false) ∧ Below w.heap.size w w' := by
  have WF := fun w => Lib.hid (withinR_any t.fx t.fy t.fz w)
  have WT := fun w => Lib.hid (withinR_any t.tx t.ty t.tz w)
  have MO := fun w => Lib.hid (motion3 w)
  rw [smB_iff.2 f1] at WF
  rw [smB_iff.2 t1] at WT
  clear f1 t1
  have WC := fun w => Lib.hid (withinR_any t.cx t.cy t.cz w)
  rw [c1] at WC
  clear c1
  have hI : ItC t w.heap.size (w.alloc (.cells #[.int .i64 t.kind, .int .i64 t.block, .int .i64 t.fx, .int .i64 t.fy, .int .i64 t.fz, .int .i64 t.tx, .int .i64 t.ty, .int .i64 t.tz, .int .i64 t.plane, .int .i64 t.cx, .int .i64 t.cy, .int .i64 t.cz, .int .i64 t.dir, .bool t.full, .int .i64 t.feed, .bool t.perrev, .int .i64 t.side, .int .i64 t.radius, .int .i64 t.blend, .int .i64 t.n, .int .i64 t.speed, .bool t.on] 27)) := ItC.fresh t w _ rfl
  obtain ⟨k, hkk⟩ : ∃ k, t.plane = k := ⟨_, rfl⟩
  obtain ⟨d, hdd⟩ : ∃ d, t.dir = d := ⟨_, rfl⟩
  obtain ⟨f, hff⟩ : ∃ f, t.full = f := ⟨_, rfl⟩
  have hT : ∀ (k0 p0 d0 : Int) (f0 : Bool), t.kind = k0 → t.plane = p0 → t.dir = d0 → t.full = f0 → Lf w.heap.size (w.heap.size + 1) [(⟨w.heap.size, 0, none⟩, .int .i64 k0), (⟨w.heap.size, 2, none⟩, .int .i64 t.fx), (⟨w.heap.size, 3, none⟩, .int .i64 t.fy), (⟨w.heap.size, 4, none⟩, .int .i64 t.fz), (⟨w.heap.size, 5, none⟩, .int .i64 t.tx), (⟨w.heap.size, 6, none⟩, .int .i64 t.ty), (⟨w.heap.size, 7, none⟩, .int .i64 t.tz), (⟨w.heap.size, 8, none⟩, .int .i64 p0), (⟨w.heap.size, 9, none⟩, .int .i64 t.cx), (⟨w.heap.size, 10, none⟩, .int .i64 t.cy), (⟨w.heap.size, 11, none⟩, .int .i64 t.cz), (⟨w.heap.size, 12, none⟩, .int .i64 d0), (⟨w.heap.size, 13, none⟩, .bool f0)] w (w.alloc (.cells #[.int .i64 t.kind, .int .i64 t.block, .int .i64 t.fx, .int .i64 t.fy, .int .i64 t.fz, .int .i64 t.tx, .int .i64 t.ty, .int .i64 t.tz, .int .i64 t.plane, .int .i64 t.cx, .int .i64 t.cy, .int .i64 t.cz, .int .i64 t.dir, .bool t.full, .int .i64 t.feed, .bool t.perrev, .int .i64 t.side, .int .i64 t.radius, .int .i64 t.blend, .int .i64 t.n, .int .i64 t.speed, .bool t.on] 27)) := by
    rintro _ _ _ _ rfl rfl rfl rfl
    exact ⟨by simp [List.forall_mem_cons, go_sem], by simp [List.forall_mem_cons, go_sem], by simp [List.forall_mem_cons] <;> omega, by simp, by (repeat (first | exact Below.refl _ _ | refine Below.alloc ?_ (by simp <;> omega) _)), by omega⟩
  have hT := hT 3 k d f hk hkk hdd hff
  rw [hkk] at pk
  rw [hdd] at hd
  clear hk hkk hdd hff
  go_enter Try.func21, Try.ntmps21
  go_upto_region 1 with fail
  refine wp_cls (fun wr => ItC t w.heap.size wr ∧ Lf w.heap.size (w.heap.size + 1) [(⟨w.heap.size, 0, none⟩, .int .i64 3), (⟨w.heap.size, 2, none⟩, .int .i64 t.fx), (⟨w.heap.size, 3, none⟩, .int .i64 t.fy), (⟨w.heap.size, 4, none⟩, .int .i64 t.fz), (⟨w.heap.size, 5, none⟩, .int .i64 t.tx), (⟨w.heap.size, 6, none⟩, .int .i64 t.ty), (⟨w.heap.size, 7, none⟩, .int .i64 t.tz), (⟨w.heap.size, 8, none⟩, .int .i64 k), (⟨w.heap.size, 9, none⟩, .int .i64 t.cx), (⟨w.heap.size, 10, none⟩, .int .i64 t.cy), (⟨w.heap.size, 11, none⟩, .int .i64 t.cz), (⟨w.heap.size, 12, none⟩, .int .i64 d), (⟨w.heap.size, 13, none⟩, .bool f)] w wr) ⟨hI, hT⟩ ?_
  clear hT hI
  rintro w0 ⟨hI, hT⟩
  have kc := hT.cells
  have kf := hT.frz
  simp only [List.forall_mem_cons, List.not_mem_nil, false_implies, implies_true, and_true] at kc kf
  obtain ⟨yc0, yc1, yc2, yc3, yc4, yc5, yc6, yc7, yc8, yc9, yc10, yc11, yc12⟩ := kc
  obtain ⟨yf0, yf1, yf2, yf3, yf4, yf5, yf6, yf7, yf8, yf9, yf10, yf11, yf12⟩ := kf
  go_wp2_with fail
  refine (MO _).out.mono ?_
  rintro e w1 ⟨rfl, hb1⟩
  have hT := hT.next hb1
  have hI := hI.next hb1
  clear hb1 yc0 yf0 yc1 yf1 yc2 yf2 yc3 yf3 yc4 yf4 yc5 yf5 yc6 yf6 yc7 yf7 yc8 yf8 yc9 yf9 yc10 yf10 yc11 yf11 yc12 yf12
  have kc := hT.cells
  have kf := hT.frz
  simp only [List.forall_mem_cons, List.not_mem_nil, false_implies, implies_true, and_true] at kc kf
  obtain ⟨yc0, yc1, yc2, yc3, yc4, yc5, yc6, yc7, yc8, yc9, yc10, yc11, yc12⟩ := kc
  obtain ⟨yf0, yf1, yf2, yf3, yf4, yf5, yf6, yf7, yf8, yf9, yf10, yf11, yf12⟩ := kf
  go_wp2_with fail
  refine (WF _).out.mono ?_
  rintro e w1 ⟨rfl, hb1⟩
  have hT := hT.next hb1
  have hI := hI.next hb1
  clear hb1 yc0 yf0 yc1 yf1 yc2 yf2 yc3 yf3 yc4 yf4 yc5 yf5 yc6 yf6 yc7 yf7 yc8 yf8 yc9 yf9 yc10 yf10 yc11 yf11 yc12 yf12
  have kc := hT.cells
  have kf := hT.frz
  simp only [List.forall_mem_cons, List.not_mem_nil, false_implies, implies_true, and_true] at kc kf
  obtain ⟨yc0, yc1, yc2, yc3, yc4, yc5, yc6, yc7, yc8, yc9, yc10, yc11, yc12⟩ := kc
  obtain ⟨yf0, yf1, yf2, yf3, yf4, yf5, yf6, yf7, yf8, yf9, yf10, yf11, yf12⟩ := kf
  go_wp2_with fail
  refine (WT _).out.mono ?_
  rintro e w1 ⟨rfl, hb1⟩
  have hT := hT.next hb1
  have hI := hI.next hb1
  clear hb1 yc0 yf0 yc1 yf1 yc2 yf2 yc3 yf3 yc4 yf4 yc5 yf5 yc6 yf6 yc7 yf7 yc8 yf8 yc9 yf9 yc10 yf10 yc11 yf11 yc12 yf12
  have kc := hT.cells
  have kf := hT.frz
  simp only [List.forall_mem_cons, List.not_mem_nil, false_implies, implies_true, and_true] at kc kf
  obtain ⟨yc0, yc1, yc2, yc3, yc4, yc5, yc6, yc7, yc8, yc9, yc10, yc11, yc12⟩ := kc
  obtain ⟨yf0, yf1, yf2, yf3, yf4, yf5, yf6, yf7, yf8, yf9, yf10, yf11, yf12⟩ := kf
  rcases pk with rfl | rfl | rfl <;> rcases hd with rfl | rfl
  all_goals
    go_wp2_with fail
    refine (WC _).out.mono ?_
    rintro e w1 ⟨rfl, hb1⟩
    have hT := hT.next hb1
    go_wp2_with fail
    go_ret
    exact ⟨by first | rfl | (simp; done) | (simp; omega), hT.be⟩
set_option maxHeartbeats 16000000 in
set_option maxRecDepth 40000 in
theorem VRf_x (t : Itm) (w : World) (hk : t.kind = 3) (f1 : In 1048576 t.fx t.fy t.fz) (t1 : In 1048576 t.tx t.ty t.tz) (ht : t.Pos) (hd : t.dir = 1 ∨ t.dir = -1) (hx : t.aU * t.aU + t.aW * t.aW < 64) :
    Calls Try.prog 21 #[.agg #[.int .i64 t.kind, .int .i64 t.block, .int .i64 t.fx, .int .i64 t.fy, .int .i64 t.fz, .int .i64 t.tx, .int .i64 t.ty, .int .i64 t.tz, .int .i64 t.plane, .int .i64 t.cx, .int .i64 t.cy, .int .i64 t.cz, .int .i64 t.dir, .bool t.full, .int .i64 t.feed, .bool t.perrev, .int .i64 t.side, .int .i64 t.radius, .int .i64 t.blend, .int .i64 t.n, .int .i64 t.speed, .bool t.on]] w fun e w' => e = .returned (.bool false) ∧ Below w.heap.size w w' := by
  have WF := fun w => Lib.hid (withinR_any t.fx t.fy t.fz w)
  have WT := fun w => Lib.hid (withinR_any t.tx t.ty t.tz w)
  have MO := fun w => Lib.hid (motion3 w)
  rw [smB_iff.2 f1] at WF
  rw [smB_iff.2 t1] at WT
  clear f1 t1
  have EN := fun w => Lib.hid (endsR_any t w ht)
  obtain ⟨ha1, ha2, ha3, hb1, hb2, hb3⟩ := ht.bd
  have pk := ht.pk
  have WC := fun w => Lib.hid (withinR_any t.cx t.cy t.cz w)
  rw [smB_iff.2 ht.pc] at WC
  clear ht
  have q1 := bd21 ha1
  have q2 := bd21 ha2
  have q3 := bd21 hb1
  have q4 := bd21 hb2
  have DA := fun w => Lib.hid (dotR_any t.aU t.aW 0 t.aH t.aU t.aW 0 t.aH w ⟨⟨by omega, by omega⟩, by omega, by omega⟩ ⟨⟨by omega, by omega⟩, by omega, by omega⟩)
  have DB := fun w => Lib.hid (dotR_any t.bU t.bW 0 t.bH t.bU t.bW 0 t.bH w ⟨⟨by omega, by omega⟩, by omega, by omega⟩ ⟨⟨by omega, by omega⟩, by omega, by omega⟩)
  have hxb : t.aU * t.aU + t.aW * t.aW ≤ 8796093022208 := by omega
  have hyb : t.bU * t.bU + t.bW * t.bW ≤ 8796093022208 := by omega
  clear q1 q2 q3 q4
  generalize t.aU * t.aU + t.aW * t.aW = x at *
  generalize t.bU * t.bU + t.bW * t.bW = y at *
  generalize t.aU = aU at *
  generalize t.aW = aW at *
  generalize t.aH = aH at *
  generalize t.bU = bU at *
  generalize t.bW = bW at *
  generalize t.bH = bH at *
  have hI : ItC t w.heap.size (w.alloc (.cells #[.int .i64 t.kind, .int .i64 t.block, .int .i64 t.fx, .int .i64 t.fy, .int .i64 t.fz, .int .i64 t.tx, .int .i64 t.ty, .int .i64 t.tz, .int .i64 t.plane, .int .i64 t.cx, .int .i64 t.cy, .int .i64 t.cz, .int .i64 t.dir, .bool t.full, .int .i64 t.feed, .bool t.perrev, .int .i64 t.side, .int .i64 t.radius, .int .i64 t.blend, .int .i64 t.n, .int .i64 t.speed, .bool t.on] 27)) := ItC.fresh t w _ rfl
  obtain ⟨k, hkk⟩ : ∃ k, t.plane = k := ⟨_, rfl⟩
  obtain ⟨d, hdd⟩ : ∃ d, t.dir = d := ⟨_, rfl⟩
  obtain ⟨f, hff⟩ : ∃ f, t.full = f := ⟨_, rfl⟩
  have hT : ∀ (k0 p0 d0 : Int) (f0 : Bool), t.kind = k0 → t.plane = p0 → t.dir = d0 → t.full = f0 → Lf w.heap.size (w.heap.size + 1) [(⟨w.heap.size, 0, none⟩, .int .i64 k0), (⟨w.heap.size, 2, none⟩, .int .i64 t.fx), (⟨w.heap.size, 3, none⟩, .int .i64 t.fy), (⟨w.heap.size, 4, none⟩, .int .i64 t.fz), (⟨w.heap.size, 5, none⟩, .int .i64 t.tx), (⟨w.heap.size, 6, none⟩, .int .i64 t.ty), (⟨w.heap.size, 7, none⟩, .int .i64 t.tz), (⟨w.heap.size, 8, none⟩, .int .i64 p0), (⟨w.heap.size, 9, none⟩, .int .i64 t.cx), (⟨w.heap.size, 10, none⟩, .int .i64 t.cy), (⟨w.heap.size, 11, none⟩, .int .i64 t.cz), (⟨w.heap.size, 12, none⟩, .int .i64 d0), (⟨w.heap.size, 13, none⟩, .bool f0)] w (w.alloc (.cells #[.int .i64 t.kind, .int .i64 t.block, .int .i64 t.fx, .int .i64 t.fy, .int .i64 t.fz, .int .i64 t.tx, .int .i64 t.ty, .int .i64 t.tz, .int .i64 t.plane, .int .i64 t.cx, .int .i64 t.cy, .int .i64 t.cz, .int .i64 t.dir, .bool t.full, .int .i64 t.feed, .bool t.perrev, .int .i64 t.side, .int .i64 t.radius, .int .i64 t.blend, .int .i64 t.n, .int .i64 t.speed, .bool t.on] 27)) := by
    rintro _ _ _ _ rfl rfl rfl rfl
    exact ⟨by simp [List.forall_mem_cons, go_sem], by simp [List.forall_mem_cons, go_sem], by simp [List.forall_mem_cons] <;> omega, by simp, by (repeat (first | exact Below.refl _ _ | refine Below.alloc ?_ (by simp <;> omega) _)), by omega⟩
  have hT := hT 3 k d f hk hkk hdd hff
  rw [hkk] at pk
  rw [hdd] at hd
  clear hk hkk hdd hff ha1 ha2 ha3 hb1 hb2 hb3
  go_enter Try.func21, Try.ntmps21
  go_upto_region 1 with fail
  refine wp_cls (fun wr => ItC t w.heap.size wr ∧ Lf w.heap.size (w.heap.size + 1) [(⟨w.heap.size, 0, none⟩, .int .i64 3), (⟨w.heap.size, 2, none⟩, .int .i64 t.fx), (⟨w.heap.size, 3, none⟩, .int .i64 t.fy), (⟨w.heap.size, 4, none⟩, .int .i64 t.fz), (⟨w.heap.size, 5, none⟩, .int .i64 t.tx), (⟨w.heap.size, 6, none⟩, .int .i64 t.ty), (⟨w.heap.size, 7, none⟩, .int .i64 t.tz), (⟨w.heap.size, 8, none⟩, .int .i64 k), (⟨w.heap.size, 9, none⟩, .int .i64 t.cx), (⟨w.heap.size, 10, none⟩, .int .i64 t.cy), (⟨w.heap.size, 11, none⟩, .int .i64 t.cz), (⟨w.heap.size, 12, none⟩, .int .i64 d), (⟨w.heap.size, 13, none⟩, .bool f)] w wr) ⟨hI, hT⟩ ?_
  clear hT hI
  rintro w0 ⟨hI, hT⟩
  have kc := hT.cells
  have kf := hT.frz
  simp only [List.forall_mem_cons, List.not_mem_nil, false_implies, implies_true, and_true] at kc kf
  obtain ⟨yc0, yc1, yc2, yc3, yc4, yc5, yc6, yc7, yc8, yc9, yc10, yc11, yc12⟩ := kc
  obtain ⟨yf0, yf1, yf2, yf3, yf4, yf5, yf6, yf7, yf8, yf9, yf10, yf11, yf12⟩ := kf
  go_wp2_with fail
  refine (MO _).out.mono ?_
  rintro e w1 ⟨rfl, hb1⟩
  have hT := hT.next hb1
  have hI := hI.next hb1
  clear hb1 yc0 yf0 yc1 yf1 yc2 yf2 yc3 yf3 yc4 yf4 yc5 yf5 yc6 yf6 yc7 yf7 yc8 yf8 yc9 yf9 yc10 yf10 yc11 yf11 yc12 yf12
  have kc := hT.cells
  have kf := hT.frz
  simp only [List.forall_mem_cons, List.not_mem_nil, false_implies, implies_true, and_true] at kc kf
  obtain ⟨yc0, yc1, yc2, yc3, yc4, yc5, yc6, yc7, yc8, yc9, yc10, yc11, yc12⟩ := kc
  obtain ⟨yf0, yf1, yf2, yf3, yf4, yf5, yf6, yf7, yf8, yf9, yf10, yf11, yf12⟩ := kf
  go_wp2_with fail
  refine (WF _).out.mono ?_
  rintro e w1 ⟨rfl, hb1⟩
  have hT := hT.next hb1
  have hI := hI.next hb1
  clear hb1 yc0 yf0 yc1 yf1 yc2 yf2 yc3 yf3 yc4 yf4 yc5 yf5 yc6 yf6 yc7 yf7 yc8 yf8 yc9 yf9 yc10 yf10 yc11 yf11 yc12 yf12
  have kc := hT.cells
  have kf := hT.frz
  simp only [List.forall_mem_cons, List.not_mem_nil, false_implies, implies_true, and_true] at kc kf
  obtain ⟨yc0, yc1, yc2, yc3, yc4, yc5, yc6, yc7, yc8, yc9, yc10, yc11, yc12⟩ := kc
  obtain ⟨yf0, yf1, yf2, yf3, yf4, yf5, yf6, yf7, yf8, yf9, yf10, yf11, yf12⟩ := kf
  go_wp2_with fail
  refine (WT _).out.mono ?_
  rintro e w1 ⟨rfl, hb1⟩
  have hT := hT.next hb1
  have hI := hI.next hb1
  clear hb1 yc0 yf0 yc1 yf1 yc2 yf2 yc3 yf3 yc4 yf4 yc5 yf5 yc6 yf6 yc7 yf7 yc8 yf8 yc9 yf9 yc10 yf10 yc11 yf11 yc12 yf12
  have kc := hT.cells
  have kf := hT.frz
  simp only [List.forall_mem_cons, List.not_mem_nil, false_implies, implies_true, and_true] at kc kf
  obtain ⟨yc0, yc1, yc2, yc3, yc4, yc5, yc6, yc7, yc8, yc9, yc10, yc11, yc12⟩ := kc
  obtain ⟨yf0, yf1, yf2, yf3, yf4, yf5, yf6, yf7, yf8, yf9, yf10, yf11, yf12⟩ := kf
  go_upto_region 5 with fail
  go_cut [55] (fun s wx => s = .bool false ∧ ItC t w.heap.size wx ∧ Lf w.heap.size (w.heap.size + 1) [(⟨w.heap.size, 0, none⟩, .int .i64 3), (⟨w.heap.size, 2, none⟩, .int .i64 t.fx), (⟨w.heap.size, 3, none⟩, .int .i64 t.fy), (⟨w.heap.size, 4, none⟩, .int .i64 t.fz), (⟨w.heap.size, 5, none⟩, .int .i64 t.tx), (⟨w.heap.size, 6, none⟩, .int .i64 t.ty), (⟨w.heap.size, 7, none⟩, .int .i64 t.tz), (⟨w.heap.size, 8, none⟩, .int .i64 k), (⟨w.heap.size, 9, none⟩, .int .i64 t.cx), (⟨w.heap.size, 10, none⟩, .int .i64 t.cy), (⟨w.heap.size, 11, none⟩, .int .i64 t.cz), (⟨w.heap.size, 12, none⟩, .int .i64 d), (⟨w.heap.size, 13, none⟩, .bool f)] w wx)
  case first =>
    rcases pk with rfl | rfl | rfl <;> rcases hd with rfl | rfl
    all_goals
      go_wp2_with fail
      refine (WC _).out.mono ?_
      rintro e w1 ⟨rfl, hb1⟩
      have hT := hT.next hb1
      have hI := hI.next hb1
      clear hb1 yc0 yf0 yc1 yf1 yc2 yf2 yc3 yf3 yc4 yf4 yc5 yf5 yc6 yf6 yc7 yf7 yc8 yf8 yc9 yf9 yc10 yf10 yc11 yf11 yc12 yf12
      go_wp2_with fail
      go_meet
      exact ⟨rfl, hI, hT⟩
  case rest =>
    obtain ⟨rfl, hI, hT⟩ := hcut
    clear WC pk hd
    go_wp2_with (refine wpList_load_g (by rfl) 27 (.tmp 1) rfl w.heap.size 0 rfl (itL t) _ hI.rg Try.underlying27 rfl (by kernel_rfl) ?_)
    refine (EN _).out.mono ?_
    rintro e w2 ⟨rfl, hb1⟩
    have hT := hT.next hb1
    clear hb1 hI
    have hlw := hT.lt
    have hV := (hT.pushg w2.heap.size #[.int .i64 aU, .int .i64 aW, .int .i64 0, .int .i64 aH] 34 rfl).pushg (w2.heap.size + 1) #[.int .i64 bU, .int .i64 bW, .int .i64 0, .int .i64 bH] 34 (by simp)
    have hV := hV.sub (ds := [(⟨w.heap.size, 13, none⟩, .bool f), (⟨w2.heap.size, 0, none⟩, .int .i64 aU), (⟨w2.heap.size, 1, none⟩, .int .i64 aW), (⟨w2.heap.size, 2, none⟩, .int .i64 0), (⟨w2.heap.size, 3, none⟩, .int .i64 aH), (⟨(w2.heap.size + 1), 0, none⟩, .int .i64 bU), (⟨(w2.heap.size + 1), 1, none⟩, .int .i64 bW), (⟨(w2.heap.size + 1), 2, none⟩, .int .i64 0), (⟨(w2.heap.size + 1), 3, none⟩, .int .i64 bH)]) (by simp [blk])
    clear hT
    go_upto_region 8 with fail
    generalize w2.heap.size = g at *
    (refine wp_region_class (Lf w.heap.size (g + 1 + 1) [(⟨w.heap.size, 13, none⟩, .bool f), (⟨g, 0, none⟩, .int .i64 aU), (⟨g, 1, none⟩, .int .i64 aW), (⟨g, 2, none⟩, .int .i64 0), (⟨g, 3, none⟩, .int .i64 aH), (⟨(g + 1), 0, none⟩, .int .i64 bU), (⟨(g + 1), 1, none⟩, .int .i64 bW), (⟨(g + 1), 2, none⟩, .int .i64 0), (⟨(g + 1), 3, none⟩, .int .i64 bH)] w) (hV.next (Below.refl _ _).drew) (by kernel_rfl) (by kernel_rfl) ?_; repeat (refine wpQuiet_step (fun qK9 qH9 => ?_); go_simp; first | (refine qH9 _ ?_; clear qH9 qK9) | (apply Exists.intro; refine ⟨?_, qH9 _ ?_⟩; (first | (intros; rfl) | (first | (intro wx hC; ((have qk9 := (hC).cells; simp only [List.forall_mem_cons, List.not_mem_nil, false_implies, implies_true, and_true] at qk9; repeat (obtain ⟨qk8, qk9⟩ := qk9)); go_simp; first | done | rfl)) | (intro wx hC; with_reducible exact Calls.lays (DA wx).out (fun _ => hC.next)) | (intro wx hC; with_reducible exact Calls.lays (DB wx).out (fun _ => hC.next)))); clear qH9 qK9)))
    refine wpQuiet_nil ?_
    clear hV
    intro w4 hT
    have kc := hT.cells
    have kf := hT.frz
    simp only [List.forall_mem_cons, List.not_mem_nil, false_implies, implies_true, and_true] at kc kf
    obtain ⟨yc0, yc1, yc2, yc3, yc4, yc5, yc6, yc7, yc8⟩ := kc
    obtain ⟨yf0, yf1, yf2, yf3, yf4, yf5, yf6, yf7, yf8⟩ := kf
    go_wp2_with fail
    go_ret
    exact ⟨by first | rfl | (simp; done) | (simp; omega), hT.be⟩
set_option maxHeartbeats 16000000 in
set_option maxRecDepth 40000 in
theorem VRf_y (t : Itm) (w : World) (hk : t.kind = 3) (f1 : In 1048576 t.fx t.fy t.fz) (t1 : In 1048576 t.tx t.ty t.tz) (ht : t.Pos) (hd : t.dir = 1 ∨ t.dir = -1) (hx : 64 ≤ t.aU * t.aU + t.aW * t.aW) (hy : t.bU * t.bU + t.bW * t.bW < 64) :
    Calls Try.prog 21 #[.agg #[.int .i64 t.kind, .int .i64 t.block, .int .i64 t.fx, .int .i64 t.fy, .int .i64 t.fz, .int .i64 t.tx, .int .i64 t.ty, .int .i64 t.tz, .int .i64 t.plane, .int .i64 t.cx, .int .i64 t.cy, .int .i64 t.cz, .int .i64 t.dir, .bool t.full, .int .i64 t.feed, .bool t.perrev, .int .i64 t.side, .int .i64 t.radius, .int .i64 t.blend, .int .i64 t.n, .int .i64 t.speed, .bool t.on]] w fun e w' => e = .returned (.bool false) ∧ Below w.heap.size w w' := by
  have WF := fun w => Lib.hid (withinR_any t.fx t.fy t.fz w)
  have WT := fun w => Lib.hid (withinR_any t.tx t.ty t.tz w)
  have MO := fun w => Lib.hid (motion3 w)
  rw [smB_iff.2 f1] at WF
  rw [smB_iff.2 t1] at WT
  clear f1 t1
  have EN := fun w => Lib.hid (endsR_any t w ht)
  obtain ⟨ha1, ha2, ha3, hb1, hb2, hb3⟩ := ht.bd
  have pk := ht.pk
  have WC := fun w => Lib.hid (withinR_any t.cx t.cy t.cz w)
  rw [smB_iff.2 ht.pc] at WC
  clear ht
  have q1 := bd21 ha1
  have q2 := bd21 ha2
  have q3 := bd21 hb1
  have q4 := bd21 hb2
  have DA := fun w => Lib.hid (dotR_any t.aU t.aW 0 t.aH t.aU t.aW 0 t.aH w ⟨⟨by omega, by omega⟩, by omega, by omega⟩ ⟨⟨by omega, by omega⟩, by omega, by omega⟩)
  have DB := fun w => Lib.hid (dotR_any t.bU t.bW 0 t.bH t.bU t.bW 0 t.bH w ⟨⟨by omega, by omega⟩, by omega, by omega⟩ ⟨⟨by omega, by omega⟩, by omega, by omega⟩)
  have hxb : t.aU * t.aU + t.aW * t.aW ≤ 8796093022208 := by omega
  have hyb : t.bU * t.bU + t.bW * t.bW ≤ 8796093022208 := by omega
  clear q1 q2 q3 q4
  generalize t.aU * t.aU + t.aW * t.aW = x at *
  generalize t.bU * t.bU + t.bW * t.bW = y at *
  generalize t.aU = aU at *
  generalize t.aW = aW at *
  generalize t.aH = aH at *
  generalize t.bU = bU at *
  generalize t.bW = bW at *
  generalize t.bH = bH at *
  have hI : ItC t w.heap.size (w.alloc (.cells #[.int .i64 t.kind, .int .i64 t.block, .int .i64 t.fx, .int .i64 t.fy, .int .i64 t.fz, .int .i64 t.tx, .int .i64 t.ty, .int .i64 t.tz, .int .i64 t.plane, .int .i64 t.cx, .int .i64 t.cy, .int .i64 t.cz, .int .i64 t.dir, .bool t.full, .int .i64 t.feed, .bool t.perrev, .int .i64 t.side, .int .i64 t.radius, .int .i64 t.blend, .int .i64 t.n, .int .i64 t.speed, .bool t.on] 27)) := ItC.fresh t w _ rfl
  obtain ⟨k, hkk⟩ : ∃ k, t.plane = k := ⟨_, rfl⟩
  obtain ⟨d, hdd⟩ : ∃ d, t.dir = d := ⟨_, rfl⟩
  obtain ⟨f, hff⟩ : ∃ f, t.full = f := ⟨_, rfl⟩
  have hT : ∀ (k0 p0 d0 : Int) (f0 : Bool), t.kind = k0 → t.plane = p0 → t.dir = d0 → t.full = f0 → Lf w.heap.size (w.heap.size + 1) [(⟨w.heap.size, 0, none⟩, .int .i64 k0), (⟨w.heap.size, 2, none⟩, .int .i64 t.fx), (⟨w.heap.size, 3, none⟩, .int .i64 t.fy), (⟨w.heap.size, 4, none⟩, .int .i64 t.fz), (⟨w.heap.size, 5, none⟩, .int .i64 t.tx), (⟨w.heap.size, 6, none⟩, .int .i64 t.ty), (⟨w.heap.size, 7, none⟩, .int .i64 t.tz), (⟨w.heap.size, 8, none⟩, .int .i64 p0), (⟨w.heap.size, 9, none⟩, .int .i64 t.cx), (⟨w.heap.size, 10, none⟩, .int .i64 t.cy), (⟨w.heap.size, 11, none⟩, .int .i64 t.cz), (⟨w.heap.size, 12, none⟩, .int .i64 d0), (⟨w.heap.size, 13, none⟩, .bool f0)] w (w.alloc (.cells #[.int .i64 t.kind, .int .i64 t.block, .int .i64 t.fx, .int .i64 t.fy, .int .i64 t.fz, .int .i64 t.tx, .int .i64 t.ty, .int .i64 t.tz, .int .i64 t.plane, .int .i64 t.cx, .int .i64 t.cy, .int .i64 t.cz, .int .i64 t.dir, .bool t.full, .int .i64 t.feed, .bool t.perrev, .int .i64 t.side, .int .i64 t.radius, .int .i64 t.blend, .int .i64 t.n, .int .i64 t.speed, .bool t.on] 27)) := by
    rintro _ _ _ _ rfl rfl rfl rfl
    exact ⟨by simp [List.forall_mem_cons, go_sem], by simp [List.forall_mem_cons, go_sem], by simp [List.forall_mem_cons] <;> omega, by simp, by (repeat (first | exact Below.refl _ _ | refine Below.alloc ?_ (by simp <;> omega) _)), by omega⟩
  have hT := hT 3 k d f hk hkk hdd hff
  rw [hkk] at pk
  rw [hdd] at hd
  clear hk hkk hdd hff ha1 ha2 ha3 hb1 hb2 hb3
  go_enter Try.func21, Try.ntmps21
  go_upto_region 1 with fail
  refine wp_cls (fun wr => ItC t w.heap.size wr ∧ Lf w.heap.size (w.heap.size + 1) [(⟨w.heap.size, 0, none⟩, .int .i64 3), (⟨w.heap.size, 2, none⟩, .int .i64 t.fx), (⟨w.heap.size, 3, none⟩, .int .i64 t.fy), (⟨w.heap.size, 4, none⟩, .int .i64 t.fz), (⟨w.heap.size, 5, none⟩, .int .i64 t.tx), (⟨w.heap.size, 6, none⟩, .int .i64 t.ty), (⟨w.heap.size, 7, none⟩, .int .i64 t.tz), (⟨w.heap.size, 8, none⟩, .int .i64 k), (⟨w.heap.size, 9, none⟩, .int .i64 t.cx), (⟨w.heap.size, 10, none⟩, .int .i64 t.cy), (⟨w.heap.size, 11, none⟩, .int .i64 t.cz), (⟨w.heap.size, 12, none⟩, .int .i64 d), (⟨w.heap.size, 13, none⟩, .bool f)] w wr) ⟨hI, hT⟩ ?_
  clear hT hI
  rintro w0 ⟨hI, hT⟩
  have kc := hT.cells
  have kf := hT.frz
  simp only [List.forall_mem_cons, List.not_mem_nil, false_implies, implies_true, and_true] at kc kf
  obtain ⟨yc0, yc1, yc2, yc3, yc4, yc5, yc6, yc7, yc8, yc9, yc10, yc11, yc12⟩ := kc
  obtain ⟨yf0, yf1, yf2, yf3, yf4, yf5, yf6, yf7, yf8, yf9, yf10, yf11, yf12⟩ := kf
  go_wp2_with fail
  refine (MO _).out.mono ?_
  rintro e w1 ⟨rfl, hb1⟩
  have hT := hT.next hb1
  have hI := hI.next hb1
  clear hb1 yc0 yf0 yc1 yf1 yc2 yf2 yc3 yf3 yc4 yf4 yc5 yf5 yc6 yf6 yc7 yf7 yc8 yf8 yc9 yf9 yc10 yf10 yc11 yf11 yc12 yf12
  have kc := hT.cells
  have kf := hT.frz
  simp only [List.forall_mem_cons, List.not_mem_nil, false_implies, implies_true, and_true] at kc kf
  obtain ⟨yc0, yc1, yc2, yc3, yc4, yc5, yc6, yc7, yc8, yc9, yc10, yc11, yc12⟩ := kc
  obtain ⟨yf0, yf1, yf2, yf3, yf4, yf5, yf6, yf7, yf8, yf9, yf10, yf11, yf12⟩ := kf
  go_wp2_with fail
  refine (WF _).out.mono ?_
  rintro e w1 ⟨rfl, hb1⟩
  have hT := hT.next hb1
  have hI := hI.next hb1
  clear hb1 yc0 yf0 yc1 yf1 yc2 yf2 yc3 yf3 yc4 yf4 yc5 yf5 yc6 yf6 yc7 yf7 yc8 yf8 yc9 yf9 yc10 yf10 yc11 yf11 yc12 yf12
  have kc := hT.cells
  have kf := hT.frz
  simp only [List.forall_mem_cons, List.not_mem_nil, false_implies, implies_true, and_true] at kc kf
  obtain ⟨yc0, yc1, yc2, yc3, yc4, yc5, yc6, yc7, yc8, yc9, yc10, yc11, yc12⟩ := kc
  obtain ⟨yf0, yf1, yf2, yf3, yf4, yf5, yf6, yf7, yf8, yf9, yf10, yf11, yf12⟩ := kf
  go_wp2_with fail
  refine (WT _).out.mono ?_
  rintro e w1 ⟨rfl, hb1⟩
  have hT := hT.next hb1
  have hI := hI.next hb1
  clear hb1 yc0 yf0 yc1 yf1 yc2 yf2 yc3 yf3 yc4 yf4 yc5 yf5 yc6 yf6 yc7 yf7 yc8 yf8 yc9 yf9 yc10 yf10 yc11 yf11 yc12 yf12
  have kc := hT.cells
  have kf := hT.frz
  simp only [List.forall_mem_cons, List.not_mem_nil, false_implies, implies_true, and_true] at kc kf
  obtain ⟨yc0, yc1, yc2, yc3, yc4, yc5, yc6, yc7, yc8, yc9, yc10, yc11, yc12⟩ := kc
  obtain ⟨yf0, yf1, yf2, yf3, yf4, yf5, yf6, yf7, yf8, yf9, yf10, yf11, yf12⟩ := kf
  go_upto_region 5 with fail
  go_cut [55] (fun s wx => s = .bool false ∧ ItC t w.heap.size wx ∧ Lf w.heap.size (w.heap.size + 1) [(⟨w.heap.size, 0, none⟩, .int .i64 3), (⟨w.heap.size, 2, none⟩, .int .i64 t.fx), (⟨w.heap.size, 3, none⟩, .int .i64 t.fy), (⟨w.heap.size, 4, none⟩, .int .i64 t.fz), (⟨w.heap.size, 5, none⟩, .int .i64 t.tx), (⟨w.heap.size, 6, none⟩, .int .i64 t.ty), (⟨w.heap.size, 7, none⟩, .int .i64 t.tz), (⟨w.heap.size, 8, none⟩, .int .i64 k), (⟨w.heap.size, 9, none⟩, .int .i64 t.cx), (⟨w.heap.size, 10, none⟩, .int .i64 t.cy), (⟨w.heap.size, 11, none⟩, .int .i64 t.cz), (⟨w.heap.size, 12, none⟩, .int .i64 d), (⟨w.heap.size, 13, none⟩, .bool f)] w wx)
  case first =>
    rcases pk with rfl | rfl | rfl <;> rcases hd with rfl | rfl
    all_goals
      go_wp2_with fail
      refine (WC _).out.mono ?_
      rintro e w1 ⟨rfl, hb1⟩
      have hT := hT.next hb1
      have hI := hI.next hb1
      clear hb1 yc0 yf0 yc1 yf1 yc2 yf2 yc3 yf3 yc4 yf4 yc5 yf5 yc6 yf6 yc7 yf7 yc8 yf8 yc9 yf9 yc10 yf10 yc11 yf11 yc12 yf12
      go_wp2_with fail
      go_meet
      exact ⟨rfl, hI, hT⟩
  case rest =>
    obtain ⟨rfl, hI, hT⟩ := hcut
    clear WC pk hd
    go_wp2_with (refine wpList_load_g (by rfl) 27 (.tmp 1) rfl w.heap.size 0 rfl (itL t) _ hI.rg Try.underlying27 rfl (by kernel_rfl) ?_)
    refine (EN _).out.mono ?_
    rintro e w2 ⟨rfl, hb1⟩
    have hT := hT.next hb1
    clear hb1 hI
    have hlw := hT.lt
    have hV := (hT.pushg w2.heap.size #[.int .i64 aU, .int .i64 aW, .int .i64 0, .int .i64 aH] 34 rfl).pushg (w2.heap.size + 1) #[.int .i64 bU, .int .i64 bW, .int .i64 0, .int .i64 bH] 34 (by simp)
    have hV := hV.sub (ds := [(⟨w.heap.size, 13, none⟩, .bool f), (⟨w2.heap.size, 0, none⟩, .int .i64 aU), (⟨w2.heap.size, 1, none⟩, .int .i64 aW), (⟨w2.heap.size, 2, none⟩, .int .i64 0), (⟨w2.heap.size, 3, none⟩, .int .i64 aH), (⟨(w2.heap.size + 1), 0, none⟩, .int .i64 bU), (⟨(w2.heap.size + 1), 1, none⟩, .int .i64 bW), (⟨(w2.heap.size + 1), 2, none⟩, .int .i64 0), (⟨(w2.heap.size + 1), 3, none⟩, .int .i64 bH)]) (by simp [blk])
    clear hT
    go_upto_region 8 with fail
    generalize w2.heap.size = g at *
    (refine wp_region_class (Lf w.heap.size (g + 1 + 1) [(⟨w.heap.size, 13, none⟩, .bool f), (⟨g, 0, none⟩, .int .i64 aU), (⟨g, 1, none⟩, .int .i64 aW), (⟨g, 2, none⟩, .int .i64 0), (⟨g, 3, none⟩, .int .i64 aH), (⟨(g + 1), 0, none⟩, .int .i64 bU), (⟨(g + 1), 1, none⟩, .int .i64 bW), (⟨(g + 1), 2, none⟩, .int .i64 0), (⟨(g + 1), 3, none⟩, .int .i64 bH)] w) (hV.next (Below.refl _ _).drew) (by kernel_rfl) (by kernel_rfl) ?_; repeat (refine wpQuiet_step (fun qK9 qH9 => ?_); go_simp; first | (refine qH9 _ ?_; clear qH9 qK9) | (apply Exists.intro; refine ⟨?_, qH9 _ ?_⟩; (first | (intros; rfl) | (first | (intro wx hC; ((have qk9 := (hC).cells; simp only [List.forall_mem_cons, List.not_mem_nil, false_implies, implies_true, and_true] at qk9; repeat (obtain ⟨qk8, qk9⟩ := qk9)); go_simp; first | done | rfl)) | (intro wx hC; with_reducible exact Calls.lays (DA wx).out (fun _ => hC.next)) | (intro wx hC; with_reducible exact Calls.lays (DB wx).out (fun _ => hC.next)))); clear qH9 qK9)))
    refine wpQuiet_nil ?_
    clear hV
    intro w4 hT
    have kc := hT.cells
    have kf := hT.frz
    simp only [List.forall_mem_cons, List.not_mem_nil, false_implies, implies_true, and_true] at kc kf
    obtain ⟨yc0, yc1, yc2, yc3, yc4, yc5, yc6, yc7, yc8⟩ := kc
    obtain ⟨yf0, yf1, yf2, yf3, yf4, yf5, yf6, yf7, yf8⟩ := kf
    go_wp2_with fail
    go_ret
    exact ⟨by first | rfl | (simp; done) | (simp; omega), hT.be⟩
set_option maxHeartbeats 16000000 in
set_option maxRecDepth 40000 in
theorem VRf_near (t : Itm) (w : World) (hk : t.kind = 3) (f1 : In 1048576 t.fx t.fy t.fz) (t1 : In 1048576 t.tx t.ty t.tz) (ht : t.Pos) (hd : t.dir = 1 ∨ t.dir = -1) (hx : 64 ≤ t.aU * t.aU + t.aW * t.aW) (hy : 64 ≤ t.bU * t.bU + t.bW * t.bW) (hn : 64 * min (t.aU * t.aU + t.aW * t.aW) (t.bU * t.bU + t.bW * t.bW) < (max (t.aU * t.aU + t.aW * t.aW) (t.bU * t.bU + t.bW * t.bW) - min (t.aU * t.aU + t.aW * t.aW) (t.bU * t.bU + t.bW * t.bW) - 16) * (max (t.aU * t.aU + t.aW * t.aW) (t.bU * t.bU + t.bW * t.bW) - min (t.aU * t.aU + t.aW * t.aW) (t.bU * t.bU + t.bW * t.bW) - 16)) :
    Calls Try.prog 21 #[.agg #[.int .i64 t.kind, .int .i64 t.block, .int .i64 t.fx, .int .i64 t.fy, .int .i64 t.fz, .int .i64 t.tx, .int .i64 t.ty, .int .i64 t.tz, .int .i64 t.plane, .int .i64 t.cx, .int .i64 t.cy, .int .i64 t.cz, .int .i64 t.dir, .bool t.full, .int .i64 t.feed, .bool t.perrev, .int .i64 t.side, .int .i64 t.radius, .int .i64 t.blend, .int .i64 t.n, .int .i64 t.speed, .bool t.on]] w fun e w' => e = .returned (.bool false) ∧ Below w.heap.size w w' := by
  have WF := fun w => Lib.hid (withinR_any t.fx t.fy t.fz w)
  have WT := fun w => Lib.hid (withinR_any t.tx t.ty t.tz w)
  have MO := fun w => Lib.hid (motion3 w)
  rw [smB_iff.2 f1] at WF
  rw [smB_iff.2 t1] at WT
  clear f1 t1
  have EN := fun w => Lib.hid (endsR_any t w ht)
  obtain ⟨ha1, ha2, ha3, hb1, hb2, hb3⟩ := ht.bd
  have pk := ht.pk
  have WC := fun w => Lib.hid (withinR_any t.cx t.cy t.cz w)
  rw [smB_iff.2 ht.pc] at WC
  clear ht
  have q1 := bd21 ha1
  have q2 := bd21 ha2
  have q3 := bd21 hb1
  have q4 := bd21 hb2
  have DA := fun w => Lib.hid (dotR_any t.aU t.aW 0 t.aH t.aU t.aW 0 t.aH w ⟨⟨by omega, by omega⟩, by omega, by omega⟩ ⟨⟨by omega, by omega⟩, by omega, by omega⟩)
  have DB := fun w => Lib.hid (dotR_any t.bU t.bW 0 t.bH t.bU t.bW 0 t.bH w ⟨⟨by omega, by omega⟩, by omega, by omega⟩ ⟨⟨by omega, by omega⟩, by omega, by omega⟩)
  have hxb : t.aU * t.aU + t.aW * t.aW ≤ 8796093022208 := by omega
  have hyb : t.bU * t.bU + t.bW * t.bW ≤ 8796093022208 := by omega
  have NR := fun w => Lib.hid (CmpR_any (t.aU * t.aU + t.aW * t.aW + (t.bU * t.bU + t.bW * t.bW) - 16) (t.aU * t.aU + t.aW * t.aW + (t.bU * t.bU + t.bW * t.bW) - 16) (4 * (t.aU * t.aU + t.aW * t.aW)) (t.bU * t.bU + t.bW * t.bW) w (by omega) (by omega) (by omega) (by omega) (by omega) (by omega) (by omega) (by omega))
  have hz := cmpZ_gt (near_Rf hn)
  clear hn
  clear q1 q2 q3 q4
  generalize t.aU * t.aU + t.aW * t.aW = x at *
  generalize t.bU * t.bU + t.bW * t.bW = y at *
  generalize cmpZ ((x + y - 16) * (x + y - 16)) (4 * x * y) = Z at *
  generalize t.aU = aU at *
  generalize t.aW = aW at *
  generalize t.aH = aH at *
  generalize t.bU = bU at *
  generalize t.bW = bW at *
  generalize t.bH = bH at *
  have hl1 : 0 < x + y - 16 := by omega
  have hI : ItC t w.heap.size (w.alloc (.cells #[.int .i64 t.kind, .int .i64 t.block, .int .i64 t.fx, .int .i64 t.fy, .int .i64 t.fz, .int .i64 t.tx, .int .i64 t.ty, .int .i64 t.tz, .int .i64 t.plane, .int .i64 t.cx, .int .i64 t.cy, .int .i64 t.cz, .int .i64 t.dir, .bool t.full, .int .i64 t.feed, .bool t.perrev, .int .i64 t.side, .int .i64 t.radius, .int .i64 t.blend, .int .i64 t.n, .int .i64 t.speed, .bool t.on] 27)) := ItC.fresh t w _ rfl
  obtain ⟨k, hkk⟩ : ∃ k, t.plane = k := ⟨_, rfl⟩
  obtain ⟨d, hdd⟩ : ∃ d, t.dir = d := ⟨_, rfl⟩
  obtain ⟨f, hff⟩ : ∃ f, t.full = f := ⟨_, rfl⟩
  have hT : ∀ (k0 p0 d0 : Int) (f0 : Bool), t.kind = k0 → t.plane = p0 → t.dir = d0 → t.full = f0 → Lf w.heap.size (w.heap.size + 1) [(⟨w.heap.size, 0, none⟩, .int .i64 k0), (⟨w.heap.size, 2, none⟩, .int .i64 t.fx), (⟨w.heap.size, 3, none⟩, .int .i64 t.fy), (⟨w.heap.size, 4, none⟩, .int .i64 t.fz), (⟨w.heap.size, 5, none⟩, .int .i64 t.tx), (⟨w.heap.size, 6, none⟩, .int .i64 t.ty), (⟨w.heap.size, 7, none⟩, .int .i64 t.tz), (⟨w.heap.size, 8, none⟩, .int .i64 p0), (⟨w.heap.size, 9, none⟩, .int .i64 t.cx), (⟨w.heap.size, 10, none⟩, .int .i64 t.cy), (⟨w.heap.size, 11, none⟩, .int .i64 t.cz), (⟨w.heap.size, 12, none⟩, .int .i64 d0), (⟨w.heap.size, 13, none⟩, .bool f0)] w (w.alloc (.cells #[.int .i64 t.kind, .int .i64 t.block, .int .i64 t.fx, .int .i64 t.fy, .int .i64 t.fz, .int .i64 t.tx, .int .i64 t.ty, .int .i64 t.tz, .int .i64 t.plane, .int .i64 t.cx, .int .i64 t.cy, .int .i64 t.cz, .int .i64 t.dir, .bool t.full, .int .i64 t.feed, .bool t.perrev, .int .i64 t.side, .int .i64 t.radius, .int .i64 t.blend, .int .i64 t.n, .int .i64 t.speed, .bool t.on] 27)) := by
    rintro _ _ _ _ rfl rfl rfl rfl
    exact ⟨by simp [List.forall_mem_cons, go_sem], by simp [List.forall_mem_cons, go_sem], by simp [List.forall_mem_cons] <;> omega, by simp, by (repeat (first | exact Below.refl _ _ | refine Below.alloc ?_ (by simp <;> omega) _)), by omega⟩
  have hT := hT 3 k d f hk hkk hdd hff
  rw [hkk] at pk
  rw [hdd] at hd
  clear hk hkk hdd hff ha1 ha2 ha3 hb1 hb2 hb3
  go_enter Try.func21, Try.ntmps21
  go_upto_region 1 with fail
  refine wp_cls (fun wr => ItC t w.heap.size wr ∧ Lf w.heap.size (w.heap.size + 1) [(⟨w.heap.size, 0, none⟩, .int .i64 3), (⟨w.heap.size, 2, none⟩, .int .i64 t.fx), (⟨w.heap.size, 3, none⟩, .int .i64 t.fy), (⟨w.heap.size, 4, none⟩, .int .i64 t.fz), (⟨w.heap.size, 5, none⟩, .int .i64 t.tx), (⟨w.heap.size, 6, none⟩, .int .i64 t.ty), (⟨w.heap.size, 7, none⟩, .int .i64 t.tz), (⟨w.heap.size, 8, none⟩, .int .i64 k), (⟨w.heap.size, 9, none⟩, .int .i64 t.cx), (⟨w.heap.size, 10, none⟩, .int .i64 t.cy), (⟨w.heap.size, 11, none⟩, .int .i64 t.cz), (⟨w.heap.size, 12, none⟩, .int .i64 d), (⟨w.heap.size, 13, none⟩, .bool f)] w wr) ⟨hI, hT⟩ ?_
  clear hT hI
  rintro w0 ⟨hI, hT⟩
  have kc := hT.cells
  have kf := hT.frz
  simp only [List.forall_mem_cons, List.not_mem_nil, false_implies, implies_true, and_true] at kc kf
  obtain ⟨yc0, yc1, yc2, yc3, yc4, yc5, yc6, yc7, yc8, yc9, yc10, yc11, yc12⟩ := kc
  obtain ⟨yf0, yf1, yf2, yf3, yf4, yf5, yf6, yf7, yf8, yf9, yf10, yf11, yf12⟩ := kf
  go_wp2_with fail
  refine (MO _).out.mono ?_
  rintro e w1 ⟨rfl, hb1⟩
  have hT := hT.next hb1
  have hI := hI.next hb1
  clear hb1 yc0 yf0 yc1 yf1 yc2 yf2 yc3 yf3 yc4 yf4 yc5 yf5 yc6 yf6 yc7 yf7 yc8 yf8 yc9 yf9 yc10 yf10 yc11 yf11 yc12 yf12
  have kc := hT.cells
  have kf := hT.frz
  simp only [List.forall_mem_cons, List.not_mem_nil, false_implies, implies_true, and_true] at kc kf
  obtain ⟨yc0, yc1, yc2, yc3, yc4, yc5, yc6, yc7, yc8, yc9, yc10, yc11, yc12⟩ := kc
  obtain ⟨yf0, yf1, yf2, yf3, yf4, yf5, yf6, yf7, yf8, yf9, yf10, yf11, yf12⟩ := kf
  go_wp2_with fail
  refine (WF _).out.mono ?_
  rintro e w1 ⟨rfl, hb1⟩
  have hT := hT.next hb1
  have hI := hI.next hb1
  clear hb1 yc0 yf0 yc1 yf1 yc2 yf2 yc3 yf3 yc4 yf4 yc5 yf5 yc6 yf6 yc7 yf7 yc8 yf8 yc9 yf9 yc10 yf10 yc11 yf11 yc12 yf12
  have kc := hT.cells
  have kf := hT.frz
  simp only [List.forall_mem_cons, List.not_mem_nil, false_implies, implies_true, and_true] at kc kf
  obtain ⟨yc0, yc1, yc2, yc3, yc4, yc5, yc6, yc7, yc8, yc9, yc10, yc11, yc12⟩ := kc
  obtain ⟨yf0, yf1, yf2, yf3, yf4, yf5, yf6, yf7, yf8, yf9, yf10, yf11, yf12⟩ := kf
  go_wp2_with fail
  refine (WT _).out.mono ?_
  rintro e w1 ⟨rfl, hb1⟩
  have hT := hT.next hb1
  have hI := hI.next hb1
  clear hb1 yc0 yf0 yc1 yf1 yc2 yf2 yc3 yf3 yc4 yf4 yc5 yf5 yc6 yf6 yc7 yf7 yc8 yf8 yc9 yf9 yc10 yf10 yc11 yf11 yc12 yf12
  have kc := hT.cells
  have kf := hT.frz
  simp only [List.forall_mem_cons, List.not_mem_nil, false_implies, implies_true, and_true] at kc kf
  obtain ⟨yc0, yc1, yc2, yc3, yc4, yc5, yc6, yc7, yc8, yc9, yc10, yc11, yc12⟩ := kc
  obtain ⟨yf0, yf1, yf2, yf3, yf4, yf5, yf6, yf7, yf8, yf9, yf10, yf11, yf12⟩ := kf
  go_upto_region 5 with fail
  go_cut [55] (fun s wx => s = .bool false ∧ ItC t w.heap.size wx ∧ Lf w.heap.size (w.heap.size + 1) [(⟨w.heap.size, 0, none⟩, .int .i64 3), (⟨w.heap.size, 2, none⟩, .int .i64 t.fx), (⟨w.heap.size, 3, none⟩, .int .i64 t.fy), (⟨w.heap.size, 4, none⟩, .int .i64 t.fz), (⟨w.heap.size, 5, none⟩, .int .i64 t.tx), (⟨w.heap.size, 6, none⟩, .int .i64 t.ty), (⟨w.heap.size, 7, none⟩, .int .i64 t.tz), (⟨w.heap.size, 8, none⟩, .int .i64 k), (⟨w.heap.size, 9, none⟩, .int .i64 t.cx), (⟨w.heap.size, 10, none⟩, .int .i64 t.cy), (⟨w.heap.size, 11, none⟩, .int .i64 t.cz), (⟨w.heap.size, 12, none⟩, .int .i64 d), (⟨w.heap.size, 13, none⟩, .bool f)] w wx)
  case first =>
    rcases pk with rfl | rfl | rfl <;> rcases hd with rfl | rfl
    all_goals
      go_wp2_with fail
      refine (WC _).out.mono ?_
      rintro e w1 ⟨rfl, hb1⟩
      have hT := hT.next hb1
      have hI := hI.next hb1
      clear hb1 yc0 yf0 yc1 yf1 yc2 yf2 yc3 yf3 yc4 yf4 yc5 yf5 yc6 yf6 yc7 yf7 yc8 yf8 yc9 yf9 yc10 yf10 yc11 yf11 yc12 yf12
      go_wp2_with fail
      go_meet
      exact ⟨rfl, hI, hT⟩
  case rest =>
    obtain ⟨rfl, hI, hT⟩ := hcut
    clear WC pk hd
    go_wp2_with (refine wpList_load_g (by rfl) 27 (.tmp 1) rfl w.heap.size 0 rfl (itL t) _ hI.rg Try.underlying27 rfl (by kernel_rfl) ?_)
    refine (EN _).out.mono ?_
    rintro e w2 ⟨rfl, hb1⟩
    have hT := hT.next hb1
    clear hb1 hI
    have hlw := hT.lt
    have hV := (hT.pushg w2.heap.size #[.int .i64 aU, .int .i64 aW, .int .i64 0, .int .i64 aH] 34 rfl).pushg (w2.heap.size + 1) #[.int .i64 bU, .int .i64 bW, .int .i64 0, .int .i64 bH] 34 (by simp)
    have hV := hV.sub (ds := [(⟨w.heap.size, 13, none⟩, .bool f), (⟨w2.heap.size, 0, none⟩, .int .i64 aU), (⟨w2.heap.size, 1, none⟩, .int .i64 aW), (⟨w2.heap.size, 2, none⟩, .int .i64 0), (⟨w2.heap.size, 3, none⟩, .int .i64 aH), (⟨(w2.heap.size + 1), 0, none⟩, .int .i64 bU), (⟨(w2.heap.size + 1), 1, none⟩, .int .i64 bW), (⟨(w2.heap.size + 1), 2, none⟩, .int .i64 0), (⟨(w2.heap.size + 1), 3, none⟩, .int .i64 bH)]) (by simp [blk])
    clear hT
    go_upto_region 8 with fail
    generalize w2.heap.size = g at *
    (refine wp_region_class (Lf w.heap.size (g + 1 + 1) [(⟨w.heap.size, 13, none⟩, .bool f), (⟨g, 0, none⟩, .int .i64 aU), (⟨g, 1, none⟩, .int .i64 aW), (⟨g, 2, none⟩, .int .i64 0), (⟨g, 3, none⟩, .int .i64 aH), (⟨(g + 1), 0, none⟩, .int .i64 bU), (⟨(g + 1), 1, none⟩, .int .i64 bW), (⟨(g + 1), 2, none⟩, .int .i64 0), (⟨(g + 1), 3, none⟩, .int .i64 bH)] w) (hV.next (Below.refl _ _).drew) (by kernel_rfl) (by kernel_rfl) ?_; repeat (refine wpQuiet_step (fun qK9 qH9 => ?_); go_simp; first | (refine qH9 _ ?_; clear qH9 qK9) | (apply Exists.intro; refine ⟨?_, qH9 _ ?_⟩; (first | (intros; rfl) | (first | (intro wx hC; ((have qk9 := (hC).cells; simp only [List.forall_mem_cons, List.not_mem_nil, false_implies, implies_true, and_true] at qk9; repeat (obtain ⟨qk8, qk9⟩ := qk9)); go_simp; first | done | rfl)) | (intro wx hC; with_reducible exact Calls.lays (DA wx).out (fun _ => hC.next)) | (intro wx hC; with_reducible exact Calls.lays (DB wx).out (fun _ => hC.next)))); clear qH9 qK9)))
    refine wpQuiet_nil ?_
    clear hV
    intro w4 hT
    have kc := hT.cells
    have kf := hT.frz
    simp only [List.forall_mem_cons, List.not_mem_nil, false_implies, implies_true, and_true] at kc kf
    obtain ⟨yc0, yc1, yc2, yc3, yc4, yc5, yc6, yc7, yc8⟩ := kc
    obtain ⟨yf0, yf1, yf2, yf3, yf4, yf5, yf6, yf7, yf8⟩ := kf
    go_wp2_with fail
    refine (NR _).out.mono ?_
    rintro e w1 ⟨rfl, hb1⟩
    have hT := hT.next hb1
    clear hb1 yc0 yf0 yc1 yf1 yc2 yf2 yc3 yf3 yc4 yf4 yc5 yf5 yc6 yf6 yc7 yf7 yc8 yf8
    have kc := hT.cells
    have kf := hT.frz
    simp only [List.forall_mem_cons, List.not_mem_nil, false_implies, implies_true, and_true] at kc kf
    obtain ⟨yc0, yc1, yc2, yc3, yc4, yc5, yc6, yc7, yc8⟩ := kc
    obtain ⟨yf0, yf1, yf2, yf3, yf4, yf5, yf6, yf7, yf8⟩ := kf
    go_wp2_with fail
    go_ret
    exact ⟨by first | rfl | (simp; done) | (simp; omega), hT.be⟩
set_option maxHeartbeats 16000000 in
set_option maxRecDepth 40000 in
theorem VRf_full (t : Itm) (w : World) (hk : t.kind = 3) (f1 : In 1048576 t.fx t.fy t.fz) (t1 : In 1048576 t.tx t.ty t.tz) (ht : t.Pos) (hd : t.dir = 1 ∨ t.dir = -1) (hx : 64 ≤ t.aU * t.aU + t.aW * t.aW) (hy : 64 ≤ t.bU * t.bU + t.bW * t.bW) (hn : (max (t.aU * t.aU + t.aW * t.aW) (t.bU * t.bU + t.bW * t.bW) - min (t.aU * t.aU + t.aW * t.aW) (t.bU * t.bU + t.bW * t.bW) - 16) * (max (t.aU * t.aU + t.aW * t.aW) (t.bU * t.bU + t.bW * t.bW) - min (t.aU * t.aU + t.aW * t.aW) (t.bU * t.bU + t.bW * t.bW) - 16) ≤ 64 * min (t.aU * t.aU + t.aW * t.aW) (t.bU * t.bU + t.bW * t.bW)) (hf : t.full = true) (hne : ¬ (t.aU = t.bU ∧ t.aW = t.bW)) :
    Calls Try.prog 21 #[.agg #[.int .i64 t.kind, .int .i64 t.block, .int .i64 t.fx, .int .i64 t.fy, .int .i64 t.fz, .int .i64 t.tx, .int .i64 t.ty, .int .i64 t.tz, .int .i64 t.plane, .int .i64 t.cx, .int .i64 t.cy, .int .i64 t.cz, .int .i64 t.dir, .bool t.full, .int .i64 t.feed, .bool t.perrev, .int .i64 t.side, .int .i64 t.radius, .int .i64 t.blend, .int .i64 t.n, .int .i64 t.speed, .bool t.on]] w fun e w' => e = .returned (.bool false) ∧ Below w.heap.size w w' := by
  have WF := fun w => Lib.hid (withinR_any t.fx t.fy t.fz w)
  have WT := fun w => Lib.hid (withinR_any t.tx t.ty t.tz w)
  have MO := fun w => Lib.hid (motion3 w)
  rw [smB_iff.2 f1] at WF
  rw [smB_iff.2 t1] at WT
  clear f1 t1
  have EN := fun w => Lib.hid (endsR_any t w ht)
  obtain ⟨ha1, ha2, ha3, hb1, hb2, hb3⟩ := ht.bd
  have pk := ht.pk
  have WC := fun w => Lib.hid (withinR_any t.cx t.cy t.cz w)
  rw [smB_iff.2 ht.pc] at WC
  clear ht
  have q1 := bd21 ha1
  have q2 := bd21 ha2
  have q3 := bd21 hb1
  have q4 := bd21 hb2
  have DA := fun w => Lib.hid (dotR_any t.aU t.aW 0 t.aH t.aU t.aW 0 t.aH w ⟨⟨by omega, by omega⟩, by omega, by omega⟩ ⟨⟨by omega, by omega⟩, by omega, by omega⟩)
  have DB := fun w => Lib.hid (dotR_any t.bU t.bW 0 t.bH t.bU t.bW 0 t.bH w ⟨⟨by omega, by omega⟩, by omega, by omega⟩ ⟨⟨by omega, by omega⟩, by omega, by omega⟩)
  have hxb : t.aU * t.aU + t.aW * t.aW ≤ 8796093022208 := by omega
  have hyb : t.bU * t.bU + t.bW * t.bW ≤ 8796093022208 := by omega
  have NR := fun w => Lib.hid (CmpR_any (t.aU * t.aU + t.aW * t.aW + (t.bU * t.bU + t.bW * t.bW) - 16) (t.aU * t.aU + t.aW * t.aW + (t.bU * t.bU + t.bW * t.bW) - 16) (4 * (t.aU * t.aU + t.aW * t.aW)) (t.bU * t.bU + t.bW * t.bW) w (by omega) (by omega) (by omega) (by omega) (by omega) (by omega) (by omega) (by omega))
  have hz := cmpZ_le (near_R hn)
  clear hn
  clear q1 q2 q3 q4
  generalize t.aU * t.aU + t.aW * t.aW = x at *
  generalize t.bU * t.bU + t.bW * t.bW = y at *
  generalize cmpZ ((x + y - 16) * (x + y - 16)) (4 * x * y) = Z at *
  generalize t.aU = aU at *
  generalize t.aW = aW at *
  generalize t.aH = aH at *
  generalize t.bU = bU at *
  generalize t.bW = bW at *
  generalize t.bH = bH at *
  have hl1 : 0 < x + y - 16 := by omega
  have hI : ItC t w.heap.size (w.alloc (.cells #[.int .i64 t.kind, .int .i64 t.block, .int .i64 t.fx, .int .i64 t.fy, .int .i64 t.fz, .int .i64 t.tx, .int .i64 t.ty, .int .i64 t.tz, .int .i64 t.plane, .int .i64 t.cx, .int .i64 t.cy, .int .i64 t.cz, .int .i64 t.dir, .bool t.full, .int .i64 t.feed, .bool t.perrev, .int .i64 t.side, .int .i64 t.radius, .int .i64 t.blend, .int .i64 t.n, .int .i64 t.speed, .bool t.on] 27)) := ItC.fresh t w _ rfl
  obtain ⟨k, hkk⟩ : ∃ k, t.plane = k := ⟨_, rfl⟩
  obtain ⟨d, hdd⟩ : ∃ d, t.dir = d := ⟨_, rfl⟩
  obtain ⟨f, hff⟩ : ∃ f, t.full = f := ⟨_, rfl⟩
  have hT : ∀ (k0 p0 d0 : Int) (f0 : Bool), t.kind = k0 → t.plane = p0 → t.dir = d0 → t.full = f0 → Lf w.heap.size (w.heap.size + 1) [(⟨w.heap.size, 0, none⟩, .int .i64 k0), (⟨w.heap.size, 2, none⟩, .int .i64 t.fx), (⟨w.heap.size, 3, none⟩, .int .i64 t.fy), (⟨w.heap.size, 4, none⟩, .int .i64 t.fz), (⟨w.heap.size, 5, none⟩, .int .i64 t.tx), (⟨w.heap.size, 6, none⟩, .int .i64 t.ty), (⟨w.heap.size, 7, none⟩, .int .i64 t.tz), (⟨w.heap.size, 8, none⟩, .int .i64 p0), (⟨w.heap.size, 9, none⟩, .int .i64 t.cx), (⟨w.heap.size, 10, none⟩, .int .i64 t.cy), (⟨w.heap.size, 11, none⟩, .int .i64 t.cz), (⟨w.heap.size, 12, none⟩, .int .i64 d0), (⟨w.heap.size, 13, none⟩, .bool f0)] w (w.alloc (.cells #[.int .i64 t.kind, .int .i64 t.block, .int .i64 t.fx, .int .i64 t.fy, .int .i64 t.fz, .int .i64 t.tx, .int .i64 t.ty, .int .i64 t.tz, .int .i64 t.plane, .int .i64 t.cx, .int .i64 t.cy, .int .i64 t.cz, .int .i64 t.dir, .bool t.full, .int .i64 t.feed, .bool t.perrev, .int .i64 t.side, .int .i64 t.radius, .int .i64 t.blend, .int .i64 t.n, .int .i64 t.speed, .bool t.on] 27)) := by
    rintro _ _ _ _ rfl rfl rfl rfl
    exact ⟨by simp [List.forall_mem_cons, go_sem], by simp [List.forall_mem_cons, go_sem], by simp [List.forall_mem_cons] <;> omega, by simp, by (repeat (first | exact Below.refl _ _ | refine Below.alloc ?_ (by simp <;> omega) _)), by omega⟩
  have hT := hT 3 k d f hk hkk hdd hff
  rw [hkk] at pk
  rw [hdd] at hd
  rw [hff] at hf
  clear hk hkk hdd hff ha1 ha2 ha3 hb1 hb2 hb3
  subst hf
  by_cases hu : aU = bU
  · have hw : ¬ aW = bW := fun e => hne ⟨hu, e⟩
    clear hne
    subst hu
    go_enter Try.func21, Try.ntmps21
    go_upto_region 1 with fail
    refine wp_cls (fun wr => ItC t w.heap.size wr ∧ Lf w.heap.size (w.heap.size + 1) [(⟨w.heap.size, 0, none⟩, .int .i64 3), (⟨w.heap.size, 2, none⟩, .int .i64 t.fx), (⟨w.heap.size, 3, none⟩, .int .i64 t.fy), (⟨w.heap.size, 4, none⟩, .int .i64 t.fz), (⟨w.heap.size, 5, none⟩, .int .i64 t.tx), (⟨w.heap.size, 6, none⟩, .int .i64 t.ty), (⟨w.heap.size, 7, none⟩, .int .i64 t.tz), (⟨w.heap.size, 8, none⟩, .int .i64 k), (⟨w.heap.size, 9, none⟩, .int .i64 t.cx), (⟨w.heap.size, 10, none⟩, .int .i64 t.cy), (⟨w.heap.size, 11, none⟩, .int .i64 t.cz), (⟨w.heap.size, 12, none⟩, .int .i64 d), (⟨w.heap.size, 13, none⟩, .bool true)] w wr) ⟨hI, hT⟩ ?_
    clear hT hI
    rintro w0 ⟨hI, hT⟩
    have kc := hT.cells
    have kf := hT.frz
    simp only [List.forall_mem_cons, List.not_mem_nil, false_implies, implies_true, and_true] at kc kf
    obtain ⟨yc0, yc1, yc2, yc3, yc4, yc5, yc6, yc7, yc8, yc9, yc10, yc11, yc12⟩ := kc
    obtain ⟨yf0, yf1, yf2, yf3, yf4, yf5, yf6, yf7, yf8, yf9, yf10, yf11, yf12⟩ := kf
    go_wp2_with fail
    refine (MO _).out.mono ?_
    rintro e w1 ⟨rfl, hb1⟩
    have hT := hT.next hb1
    have hI := hI.next hb1
    clear hb1 yc0 yf0 yc1 yf1 yc2 yf2 yc3 yf3 yc4 yf4 yc5 yf5 yc6 yf6 yc7 yf7 yc8 yf8 yc9 yf9 yc10 yf10 yc11 yf11 yc12 yf12
    have kc := hT.cells
    have kf := hT.frz
    simp only [List.forall_mem_cons, List.not_mem_nil, false_implies, implies_true, and_true] at kc kf
    obtain ⟨yc0, yc1, yc2, yc3, yc4, yc5, yc6, yc7, yc8, yc9, yc10, yc11, yc12⟩ := kc
    obtain ⟨yf0, yf1, yf2, yf3, yf4, yf5, yf6, yf7, yf8, yf9, yf10, yf11, yf12⟩ := kf
    go_wp2_with fail
    refine (WF _).out.mono ?_
    rintro e w1 ⟨rfl, hb1⟩
    have hT := hT.next hb1
    have hI := hI.next hb1
    clear hb1 yc0 yf0 yc1 yf1 yc2 yf2 yc3 yf3 yc4 yf4 yc5 yf5 yc6 yf6 yc7 yf7 yc8 yf8 yc9 yf9 yc10 yf10 yc11 yf11 yc12 yf12
    have kc := hT.cells
    have kf := hT.frz
    simp only [List.forall_mem_cons, List.not_mem_nil, false_implies, implies_true, and_true] at kc kf
    obtain ⟨yc0, yc1, yc2, yc3, yc4, yc5, yc6, yc7, yc8, yc9, yc10, yc11, yc12⟩ := kc
    obtain ⟨yf0, yf1, yf2, yf3, yf4, yf5, yf6, yf7, yf8, yf9, yf10, yf11, yf12⟩ := kf
    go_wp2_with fail
    refine (WT _).out.mono ?_
    rintro e w1 ⟨rfl, hb1⟩
    have hT := hT.next hb1
    have hI := hI.next hb1
    clear hb1 yc0 yf0 yc1 yf1 yc2 yf2 yc3 yf3 yc4 yf4 yc5 yf5 yc6 yf6 yc7 yf7 yc8 yf8 yc9 yf9 yc10 yf10 yc11 yf11 yc12 yf12
    have kc := hT.cells
    have kf := hT.frz
    simp only [List.forall_mem_cons, List.not_mem_nil, false_implies, implies_true, and_true] at kc kf
    obtain ⟨yc0, yc1, yc2, yc3, yc4, yc5, yc6, yc7, yc8, yc9, yc10, yc11, yc12⟩ := kc
    obtain ⟨yf0, yf1, yf2, yf3, yf4, yf5, yf6, yf7, yf8, yf9, yf10, yf11, yf12⟩ := kf
    go_upto_region 5 with fail
    go_cut [55] (fun s wx => s = .bool false ∧ ItC t w.heap.size wx ∧ Lf w.heap.size (w.heap.size + 1) [(⟨w.heap.size, 0, none⟩, .int .i64 3), (⟨w.heap.size, 2, none⟩, .int .i64 t.fx), (⟨w.heap.size, 3, none⟩, .int .i64 t.fy), (⟨w.heap.size, 4, none⟩, .int .i64 t.fz), (⟨w.heap.size, 5, none⟩, .int .i64 t.tx), (⟨w.heap.size, 6, none⟩, .int .i64 t.ty), (⟨w.heap.size, 7, none⟩, .int .i64 t.tz), (⟨w.heap.size, 8, none⟩, .int .i64 k), (⟨w.heap.size, 9, none⟩, .int .i64 t.cx), (⟨w.heap.size, 10, none⟩, .int .i64 t.cy), (⟨w.heap.size, 11, none⟩, .int .i64 t.cz), (⟨w.heap.size, 12, none⟩, .int .i64 d), (⟨w.heap.size, 13, none⟩, .bool true)] w wx)
    case first =>
      rcases pk with rfl | rfl | rfl <;> rcases hd with rfl | rfl
      all_goals
        go_wp2_with fail
        refine (WC _).out.mono ?_
        rintro e w1 ⟨rfl, hb1⟩
        have hT := hT.next hb1
        have hI := hI.next hb1
        clear hb1 yc0 yf0 yc1 yf1 yc2 yf2 yc3 yf3 yc4 yf4 yc5 yf5 yc6 yf6 yc7 yf7 yc8 yf8 yc9 yf9 yc10 yf10 yc11 yf11 yc12 yf12
        go_wp2_with fail
        go_meet
        exact ⟨rfl, hI, hT⟩
    case rest =>
      obtain ⟨rfl, hI, hT⟩ := hcut
      clear WC pk hd
      go_wp2_with (refine wpList_load_g (by rfl) 27 (.tmp 1) rfl w.heap.size 0 rfl (itL t) _ hI.rg Try.underlying27 rfl (by kernel_rfl) ?_)
      refine (EN _).out.mono ?_
      rintro e w2 ⟨rfl, hb1⟩
      have hT := hT.next hb1
      clear hb1 hI
      have hlw := hT.lt
      have hV := (hT.pushg w2.heap.size #[.int .i64 aU, .int .i64 aW, .int .i64 0, .int .i64 aH] 34 rfl).pushg (w2.heap.size + 1) #[.int .i64 aU, .int .i64 bW, .int .i64 0, .int .i64 bH] 34 (by simp)
      have hV := hV.sub (ds := [(⟨w.heap.size, 13, none⟩, .bool true), (⟨w2.heap.size, 0, none⟩, .int .i64 aU), (⟨w2.heap.size, 1, none⟩, .int .i64 aW), (⟨w2.heap.size, 2, none⟩, .int .i64 0), (⟨w2.heap.size, 3, none⟩, .int .i64 aH), (⟨(w2.heap.size + 1), 0, none⟩, .int .i64 aU), (⟨(w2.heap.size + 1), 1, none⟩, .int .i64 bW), (⟨(w2.heap.size + 1), 2, none⟩, .int .i64 0), (⟨(w2.heap.size + 1), 3, none⟩, .int .i64 bH)]) (by simp [blk])
      clear hT
      go_upto_region 8 with fail
      generalize w2.heap.size = g at *
      (refine wp_region_class (Lf w.heap.size (g + 1 + 1) [(⟨w.heap.size, 13, none⟩, .bool true), (⟨g, 0, none⟩, .int .i64 aU), (⟨g, 1, none⟩, .int .i64 aW), (⟨g, 2, none⟩, .int .i64 0), (⟨g, 3, none⟩, .int .i64 aH), (⟨(g + 1), 0, none⟩, .int .i64 aU), (⟨(g + 1), 1, none⟩, .int .i64 bW), (⟨(g + 1), 2, none⟩, .int .i64 0), (⟨(g + 1), 3, none⟩, .int .i64 bH)] w) (hV.next (Below.refl _ _).drew) (by kernel_rfl) (by kernel_rfl) ?_; repeat (refine wpQuiet_step (fun qK9 qH9 => ?_); go_simp; first | (refine qH9 _ ?_; clear qH9 qK9) | (apply Exists.intro; refine ⟨?_, qH9 _ ?_⟩; (first | (intros; rfl) | (first | (intro wx hC; ((have qk9 := (hC).cells; simp only [List.forall_mem_cons, List.not_mem_nil, false_implies, implies_true, and_true] at qk9; repeat (obtain ⟨qk8, qk9⟩ := qk9)); go_simp; first | done | rfl)) | (intro wx hC; with_reducible exact Calls.lays (DA wx).out (fun _ => hC.next)) | (intro wx hC; with_reducible exact Calls.lays (DB wx).out (fun _ => hC.next)))); clear qH9 qK9)))
      refine wpQuiet_nil ?_
      clear hV
      intro w4 hT
      have kc := hT.cells
      have kf := hT.frz
      simp only [List.forall_mem_cons, List.not_mem_nil, false_implies, implies_true, and_true] at kc kf
      obtain ⟨yc0, yc1, yc2, yc3, yc4, yc5, yc6, yc7, yc8⟩ := kc
      obtain ⟨yf0, yf1, yf2, yf3, yf4, yf5, yf6, yf7, yf8⟩ := kf
      go_wp2_with fail
      refine (NR _).out.mono ?_
      rintro e w1 ⟨rfl, hb1⟩
      have hT := hT.next hb1
      clear hb1 yc0 yf0 yc1 yf1 yc2 yf2 yc3 yf3 yc4 yf4 yc5 yf5 yc6 yf6 yc7 yf7 yc8 yf8
      have kc := hT.cells
      have kf := hT.frz
      simp only [List.forall_mem_cons, List.not_mem_nil, false_implies, implies_true, and_true] at kc kf
      obtain ⟨yc0, yc1, yc2, yc3, yc4, yc5, yc6, yc7, yc8⟩ := kc
      obtain ⟨yf0, yf1, yf2, yf3, yf4, yf5, yf6, yf7, yf8⟩ := kf
      go_wp2_with fail
      go_ret
      exact ⟨by first | rfl | (simp; done) | (simp; omega), hT.be⟩
  · clear hne
    go_enter Try.func21, Try.ntmps21
    go_upto_region 1 with fail
    refine wp_cls (fun wr => ItC t w.heap.size wr ∧ Lf w.heap.size (w.heap.size + 1) [(⟨w.heap.size, 0, none⟩, .int .i64 3), (⟨w.heap.size, 2, none⟩, .int .i64 t.fx), (⟨w.heap.size, 3, none⟩, .int .i64 t.fy), (⟨w.heap.size, 4, none⟩, .int .i64 t.fz), (⟨w.heap.size, 5, none⟩, .int .i64 t.tx), (⟨w.heap.size, 6, none⟩, .int .i64 t.ty), (⟨w.heap.size, 7, none⟩, .int .i64 t.tz), (⟨w.heap.size, 8, none⟩, .int .i64 k), (⟨w.heap.size, 9, none⟩, .int .i64 t.cx), (⟨w.heap.size, 10, none⟩, .int .i64 t.cy), (⟨w.heap.size, 11, none⟩, .int .i64 t.cz), (⟨w.heap.size, 12, none⟩, .int .i64 d), (⟨w.heap.size, 13, none⟩, .bool true)] w wr) ⟨hI, hT⟩ ?_
    clear hT hI
    rintro w0 ⟨hI, hT⟩
    have kc := hT.cells
    have kf := hT.frz
    simp only [List.forall_mem_cons, List.not_mem_nil, false_implies, implies_true, and_true] at kc kf
    obtain ⟨yc0, yc1, yc2, yc3, yc4, yc5, yc6, yc7, yc8, yc9, yc10, yc11, yc12⟩ := kc
    obtain ⟨yf0, yf1, yf2, yf3, yf4, yf5, yf6, yf7, yf8, yf9, yf10, yf11, yf12⟩ := kf
    go_wp2_with fail
    refine (MO _).out.mono ?_
    rintro e w1 ⟨rfl, hb1⟩
    have hT := hT.next hb1
    have hI := hI.next hb1
    clear hb1 yc0 yf0 yc1 yf1 yc2 yf2 yc3 yf3 yc4 yf4 yc5 yf5 yc6 yf6 yc7 yf7 yc8 yf8 yc9 yf9 yc10 yf10 yc11 yf11 yc12 yf12
    have kc := hT.cells
    have kf := hT.frz
    simp only [List.forall_mem_cons, List.not_mem_nil, false_implies, implies_true, and_true] at kc kf
    obtain ⟨yc0, yc1, yc2, yc3, yc4, yc5, yc6, yc7, yc8, yc9, yc10, yc11, yc12⟩ := kc
    obtain ⟨yf0, yf1, yf2, yf3, yf4, yf5, yf6, yf7, yf8, yf9, yf10, yf11, yf12⟩ := kf
    go_wp2_with fail
    refine (WF _).out.mono ?_
    rintro e w1 ⟨rfl, hb1⟩
    have hT := hT.next hb1
    have hI := hI.next hb1
    clear hb1 yc0 yf0 yc1 yf1 yc2 yf2 yc3 yf3 yc4 yf4 yc5 yf5 yc6 yf6 yc7 yf7 yc8 yf8 yc9 yf9 yc10 yf10 yc11 yf11 yc12 yf12
    have kc := hT.cells
    have kf := hT.frz
    simp only [List.forall_mem_cons, List.not_mem_nil, false_implies, implies_true, and_true] at kc kf
    obtain ⟨yc0, yc1, yc2, yc3, yc4, yc5, yc6, yc7, yc8, yc9, yc10, yc11, yc12⟩ := kc
    obtain ⟨yf0, yf1, yf2, yf3, yf4, yf5, yf6, yf7, yf8, yf9, yf10, yf11, yf12⟩ := kf
    go_wp2_with fail
    refine (WT _).out.mono ?_
    rintro e w1 ⟨rfl, hb1⟩
    have hT := hT.next hb1
    have hI := hI.next hb1
    clear hb1 yc0 yf0 yc1 yf1 yc2 yf2 yc3 yf3 yc4 yf4 yc5 yf5 yc6 yf6 yc7 yf7 yc8 yf8 yc9 yf9 yc10 yf10 yc11 yf11 yc12 yf12
    have kc := hT.cells
    have kf := hT.frz
    simp only [List.forall_mem_cons, List.not_mem_nil, false_implies, implies_true, and_true] at kc kf
    obtain ⟨yc0, yc1, yc2, yc3, yc4, yc5, yc6, yc7, yc8, yc9, yc10, yc11, yc12⟩ := kc
    obtain ⟨yf0, yf1, yf2, yf3, yf4, yf5, yf6, yf7, yf8, yf9, yf10, yf11, yf12⟩ := kf
    go_upto_region 5 with fail
    go_cut [55] (fun s wx => s = .bool false ∧ ItC t w.heap.size wx ∧ Lf w.heap.size (w.heap.size + 1) [(⟨w.heap.size, 0, none⟩, .int .i64 3), (⟨w.heap.size, 2, none⟩, .int .i64 t.fx), (⟨w.heap.size, 3, none⟩, .int .i64 t.fy), (⟨w.heap.size, 4, none⟩, .int .i64 t.fz), (⟨w.heap.size, 5, none⟩, .int .i64 t.tx), (⟨w.heap.size, 6, none⟩, .int .i64 t.ty), (⟨w.heap.size, 7, none⟩, .int .i64 t.tz), (⟨w.heap.size, 8, none⟩, .int .i64 k), (⟨w.heap.size, 9, none⟩, .int .i64 t.cx), (⟨w.heap.size, 10, none⟩, .int .i64 t.cy), (⟨w.heap.size, 11, none⟩, .int .i64 t.cz), (⟨w.heap.size, 12, none⟩, .int .i64 d), (⟨w.heap.size, 13, none⟩, .bool true)] w wx)
    case first =>
      rcases pk with rfl | rfl | rfl <;> rcases hd with rfl | rfl
      all_goals
        go_wp2_with fail
        refine (WC _).out.mono ?_
        rintro e w1 ⟨rfl, hb1⟩
        have hT := hT.next hb1
        have hI := hI.next hb1
        clear hb1 yc0 yf0 yc1 yf1 yc2 yf2 yc3 yf3 yc4 yf4 yc5 yf5 yc6 yf6 yc7 yf7 yc8 yf8 yc9 yf9 yc10 yf10 yc11 yf11 yc12 yf12
        go_wp2_with fail
        go_meet
        exact ⟨rfl, hI, hT⟩
    case rest =>
      obtain ⟨rfl, hI, hT⟩ := hcut
      clear WC pk hd
      go_wp2_with (refine wpList_load_g (by rfl) 27 (.tmp 1) rfl w.heap.size 0 rfl (itL t) _ hI.rg Try.underlying27 rfl (by kernel_rfl) ?_)
      refine (EN _).out.mono ?_
      rintro e w2 ⟨rfl, hb1⟩
      have hT := hT.next hb1
      clear hb1 hI
      have hlw := hT.lt
      have hV := (hT.pushg w2.heap.size #[.int .i64 aU, .int .i64 aW, .int .i64 0, .int .i64 aH] 34 rfl).pushg (w2.heap.size + 1) #[.int .i64 bU, .int .i64 bW, .int .i64 0, .int .i64 bH] 34 (by simp)
      have hV := hV.sub (ds := [(⟨w.heap.size, 13, none⟩, .bool true), (⟨w2.heap.size, 0, none⟩, .int .i64 aU), (⟨w2.heap.size, 1, none⟩, .int .i64 aW), (⟨w2.heap.size, 2, none⟩, .int .i64 0), (⟨w2.heap.size, 3, none⟩, .int .i64 aH), (⟨(w2.heap.size + 1), 0, none⟩, .int .i64 bU), (⟨(w2.heap.size + 1), 1, none⟩, .int .i64 bW), (⟨(w2.heap.size + 1), 2, none⟩, .int .i64 0), (⟨(w2.heap.size + 1), 3, none⟩, .int .i64 bH)]) (by simp [blk])
      clear hT
      go_upto_region 8 with fail
      generalize w2.heap.size = g at *
      (refine wp_region_class (Lf w.heap.size (g + 1 + 1) [(⟨w.heap.size, 13, none⟩, .bool true), (⟨g, 0, none⟩, .int .i64 aU), (⟨g, 1, none⟩, .int .i64 aW), (⟨g, 2, none⟩, .int .i64 0), (⟨g, 3, none⟩, .int .i64 aH), (⟨(g + 1), 0, none⟩, .int .i64 bU), (⟨(g + 1), 1, none⟩, .int .i64 bW), (⟨(g + 1), 2, none⟩, .int .i64 0), (⟨(g + 1), 3, none⟩, .int .i64 bH)] w) (hV.next (Below.refl _ _).drew) (by kernel_rfl) (by kernel_rfl) ?_; repeat (refine wpQuiet_step (fun qK9 qH9 => ?_); go_simp; first | (refine qH9 _ ?_; clear qH9 qK9) | (apply Exists.intro; refine ⟨?_, qH9 _ ?_⟩; (first | (intros; rfl) | (first | (intro wx hC; ((have qk9 := (hC).cells; simp only [List.forall_mem_cons, List.not_mem_nil, false_implies, implies_true, and_true] at qk9; repeat (obtain ⟨qk8, qk9⟩ := qk9)); go_simp; first | done | rfl)) | (intro wx hC; with_reducible exact Calls.lays (DA wx).out (fun _ => hC.next)) | (intro wx hC; with_reducible exact Calls.lays (DB wx).out (fun _ => hC.next)))); clear qH9 qK9)))
      refine wpQuiet_nil ?_
      clear hV
      intro w4 hT
      have kc := hT.cells
      have kf := hT.frz
      simp only [List.forall_mem_cons, List.not_mem_nil, false_implies, implies_true, and_true] at kc kf
      obtain ⟨yc0, yc1, yc2, yc3, yc4, yc5, yc6, yc7, yc8⟩ := kc
      obtain ⟨yf0, yf1, yf2, yf3, yf4, yf5, yf6, yf7, yf8⟩ := kf
      go_wp2_with fail
      refine (NR _).out.mono ?_
      rintro e w1 ⟨rfl, hb1⟩
      have hT := hT.next hb1
      clear hb1 yc0 yf0 yc1 yf1 yc2 yf2 yc3 yf3 yc4 yf4 yc5 yf5 yc6 yf6 yc7 yf7 yc8 yf8
      have kc := hT.cells
      have kf := hT.frz
      simp only [List.forall_mem_cons, List.not_mem_nil, false_implies, implies_true, and_true] at kc kf
      obtain ⟨yc0, yc1, yc2, yc3, yc4, yc5, yc6, yc7, yc8⟩ := kc
      obtain ⟨yf0, yf1, yf2, yf3, yf4, yf5, yf6, yf7, yf8⟩ := kf
      go_wp2_with fail
      go_ret
      exact ⟨by first | rfl | (simp; done) | (simp; omega), hT.be⟩
set_option maxHeartbeats 16000000 in
set_option maxRecDepth 40000 in
theorem VRf_part (t : Itm) (w : World) (hk : t.kind = 3) (f1 : In 1048576 t.fx t.fy t.fz) (t1 : In 1048576 t.tx t.ty t.tz) (ht : t.Pos) (hd : t.dir = 1 ∨ t.dir = -1) (hx : 64 ≤ t.aU * t.aU + t.aW * t.aW) (hy : 64 ≤ t.bU * t.bU + t.bW * t.bW) (hn : (max (t.aU * t.aU + t.aW * t.aW) (t.bU * t.bU + t.bW * t.bW) - min (t.aU * t.aU + t.aW * t.aW) (t.bU * t.bU + t.bW * t.bW) - 16) * (max (t.aU * t.aU + t.aW * t.aW) (t.bU * t.bU + t.bW * t.bW) - min (t.aU * t.aU + t.aW * t.aW) (t.bU * t.bU + t.bW * t.bW) - 16) ≤ 64 * min (t.aU * t.aU + t.aW * t.aW) (t.bU * t.bU + t.bW * t.bW)) (hf : t.full = false) (hcr : t.aU * t.bW - t.aW * t.bU = 0) (hdt : ¬ t.aU * t.bU + t.aW * t.bW < 0) :
    Calls Try.prog 21 #[.agg #[.int .i64 t.kind, .int .i64 t.block, .int .i64 t.fx, .int .i64 t.fy, .int .i64 t.fz, .int .i64 t.tx, .int .i64 t.ty, .int .i64 t.tz, .int .i64 t.plane, .int .i64 t.cx, .int .i64 t.cy, .int .i64 t.cz, .int .i64 t.dir, .bool t.full, .int .i64 t.feed, .bool t.perrev, .int .i64 t.side, .int .i64 t.radius, .int .i64 t.blend, .int .i64 t.n, .int .i64 t.speed, .bool t.on]] w fun e w' => e = .returned (.bool false) ∧ Below w.heap.size w w' := by
  have WF := fun w => Lib.hid (withinR_any t.fx t.fy t.fz w)
  have WT := fun w => Lib.hid (withinR_any t.tx t.ty t.tz w)
  have MO := fun w => Lib.hid (motion3 w)
  rw [smB_iff.2 f1] at WF
  rw [smB_iff.2 t1] at WT
  clear f1 t1
  have EN := fun w => Lib.hid (endsR_any t w ht)
  obtain ⟨ha1, ha2, ha3, hb1, hb2, hb3⟩ := ht.bd
  have pk := ht.pk
  have WC := fun w => Lib.hid (withinR_any t.cx t.cy t.cz w)
  rw [smB_iff.2 ht.pc] at WC
  clear ht
  have q1 := bd21 ha1
  have q2 := bd21 ha2
  have q3 := bd21 hb1
  have q4 := bd21 hb2
  have DA := fun w => Lib.hid (dotR_any t.aU t.aW 0 t.aH t.aU t.aW 0 t.aH w ⟨⟨by omega, by omega⟩, by omega, by omega⟩ ⟨⟨by omega, by omega⟩, by omega, by omega⟩)
  have DB := fun w => Lib.hid (dotR_any t.bU t.bW 0 t.bH t.bU t.bW 0 t.bH w ⟨⟨by omega, by omega⟩, by omega, by omega⟩ ⟨⟨by omega, by omega⟩, by omega, by omega⟩)
  have hxb : t.aU * t.aU + t.aW * t.aW ≤ 8796093022208 := by omega
  have hyb : t.bU * t.bU + t.bW * t.bW ≤ 8796093022208 := by omega
  have NR := fun w => Lib.hid (CmpR_any (t.aU * t.aU + t.aW * t.aW + (t.bU * t.bU + t.bW * t.bW) - 16) (t.aU * t.aU + t.aW * t.aW + (t.bU * t.bU + t.bW * t.bW) - 16) (4 * (t.aU * t.aU + t.aW * t.aW)) (t.bU * t.bU + t.bW * t.bW) w (by omega) (by omega) (by omega) (by omega) (by omega) (by omega) (by omega) (by omega))
  have hz := cmpZ_le (near_R hn)
  clear hn
  have CX := fun w => Lib.hid (crossR_any t.aU t.aW 0 t.aH t.bU t.bW 0 t.bH w ⟨⟨by omega, by omega⟩, by omega, by omega⟩ ⟨⟨by omega, by omega⟩, by omega, by omega⟩)
  have DX := fun w => Lib.hid (dotR_any t.aU t.aW 0 t.aH t.bU t.bW 0 t.bH w ⟨⟨by omega, by omega⟩, by omega, by omega⟩ ⟨⟨by omega, by omega⟩, by omega, by omega⟩)
  rw [hcr] at CX
  have hd1 : decide (t.aU * t.bU + t.aW * t.bW < 0) = false := decide_eq_false hdt
  clear hcr
  clear q1 q2 q3 q4
  generalize t.aU * t.aU + t.aW * t.aW = x at *
  generalize t.bU * t.bU + t.bW * t.bW = y at *
  generalize cmpZ ((x + y - 16) * (x + y - 16)) (4 * x * y) = Z at *
  generalize t.aU * t.bU + t.aW * t.bW = dt at *
  generalize t.aU = aU at *
  generalize t.aW = aW at *
  generalize t.aH = aH at *
  generalize t.bU = bU at *
  generalize t.bW = bW at *
  generalize t.bH = bH at *
  have hl1 : 0 < x + y - 16 := by omega
  have hI : ItC t w.heap.size (w.alloc (.cells #[.int .i64 t.kind, .int .i64 t.block, .int .i64 t.fx, .int .i64 t.fy, .int .i64 t.fz, .int .i64 t.tx, .int .i64 t.ty, .int .i64 t.tz, .int .i64 t.plane, .int .i64 t.cx, .int .i64 t.cy, .int .i64 t.cz, .int .i64 t.dir, .bool t.full, .int .i64 t.feed, .bool t.perrev, .int .i64 t.side, .int .i64 t.radius, .int .i64 t.blend, .int .i64 t.n, .int .i64 t.speed, .bool t.on] 27)) := ItC.fresh t w _ rfl
  obtain ⟨k, hkk⟩ : ∃ k, t.plane = k := ⟨_, rfl⟩
  obtain ⟨d, hdd⟩ : ∃ d, t.dir = d := ⟨_, rfl⟩
  obtain ⟨f, hff⟩ : ∃ f, t.full = f := ⟨_, rfl⟩
  have hT : ∀ (k0 p0 d0 : Int) (f0 : Bool), t.kind = k0 → t.plane = p0 → t.dir = d0 → t.full = f0 → Lf w.heap.size (w.heap.size + 1) [(⟨w.heap.size, 0, none⟩, .int .i64 k0), (⟨w.heap.size, 2, none⟩, .int .i64 t.fx), (⟨w.heap.size, 3, none⟩, .int .i64 t.fy), (⟨w.heap.size, 4, none⟩, .int .i64 t.fz), (⟨w.heap.size, 5, none⟩, .int .i64 t.tx), (⟨w.heap.size, 6, none⟩, .int .i64 t.ty), (⟨w.heap.size, 7, none⟩, .int .i64 t.tz), (⟨w.heap.size, 8, none⟩, .int .i64 p0), (⟨w.heap.size, 9, none⟩, .int .i64 t.cx), (⟨w.heap.size, 10, none⟩, .int .i64 t.cy), (⟨w.heap.size, 11, none⟩, .int .i64 t.cz), (⟨w.heap.size, 12, none⟩, .int .i64 d0), (⟨w.heap.size, 13, none⟩, .bool f0)] w (w.alloc (.cells #[.int .i64 t.kind, .int .i64 t.block, .int .i64 t.fx, .int .i64 t.fy, .int .i64 t.fz, .int .i64 t.tx, .int .i64 t.ty, .int .i64 t.tz, .int .i64 t.plane, .int .i64 t.cx, .int .i64 t.cy, .int .i64 t.cz, .int .i64 t.dir, .bool t.full, .int .i64 t.feed, .bool t.perrev, .int .i64 t.side, .int .i64 t.radius, .int .i64 t.blend, .int .i64 t.n, .int .i64 t.speed, .bool t.on] 27)) := by
    rintro _ _ _ _ rfl rfl rfl rfl
    exact ⟨by simp [List.forall_mem_cons, go_sem], by simp [List.forall_mem_cons, go_sem], by simp [List.forall_mem_cons] <;> omega, by simp, by (repeat (first | exact Below.refl _ _ | refine Below.alloc ?_ (by simp <;> omega) _)), by omega⟩
  have hT := hT 3 k d f hk hkk hdd hff
  rw [hkk] at pk
  rw [hdd] at hd
  rw [hff] at hf
  clear hk hkk hdd hff ha1 ha2 ha3 hb1 hb2 hb3
  subst hf
  go_enter Try.func21, Try.ntmps21
  go_upto_region 1 with fail
  refine wp_cls (fun wr => ItC t w.heap.size wr ∧ Lf w.heap.size (w.heap.size + 1) [(⟨w.heap.size, 0, none⟩, .int .i64 3), (⟨w.heap.size, 2, none⟩, .int .i64 t.fx), (⟨w.heap.size, 3, none⟩, .int .i64 t.fy), (⟨w.heap.size, 4, none⟩, .int .i64 t.fz), (⟨w.heap.size, 5, none⟩, .int .i64 t.tx), (⟨w.heap.size, 6, none⟩, .int .i64 t.ty), (⟨w.heap.size, 7, none⟩, .int .i64 t.tz), (⟨w.heap.size, 8, none⟩, .int .i64 k), (⟨w.heap.size, 9, none⟩, .int .i64 t.cx), (⟨w.heap.size, 10, none⟩, .int .i64 t.cy), (⟨w.heap.size, 11, none⟩, .int .i64 t.cz), (⟨w.heap.size, 12, none⟩, .int .i64 d), (⟨w.heap.size, 13, none⟩, .bool false)] w wr) ⟨hI, hT⟩ ?_
  clear hT hI
  rintro w0 ⟨hI, hT⟩
  have kc := hT.cells
  have kf := hT.frz
  simp only [List.forall_mem_cons, List.not_mem_nil, false_implies, implies_true, and_true] at kc kf
  obtain ⟨yc0, yc1, yc2, yc3, yc4, yc5, yc6, yc7, yc8, yc9, yc10, yc11, yc12⟩ := kc
  obtain ⟨yf0, yf1, yf2, yf3, yf4, yf5, yf6, yf7, yf8, yf9, yf10, yf11, yf12⟩ := kf
  go_wp2_with fail
  refine (MO _).out.mono ?_
  rintro e w1 ⟨rfl, hb1⟩
  have hT := hT.next hb1
  have hI := hI.next hb1
  clear hb1 yc0 yf0 yc1 yf1 yc2 yf2 yc3 yf3 yc4 yf4 yc5 yf5 yc6 yf6 yc7 yf7 yc8 yf8 yc9 yf9 yc10 yf10 yc11 yf11 yc12 yf12
  have kc := hT.cells
  have kf := hT.frz
  simp only [List.forall_mem_cons, List.not_mem_nil, false_implies, implies_true, and_true] at kc kf
  obtain ⟨yc0, yc1, yc2, yc3, yc4, yc5, yc6, yc7, yc8, yc9, yc10, yc11, yc12⟩ := kc
  obtain ⟨yf0, yf1, yf2, yf3, yf4, yf5, yf6, yf7, yf8, yf9, yf10, yf11, yf12⟩ := kf
  go_wp2_with fail
  refine (WF _).out.mono ?_
  rintro e w1 ⟨rfl, hb1⟩
  have hT := hT.next hb1
  have hI := hI.next hb1
  clear hb1 yc0 yf0 yc1 yf1 yc2 yf2 yc3 yf3 yc4 yf4 yc5 yf5 yc6 yf6 yc7 yf7 yc8 yf8 yc9 yf9 yc10 yf10 yc11 yf11 yc12 yf12
  have kc := hT.cells
  have kf := hT.frz
  simp only [List.forall_mem_cons, List.not_mem_nil, false_implies, implies_true, and_true] at kc kf
  obtain ⟨yc0, yc1, yc2, yc3, yc4, yc5, yc6, yc7, yc8, yc9, yc10, yc11, yc12⟩ := kc
  obtain ⟨yf0, yf1, yf2, yf3, yf4, yf5, yf6, yf7, yf8, yf9, yf10, yf11, yf12⟩ := kf
  go_wp2_with fail
  refine (WT _).out.mono ?_
  rintro e w1 ⟨rfl, hb1⟩
  have hT := hT.next hb1
  have hI := hI.next hb1
  clear hb1 yc0 yf0 yc1 yf1 yc2 yf2 yc3 yf3 yc4 yf4 yc5 yf5 yc6 yf6 yc7 yf7 yc8 yf8 yc9 yf9 yc10 yf10 yc11 yf11 yc12 yf12
  have kc := hT.cells
  have kf := hT.frz
  simp only [List.forall_mem_cons, List.not_mem_nil, false_implies, implies_true, and_true] at kc kf
  obtain ⟨yc0, yc1, yc2, yc3, yc4, yc5, yc6, yc7, yc8, yc9, yc10, yc11, yc12⟩ := kc
  obtain ⟨yf0, yf1, yf2, yf3, yf4, yf5, yf6, yf7, yf8, yf9, yf10, yf11, yf12⟩ := kf
  go_upto_region 5 with fail
  go_cut [55] (fun s wx => s = .bool false ∧ ItC t w.heap.size wx ∧ Lf w.heap.size (w.heap.size + 1) [(⟨w.heap.size, 0, none⟩, .int .i64 3), (⟨w.heap.size, 2, none⟩, .int .i64 t.fx), (⟨w.heap.size, 3, none⟩, .int .i64 t.fy), (⟨w.heap.size, 4, none⟩, .int .i64 t.fz), (⟨w.heap.size, 5, none⟩, .int .i64 t.tx), (⟨w.heap.size, 6, none⟩, .int .i64 t.ty), (⟨w.heap.size, 7, none⟩, .int .i64 t.tz), (⟨w.heap.size, 8, none⟩, .int .i64 k), (⟨w.heap.size, 9, none⟩, .int .i64 t.cx), (⟨w.heap.size, 10, none⟩, .int .i64 t.cy), (⟨w.heap.size, 11, none⟩, .int .i64 t.cz), (⟨w.heap.size, 12, none⟩, .int .i64 d), (⟨w.heap.size, 13, none⟩, .bool false)] w wx)
  case first =>
    rcases pk with rfl | rfl | rfl <;> rcases hd with rfl | rfl
    all_goals
      go_wp2_with fail
      refine (WC _).out.mono ?_
      rintro e w1 ⟨rfl, hb1⟩
      have hT := hT.next hb1
      have hI := hI.next hb1
      clear hb1 yc0 yf0 yc1 yf1 yc2 yf2 yc3 yf3 yc4 yf4 yc5 yf5 yc6 yf6 yc7 yf7 yc8 yf8 yc9 yf9 yc10 yf10 yc11 yf11 yc12 yf12
      go_wp2_with fail
      go_meet
      exact ⟨rfl, hI, hT⟩
  case rest =>
    obtain ⟨rfl, hI, hT⟩ := hcut
    clear WC pk hd
    go_wp2_with (refine wpList_load_g (by rfl) 27 (.tmp 1) rfl w.heap.size 0 rfl (itL t) _ hI.rg Try.underlying27 rfl (by kernel_rfl) ?_)
    refine (EN _).out.mono ?_
    rintro e w2 ⟨rfl, hb1⟩
    have hT := hT.next hb1
    clear hb1 hI
    have hlw := hT.lt
    have hV := (hT.pushg w2.heap.size #[.int .i64 aU, .int .i64 aW, .int .i64 0, .int .i64 aH] 34 rfl).pushg (w2.heap.size + 1) #[.int .i64 bU, .int .i64 bW, .int .i64 0, .int .i64 bH] 34 (by simp)
    have hV := hV.sub (ds := [(⟨w.heap.size, 13, none⟩, .bool false), (⟨w2.heap.size, 0, none⟩, .int .i64 aU), (⟨w2.heap.size, 1, none⟩, .int .i64 aW), (⟨w2.heap.size, 2, none⟩, .int .i64 0), (⟨w2.heap.size, 3, none⟩, .int .i64 aH), (⟨(w2.heap.size + 1), 0, none⟩, .int .i64 bU), (⟨(w2.heap.size + 1), 1, none⟩, .int .i64 bW), (⟨(w2.heap.size + 1), 2, none⟩, .int .i64 0), (⟨(w2.heap.size + 1), 3, none⟩, .int .i64 bH)]) (by simp [blk])
    clear hT
    go_upto_region 8 with fail
    generalize w2.heap.size = g at *
    (refine wp_region_class (Lf w.heap.size (g + 1 + 1) [(⟨w.heap.size, 13, none⟩, .bool false), (⟨g, 0, none⟩, .int .i64 aU), (⟨g, 1, none⟩, .int .i64 aW), (⟨g, 2, none⟩, .int .i64 0), (⟨g, 3, none⟩, .int .i64 aH), (⟨(g + 1), 0, none⟩, .int .i64 bU), (⟨(g + 1), 1, none⟩, .int .i64 bW), (⟨(g + 1), 2, none⟩, .int .i64 0), (⟨(g + 1), 3, none⟩, .int .i64 bH)] w) (hV.next (Below.refl _ _).drew) (by kernel_rfl) (by kernel_rfl) ?_; repeat (refine wpQuiet_step (fun qK9 qH9 => ?_); go_simp; first | (refine qH9 _ ?_; clear qH9 qK9) | (apply Exists.intro; refine ⟨?_, qH9 _ ?_⟩; (first | (intros; rfl) | (first | (intro wx hC; ((have qk9 := (hC).cells; simp only [List.forall_mem_cons, List.not_mem_nil, false_implies, implies_true, and_true] at qk9; repeat (obtain ⟨qk8, qk9⟩ := qk9)); go_simp; first | done | rfl)) | (intro wx hC; with_reducible exact Calls.lays (DA wx).out (fun _ => hC.next)) | (intro wx hC; with_reducible exact Calls.lays (DB wx).out (fun _ => hC.next)))); clear qH9 qK9)))
    refine wpQuiet_nil ?_
    clear hV
    intro w4 hT
    have kc := hT.cells
    have kf := hT.frz
    simp only [List.forall_mem_cons, List.not_mem_nil, false_implies, implies_true, and_true] at kc kf
    obtain ⟨yc0, yc1, yc2, yc3, yc4, yc5, yc6, yc7, yc8⟩ := kc
    obtain ⟨yf0, yf1, yf2, yf3, yf4, yf5, yf6, yf7, yf8⟩ := kf
    go_wp2_with fail
    refine (NR _).out.mono ?_
    rintro e w1 ⟨rfl, hb1⟩
    have hT := hT.next hb1
    clear hb1 yc0 yf0 yc1 yf1 yc2 yf2 yc3 yf3 yc4 yf4 yc5 yf5 yc6 yf6 yc7 yf7 yc8 yf8
    have kc := hT.cells
    have kf := hT.frz
    simp only [List.forall_mem_cons, List.not_mem_nil, false_implies, implies_true, and_true] at kc kf
    obtain ⟨yc0, yc1, yc2, yc3, yc4, yc5, yc6, yc7, yc8⟩ := kc
    obtain ⟨yf0, yf1, yf2, yf3, yf4, yf5, yf6, yf7, yf8⟩ := kf
    go_wp2_with fail
    refine (CX _).out.mono ?_
    rintro e w5 ⟨rfl, hb1⟩
    have hT := hT.next hb1
    clear hb1 yc0 yf0 yc1 yf1 yc2 yf2 yc3 yf3 yc4 yf4 yc5 yf5 yc6 yf6 yc7 yf7 yc8 yf8
    have kc := hT.cells
    have kf := hT.frz
    simp only [List.forall_mem_cons, List.not_mem_nil, false_implies, implies_true, and_true] at kc kf
    obtain ⟨yc0, yc1, yc2, yc3, yc4, yc5, yc6, yc7, yc8⟩ := kc
    obtain ⟨yf0, yf1, yf2, yf3, yf4, yf5, yf6, yf7, yf8⟩ := kf
    go_wp2_with fail
    refine (DX _).out.mono ?_
    rintro e w6 ⟨rfl, hb1⟩
    have hT := hT.next hb1
    go_wp2_with fail
    go_ret
    exact ⟨by first | rfl | (simp; done) | (simp; omega), hT.be⟩
end Go.Proofs.Ytkjjoclbjkpdaaa
