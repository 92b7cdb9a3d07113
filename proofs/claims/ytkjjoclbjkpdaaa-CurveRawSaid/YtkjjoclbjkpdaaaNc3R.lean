/- Proved here: Valid of the program says true for arcs that meet the conditions; ranges as stated. -/
import Derived.Test.YtkjjoclbjkpdaaaNc2R
namespace Go.Proofs.Ytkjjoclbjkpdaaa
open Go.RowKit
set_option linter.unusedVariables false
set_option linter.unusedSimpArgs false
theorem bd21 {x : Int} (h : -2097152 ≤ x ∧ x ≤ 2097152) : 0 ≤ x * x ∧ x * x ≤ 4398046511104 := by
  have e : (x * x).natAbs ≤ 2097152 * 2097152 := by rw [Int.natAbs_mul]; exact Nat.mul_le_mul (by omega) (by omega)
  have := sq_nn x
  omega
theorem sc256 (x y : Int) : x * 16 * (x * 16) + y * 16 * (y * 16) = (x * x + y * y) * 256 := by grind
set_option maxHeartbeats 16000000 in
set_option maxRecDepth 40000 in
theorem ValidP_true (t : Itm) (w : World) (h : t.Ok) :
    Calls Try.prog 20 #[.agg #[.int .i64 t.kind, .int .i64 t.block, .int .i64 t.fx, .int .i64 t.fy, .int .i64 t.fz, .int .i64 t.tx, .int .i64 t.ty, .int .i64 t.tz, .int .i64 t.plane, .int .i64 t.cx, .int .i64 t.cy, .int .i64 t.cz, .int .i64 t.dir, .bool t.full, .int .i64 t.feed, .bool t.perrev, .int .i64 t.side, .int .i64 t.radius, .int .i64 t.blend, .int .i64 t.n, .int .i64 t.speed, .bool t.on]] w fun e w' => e = .returned (.bool true) ∧ Below w.heap.size w w' := by
  obtain ⟨ht, hk, hd, hx, hy, hn, hf, hp⟩ := h
  have EN := fun w => Lib.hid (endsP_any t w ht)
  obtain ⟨ha1, ha2, ha3, hb1, hb2, hb3⟩ := ht.bd
  obtain ⟨f1, t1, c1, pk⟩ := ht
  have WF := fun w => Lib.hid (withinP_any t.fx t.fy t.fz w)
  have WT := fun w => Lib.hid (withinP_any t.tx t.ty t.tz w)
  have WC := fun w => Lib.hid (withinP_any t.cx t.cy t.cz w)
  rw [smB_iff.2 f1] at WF
  rw [smB_iff.2 t1] at WT
  rw [smB_iff.2 c1] at WC
  have AX := fun w => Lib.hid (axes_any t.plane w pk)
  clear f1 t1 c1 pk
  have q1 := bd21 ha1
  have q2 := bd21 ha2
  have q3 := bd21 hb1
  have q4 := bd21 hb2
  have NR := fun w => Lib.hid (nearP_true (t.aU * t.aU + t.aW * t.aW) (t.bU * t.bU + t.bW * t.bW) w (by omega) (by omega) hn)
  have DA := fun w => Lib.hid (dotP_any (t.aU * 16) (t.aW * 16) 0 (t.aH * 16) (t.aU * 16) (t.aW * 16) 0 (t.aH * 16) w ⟨⟨by omega, by omega⟩, by omega, by omega⟩ ⟨⟨by omega, by omega⟩, by omega, by omega⟩)
  have DB := fun w => Lib.hid (dotP_any (t.bU * 16) (t.bW * 16) 0 (t.bH * 16) (t.bU * 16) (t.bW * 16) 0 (t.bH * 16) w ⟨⟨by omega, by omega⟩, by omega, by omega⟩ ⟨⟨by omega, by omega⟩, by omega, by omega⟩)
  have CX := fun w => Lib.hid (crossP_any (t.aU * 16) (t.aW * 16) 0 (t.aH * 16) (t.bU * 16) (t.bW * 16) 0 (t.bH * 16) w ⟨⟨by omega, by omega⟩, by omega, by omega⟩ ⟨⟨by omega, by omega⟩, by omega, by omega⟩)
  have DX := fun w => Lib.hid (dotP_any (t.aU * 16) (t.aW * 16) 0 (t.aH * 16) (t.bU * 16) (t.bW * 16) 0 (t.bH * 16) w ⟨⟨by omega, by omega⟩, by omega, by omega⟩ ⟨⟨by omega, by omega⟩, by omega, by omega⟩)
  rw [sc256] at DA DB
  have ex : t.aU * 16 * (t.bW * 16) - t.aW * 16 * (t.bU * 16) = (t.aU * t.bW - t.aW * t.bU) * 256 := by grind
  have ed : t.aU * 16 * (t.bU * 16) + t.aW * 16 * (t.bW * 16) = (t.aU * t.bU + t.aW * t.bW) * 256 := by grind
  rw [ex] at CX
  rw [ed] at DX
  have hxb : t.aU * t.aU + t.aW * t.aW ≤ 8796093022208 := by omega
  have hyb : t.bU * t.bU + t.bW * t.bW ≤ 8796093022208 := by omega
  clear ex ed q1 q2 q3 q4 hn
  generalize t.aU * t.aU + t.aW * t.aW = x at *
  generalize t.bU * t.bU + t.bW * t.bW = y at *
  generalize t.aU * t.bW - t.aW * t.bU = cr at *
  generalize t.aU * t.bU + t.aW * t.bW = dt at *
  generalize t.aU = aU at *
  generalize t.aW = aW at *
  generalize t.aH = aH at *
  generalize t.bU = bU at *
  generalize t.bW = bW at *
  generalize t.bH = bH at *
  have hI : ItC t w.heap.size (w.alloc (.cells #[.int .i64 t.kind, .int .i64 t.block, .int .i64 t.fx, .int .i64 t.fy, .int .i64 t.fz, .int .i64 t.tx, .int .i64 t.ty, .int .i64 t.tz, .int .i64 t.plane, .int .i64 t.cx, .int .i64 t.cy, .int .i64 t.cz, .int .i64 t.dir, .bool t.full, .int .i64 t.feed, .bool t.perrev, .int .i64 t.side, .int .i64 t.radius, .int .i64 t.blend, .int .i64 t.n, .int .i64 t.speed, .bool t.on] 27)) := ItC.fresh t w _ rfl
  obtain ⟨d, hdd⟩ : ∃ d, t.dir = d := ⟨_, rfl⟩
  obtain ⟨f, hff⟩ : ∃ f, t.full = f := ⟨_, rfl⟩
  have hT : ∀ (k0 d0 : Int) (f0 : Bool), t.kind = k0 → t.dir = d0 → t.full = f0 → Lf w.heap.size (w.heap.size + 1) [(⟨w.heap.size, 0, none⟩, .int .i64 k0), (⟨w.heap.size, 2, none⟩, .int .i64 t.fx), (⟨w.heap.size, 3, none⟩, .int .i64 t.fy), (⟨w.heap.size, 4, none⟩, .int .i64 t.fz), (⟨w.heap.size, 5, none⟩, .int .i64 t.tx), (⟨w.heap.size, 6, none⟩, .int .i64 t.ty), (⟨w.heap.size, 7, none⟩, .int .i64 t.tz), (⟨w.heap.size, 8, none⟩, .int .i64 t.plane), (⟨w.heap.size, 9, none⟩, .int .i64 t.cx), (⟨w.heap.size, 10, none⟩, .int .i64 t.cy), (⟨w.heap.size, 11, none⟩, .int .i64 t.cz), (⟨w.heap.size, 12, none⟩, .int .i64 d0), (⟨w.heap.size, 13, none⟩, .bool f0)] w (w.alloc (.cells #[.int .i64 t.kind, .int .i64 t.block, .int .i64 t.fx, .int .i64 t.fy, .int .i64 t.fz, .int .i64 t.tx, .int .i64 t.ty, .int .i64 t.tz, .int .i64 t.plane, .int .i64 t.cx, .int .i64 t.cy, .int .i64 t.cz, .int .i64 t.dir, .bool t.full, .int .i64 t.feed, .bool t.perrev, .int .i64 t.side, .int .i64 t.radius, .int .i64 t.blend, .int .i64 t.n, .int .i64 t.speed, .bool t.on] 27)) := by
    rintro _ _ _ rfl rfl rfl
    exact ⟨by simp [List.forall_mem_cons, go_sem], by simp [List.forall_mem_cons, go_sem], by simp [List.forall_mem_cons] <;> omega, by simp, by (repeat (first | exact Below.refl _ _ | refine Below.alloc ?_ (by simp <;> omega) _)), by omega⟩
  have hT := hT 3 d f hk hdd hff
  rw [hdd] at hd
  rw [hff] at hf hp
  clear hk hdd hff ha1 ha2 ha3 hb1 hb2 hb3
  rcases hd with rfl | rfl
  · cases f
    · have hq := hp rfl
      clear hf hp
      go_enter Try.func20, Try.ntmps20
      go_upto_region 1 with fail
      refine wp_cls (fun wr => ItC t w.heap.size wr ∧ Lf w.heap.size (w.heap.size + 1) [(⟨w.heap.size, 0, none⟩, .int .i64 3), (⟨w.heap.size, 2, none⟩, .int .i64 t.fx), (⟨w.heap.size, 3, none⟩, .int .i64 t.fy), (⟨w.heap.size, 4, none⟩, .int .i64 t.fz), (⟨w.heap.size, 5, none⟩, .int .i64 t.tx), (⟨w.heap.size, 6, none⟩, .int .i64 t.ty), (⟨w.heap.size, 7, none⟩, .int .i64 t.tz), (⟨w.heap.size, 8, none⟩, .int .i64 t.plane), (⟨w.heap.size, 9, none⟩, .int .i64 t.cx), (⟨w.heap.size, 10, none⟩, .int .i64 t.cy), (⟨w.heap.size, 11, none⟩, .int .i64 t.cz), (⟨w.heap.size, 12, none⟩, .int .i64 1), (⟨w.heap.size, 13, none⟩, .bool false)] w wr) ⟨hI, hT⟩ ?_
      clear hT hI
      rintro w0 ⟨hI, hT⟩
      have kc := hT.cells
      have kf := hT.frz
      simp only [List.forall_mem_cons, List.not_mem_nil, false_implies, implies_true, and_true] at kc kf
      obtain ⟨yc0, yc1, yc2, yc3, yc4, yc5, yc6, yc7, yc8, yc9, yc10, yc11, yc12⟩ := kc
      obtain ⟨yf0, yf1, yf2, yf3, yf4, yf5, yf6, yf7, yf8, yf9, yf10, yf11, yf12⟩ := kf
      go_wp2_with fail
      refine (WF _).out.mono ?_
      rintro e w1 ⟨rfl, hb1⟩
      have hT := hT.next hb1
      have hI := hI.next hb1
      clear hb1 yc0 yf0 yc1 yf1 yc2 yf2 yc3 yf3 yc4 yf4 yc5 yf5 yc6 yf6 yc7 yf7 yc8 yf8 yc9 yf9 yc10 yf10 yc11 yf11 yc12 yf12
      have kc := hT.cells
      have kf := hT.frz
      simp only [List.forall_mem_cons, List.not_mem_nil, false_implies, implies_true, and_true] at kc kf
      obtain ⟨yc0, yc1, yc2, yc3, yc4, yc5, yc6, yc7, yc8, yc9, yc10, yc11, yc12⟩ := kc
      obtain ⟨yf0, yf1, yf2, yf3, yf4, yf5, yf6, yf7, yf8, yf9, yf10, yf11, yf12⟩ := kf
      go_wp2_with fail
      refine (WT _).out.mono ?_
      rintro e w1 ⟨rfl, hb1⟩
      have hT := hT.next hb1
      have hI := hI.next hb1
      clear hb1 yc0 yf0 yc1 yf1 yc2 yf2 yc3 yf3 yc4 yf4 yc5 yf5 yc6 yf6 yc7 yf7 yc8 yf8 yc9 yf9 yc10 yf10 yc11 yf11 yc12 yf12
      have kc := hT.cells
      have kf := hT.frz
      simp only [List.forall_mem_cons, List.not_mem_nil, false_implies, implies_true, and_true] at kc kf
      obtain ⟨yc0, yc1, yc2, yc3, yc4, yc5, yc6, yc7, yc8, yc9, yc10, yc11, yc12⟩ := kc
      obtain ⟨yf0, yf1, yf2, yf3, yf4, yf5, yf6, yf7, yf8, yf9, yf10, yf11, yf12⟩ := kf
      go_wp2_with fail
      refine (AX _).out.mono ?_
      rintro e w2 ⟨a0, b0, c0, rfl, rfl⟩
      go_wp2_with fail
      refine (WC _).out.mono ?_
      rintro e w1 ⟨rfl, hb1⟩
      have hT := hT.next hb1
      have hI := hI.next hb1
      clear hb1 yc0 yf0 yc1 yf1 yc2 yf2 yc3 yf3 yc4 yf4 yc5 yf5 yc6 yf6 yc7 yf7 yc8 yf8 yc9 yf9 yc10 yf10 yc11 yf11 yc12 yf12
      have kc := hT.cells
      have kf := hT.frz
      simp only [List.forall_mem_cons, List.not_mem_nil, false_implies, implies_true, and_true] at kc kf
      obtain ⟨yc0, yc1, yc2, yc3, yc4, yc5, yc6, yc7, yc8, yc9, yc10, yc11, yc12⟩ := kc
      obtain ⟨yf0, yf1, yf2, yf3, yf4, yf5, yf6, yf7, yf8, yf9, yf10, yf11, yf12⟩ := kf
      go_wp2_with (refine wpList_load_g (by rfl) 27 (.tmp 1) rfl w.heap.size 0 rfl (itL t) _ hI.rg Try.underlying27 rfl (by kernel_rfl) ?_)
      refine (EN _).out.mono ?_
      rintro e w2 ⟨rfl, hb1⟩
      have hT := hT.next hb1
      clear hb1 yc0 yf0 yc1 yf1 yc2 yf2 yc3 yf3 yc4 yf4 yc5 yf5 yc6 yf6 yc7 yf7 yc8 yf8 yc9 yf9 yc10 yf10 yc11 yf11 yc12 yf12 hI
      have hlw := hT.lt
      have hV := (hT.pushg w2.heap.size #[.int .i64 (aU * 16), .int .i64 (aW * 16), .int .i64 0, .int .i64 (aH * 16)] 34 rfl).pushg (w2.heap.size + 1) #[.int .i64 (bU * 16), .int .i64 (bW * 16), .int .i64 0, .int .i64 (bH * 16)] 34 (by simp)
      have hV := hV.sub (ds := [(⟨w.heap.size, 13, none⟩, .bool false), (⟨w2.heap.size, 0, none⟩, .int .i64 (aU * 16)), (⟨w2.heap.size, 1, none⟩, .int .i64 (aW * 16)), (⟨w2.heap.size, 2, none⟩, .int .i64 (0)), (⟨w2.heap.size, 3, none⟩, .int .i64 (aH * 16)), (⟨(w2.heap.size + 1), 0, none⟩, .int .i64 (bU * 16)), (⟨(w2.heap.size + 1), 1, none⟩, .int .i64 (bW * 16)), (⟨(w2.heap.size + 1), 2, none⟩, .int .i64 (0)), (⟨(w2.heap.size + 1), 3, none⟩, .int .i64 (bH * 16))]) (by simp [blk])
      clear hT
      go_upto_region 10 with fail
      generalize w2.heap.size = g at *
      (refine wp_region_class (Lf w.heap.size (g + 1 + 1) [(⟨w.heap.size, 13, none⟩, .bool false), (⟨g, 0, none⟩, .int .i64 (aU * 16)), (⟨g, 1, none⟩, .int .i64 (aW * 16)), (⟨g, 2, none⟩, .int .i64 (0)), (⟨g, 3, none⟩, .int .i64 (aH * 16)), (⟨(g + 1), 0, none⟩, .int .i64 (bU * 16)), (⟨(g + 1), 1, none⟩, .int .i64 (bW * 16)), (⟨(g + 1), 2, none⟩, .int .i64 (0)), (⟨(g + 1), 3, none⟩, .int .i64 (bH * 16))] w) (hV.next (Below.refl _ _).drew) (by kernel_rfl) (by kernel_rfl) ?_; repeat (refine wpQuiet_step (fun qK9 qH9 => ?_); go_simp; first | (refine qH9 _ ?_; clear qH9 qK9) | (apply Exists.intro; refine ⟨?_, qH9 _ ?_⟩; (first | (intros; rfl) | (first | (intro wx hC; ((have qk9 := (hC).cells; simp only [List.forall_mem_cons, List.not_mem_nil, false_implies, implies_true, and_true] at qk9; repeat (obtain ⟨qk8, qk9⟩ := qk9)); go_simp; first | done | rfl)) | (intro wx hC; with_reducible exact Calls.lays (DA wx).out (fun _ => hC.next)) | (intro wx hC; with_reducible exact Calls.lays (DB wx).out (fun _ => hC.next)))); clear qH9 qK9)))
      refine wpQuiet_nil ?_
      clear hV
      intro w4 hT
      have kc := hT.cells
      have kf := hT.frz
      simp only [List.forall_mem_cons, List.not_mem_nil, false_implies, implies_true, and_true] at kc kf
      obtain ⟨yc0, yc1, yc2, yc3, yc4, yc5, yc6, yc7, yc8⟩ := kc
      obtain ⟨yf0, yf1, yf2, yf3, yf4, yf5, yf6, yf7, yf8⟩ := kf
      go_wp2_with fail
      refine (NR _).out.mono ?_
      rintro e w1 ⟨rfl, hb1⟩
      have hT := hT.next hb1
      clear hb1 yc0 yf0 yc1 yf1 yc2 yf2 yc3 yf3 yc4 yf4 yc5 yf5 yc6 yf6 yc7 yf7 yc8 yf8
      have kc := hT.cells
      have kf := hT.frz
      simp only [List.forall_mem_cons, List.not_mem_nil, false_implies, implies_true, and_true] at kc kf
      obtain ⟨yc0, yc1, yc2, yc3, yc4, yc5, yc6, yc7, yc8⟩ := kc
      obtain ⟨yf0, yf1, yf2, yf3, yf4, yf5, yf6, yf7, yf8⟩ := kf
      go_wp2_with fail
      refine (CX _).out.mono ?_
      rintro e w5 ⟨rfl, hb1⟩
      have hT := hT.next hb1
      clear hb1 yc0 yf0 yc1 yf1 yc2 yf2 yc3 yf3 yc4 yf4 yc5 yf5 yc6 yf6 yc7 yf7 yc8 yf8
      have kc := hT.cells
      have kf := hT.frz
      simp only [List.forall_mem_cons, List.not_mem_nil, false_implies, implies_true, and_true] at kc kf
      obtain ⟨yc0, yc1, yc2, yc3, yc4, yc5, yc6, yc7, yc8⟩ := kc
      obtain ⟨yf0, yf1, yf2, yf3, yf4, yf5, yf6, yf7, yf8⟩ := kf
      by_cases hc : cr = 0
      · have hdt : dt < 0 := by rcases hq with h | h; exact absurd hc h; exact h
        have hd1 : decide (dt * 256 < 0) = true := decide_eq_true (by omega)
        subst hc
        go_wp2_with fail
        refine (DX _).out.mono ?_
        rintro e w6 ⟨rfl, hb1⟩
        have hT := hT.next hb1
        go_wp2_with fail
        go_ret
        exact ⟨by first | rfl | (simp; done) | (simp; omega), hT.be⟩
      · have hc1 : ¬ cr * 256 = 0 := by omega
        go_wp2_with fail
        go_ret
        exact ⟨rfl, hT.be⟩
    · obtain ⟨rfl, rfl⟩ := hf rfl
      clear hp
      go_enter Try.func20, Try.ntmps20
      go_upto_region 1 with fail
      refine wp_cls (fun wr => ItC t w.heap.size wr ∧ Lf w.heap.size (w.heap.size + 1) [(⟨w.heap.size, 0, none⟩, .int .i64 3), (⟨w.heap.size, 2, none⟩, .int .i64 t.fx), (⟨w.heap.size, 3, none⟩, .int .i64 t.fy), (⟨w.heap.size, 4, none⟩, .int .i64 t.fz), (⟨w.heap.size, 5, none⟩, .int .i64 t.tx), (⟨w.heap.size, 6, none⟩, .int .i64 t.ty), (⟨w.heap.size, 7, none⟩, .int .i64 t.tz), (⟨w.heap.size, 8, none⟩, .int .i64 t.plane), (⟨w.heap.size, 9, none⟩, .int .i64 t.cx), (⟨w.heap.size, 10, none⟩, .int .i64 t.cy), (⟨w.heap.size, 11, none⟩, .int .i64 t.cz), (⟨w.heap.size, 12, none⟩, .int .i64 1), (⟨w.heap.size, 13, none⟩, .bool true)] w wr) ⟨hI, hT⟩ ?_
      clear hT hI
      rintro w0 ⟨hI, hT⟩
      have kc := hT.cells
      have kf := hT.frz
      simp only [List.forall_mem_cons, List.not_mem_nil, false_implies, implies_true, and_true] at kc kf
      obtain ⟨yc0, yc1, yc2, yc3, yc4, yc5, yc6, yc7, yc8, yc9, yc10, yc11, yc12⟩ := kc
      obtain ⟨yf0, yf1, yf2, yf3, yf4, yf5, yf6, yf7, yf8, yf9, yf10, yf11, yf12⟩ := kf
      go_wp2_with fail
      refine (WF _).out.mono ?_
      rintro e w1 ⟨rfl, hb1⟩
      have hT := hT.next hb1
      have hI := hI.next hb1
      clear hb1 yc0 yf0 yc1 yf1 yc2 yf2 yc3 yf3 yc4 yf4 yc5 yf5 yc6 yf6 yc7 yf7 yc8 yf8 yc9 yf9 yc10 yf10 yc11 yf11 yc12 yf12
      have kc := hT.cells
      have kf := hT.frz
      simp only [List.forall_mem_cons, List.not_mem_nil, false_implies, implies_true, and_true] at kc kf
      obtain ⟨yc0, yc1, yc2, yc3, yc4, yc5, yc6, yc7, yc8, yc9, yc10, yc11, yc12⟩ := kc
      obtain ⟨yf0, yf1, yf2, yf3, yf4, yf5, yf6, yf7, yf8, yf9, yf10, yf11, yf12⟩ := kf
      go_wp2_with fail
      refine (WT _).out.mono ?_
      rintro e w1 ⟨rfl, hb1⟩
      have hT := hT.next hb1
      have hI := hI.next hb1
      clear hb1 yc0 yf0 yc1 yf1 yc2 yf2 yc3 yf3 yc4 yf4 yc5 yf5 yc6 yf6 yc7 yf7 yc8 yf8 yc9 yf9 yc10 yf10 yc11 yf11 yc12 yf12
      have kc := hT.cells
      have kf := hT.frz
      simp only [List.forall_mem_cons, List.not_mem_nil, false_implies, implies_true, and_true] at kc kf
      obtain ⟨yc0, yc1, yc2, yc3, yc4, yc5, yc6, yc7, yc8, yc9, yc10, yc11, yc12⟩ := kc
      obtain ⟨yf0, yf1, yf2, yf3, yf4, yf5, yf6, yf7, yf8, yf9, yf10, yf11, yf12⟩ := kf
      go_wp2_with fail
      refine (AX _).out.mono ?_
      rintro e w2 ⟨a0, b0, c0, rfl, rfl⟩
      go_wp2_with fail
      refine (WC _).out.mono ?_
      rintro e w1 ⟨rfl, hb1⟩
      have hT := hT.next hb1
      have hI := hI.next hb1
      clear hb1 yc0 yf0 yc1 yf1 yc2 yf2 yc3 yf3 yc4 yf4 yc5 yf5 yc6 yf6 yc7 yf7 yc8 yf8 yc9 yf9 yc10 yf10 yc11 yf11 yc12 yf12
      have kc := hT.cells
      have kf := hT.frz
      simp only [List.forall_mem_cons, List.not_mem_nil, false_implies, implies_true, and_true] at kc kf
      obtain ⟨yc0, yc1, yc2, yc3, yc4, yc5, yc6, yc7, yc8, yc9, yc10, yc11, yc12⟩ := kc
      obtain ⟨yf0, yf1, yf2, yf3, yf4, yf5, yf6, yf7, yf8, yf9, yf10, yf11, yf12⟩ := kf
      go_wp2_with (refine wpList_load_g (by rfl) 27 (.tmp 1) rfl w.heap.size 0 rfl (itL t) _ hI.rg Try.underlying27 rfl (by kernel_rfl) ?_)
      refine (EN _).out.mono ?_
      rintro e w2 ⟨rfl, hb1⟩
      have hT := hT.next hb1
      clear hb1 yc0 yf0 yc1 yf1 yc2 yf2 yc3 yf3 yc4 yf4 yc5 yf5 yc6 yf6 yc7 yf7 yc8 yf8 yc9 yf9 yc10 yf10 yc11 yf11 yc12 yf12 hI
      have hlw := hT.lt
      have hV := (hT.pushg w2.heap.size #[.int .i64 (aU * 16), .int .i64 (aW * 16), .int .i64 0, .int .i64 (aH * 16)] 34 rfl).pushg (w2.heap.size + 1) #[.int .i64 (aU * 16), .int .i64 (aW * 16), .int .i64 0, .int .i64 (bH * 16)] 34 (by simp)
      have hV := hV.sub (ds := [(⟨w.heap.size, 13, none⟩, .bool true), (⟨w2.heap.size, 0, none⟩, .int .i64 (aU * 16)), (⟨w2.heap.size, 1, none⟩, .int .i64 (aW * 16)), (⟨w2.heap.size, 2, none⟩, .int .i64 (0)), (⟨w2.heap.size, 3, none⟩, .int .i64 (aH * 16)), (⟨(w2.heap.size + 1), 0, none⟩, .int .i64 (aU * 16)), (⟨(w2.heap.size + 1), 1, none⟩, .int .i64 (aW * 16)), (⟨(w2.heap.size + 1), 2, none⟩, .int .i64 (0)), (⟨(w2.heap.size + 1), 3, none⟩, .int .i64 (bH * 16))]) (by simp [blk])
      clear hT
      go_upto_region 10 with fail
      generalize w2.heap.size = g at *
      (refine wp_region_class (Lf w.heap.size (g + 1 + 1) [(⟨w.heap.size, 13, none⟩, .bool true), (⟨g, 0, none⟩, .int .i64 (aU * 16)), (⟨g, 1, none⟩, .int .i64 (aW * 16)), (⟨g, 2, none⟩, .int .i64 (0)), (⟨g, 3, none⟩, .int .i64 (aH * 16)), (⟨(g + 1), 0, none⟩, .int .i64 (aU * 16)), (⟨(g + 1), 1, none⟩, .int .i64 (aW * 16)), (⟨(g + 1), 2, none⟩, .int .i64 (0)), (⟨(g + 1), 3, none⟩, .int .i64 (bH * 16))] w) (hV.next (Below.refl _ _).drew) (by kernel_rfl) (by kernel_rfl) ?_; repeat (refine wpQuiet_step (fun qK9 qH9 => ?_); go_simp; first | (refine qH9 _ ?_; clear qH9 qK9) | (apply Exists.intro; refine ⟨?_, qH9 _ ?_⟩; (first | (intros; rfl) | (first | (intro wx hC; ((have qk9 := (hC).cells; simp only [List.forall_mem_cons, List.not_mem_nil, false_implies, implies_true, and_true] at qk9; repeat (obtain ⟨qk8, qk9⟩ := qk9)); go_simp; first | done | rfl)) | (intro wx hC; with_reducible exact Calls.lays (DA wx).out (fun _ => hC.next)) | (intro wx hC; with_reducible exact Calls.lays (DB wx).out (fun _ => hC.next)))); clear qH9 qK9)))
      refine wpQuiet_nil ?_
      clear hV
      intro w4 hT
      have kc := hT.cells
      have kf := hT.frz
      simp only [List.forall_mem_cons, List.not_mem_nil, false_implies, implies_true, and_true] at kc kf
      obtain ⟨yc0, yc1, yc2, yc3, yc4, yc5, yc6, yc7, yc8⟩ := kc
      obtain ⟨yf0, yf1, yf2, yf3, yf4, yf5, yf6, yf7, yf8⟩ := kf
      go_wp2_with fail
      refine (NR _).out.mono ?_
      rintro e w1 ⟨rfl, hb1⟩
      have hT := hT.next hb1
      clear hb1 yc0 yf0 yc1 yf1 yc2 yf2 yc3 yf3 yc4 yf4 yc5 yf5 yc6 yf6 yc7 yf7 yc8 yf8
      have kc := hT.cells
      have kf := hT.frz
      simp only [List.forall_mem_cons, List.not_mem_nil, false_implies, implies_true, and_true] at kc kf
      obtain ⟨yc0, yc1, yc2, yc3, yc4, yc5, yc6, yc7, yc8⟩ := kc
      obtain ⟨yf0, yf1, yf2, yf3, yf4, yf5, yf6, yf7, yf8⟩ := kf
      go_wp2_with fail
      go_ret
      exact ⟨by first | rfl | simp, hT.be⟩
  · cases f
    · have hq := hp rfl
      clear hf hp
      go_enter Try.func20, Try.ntmps20
      go_upto_region 1 with fail
      refine wp_cls (fun wr => ItC t w.heap.size wr ∧ Lf w.heap.size (w.heap.size + 1) [(⟨w.heap.size, 0, none⟩, .int .i64 3), (⟨w.heap.size, 2, none⟩, .int .i64 t.fx), (⟨w.heap.size, 3, none⟩, .int .i64 t.fy), (⟨w.heap.size, 4, none⟩, .int .i64 t.fz), (⟨w.heap.size, 5, none⟩, .int .i64 t.tx), (⟨w.heap.size, 6, none⟩, .int .i64 t.ty), (⟨w.heap.size, 7, none⟩, .int .i64 t.tz), (⟨w.heap.size, 8, none⟩, .int .i64 t.plane), (⟨w.heap.size, 9, none⟩, .int .i64 t.cx), (⟨w.heap.size, 10, none⟩, .int .i64 t.cy), (⟨w.heap.size, 11, none⟩, .int .i64 t.cz), (⟨w.heap.size, 12, none⟩, .int .i64 (-1)), (⟨w.heap.size, 13, none⟩, .bool false)] w wr) ⟨hI, hT⟩ ?_
      clear hT hI
      rintro w0 ⟨hI, hT⟩
      have kc := hT.cells
      have kf := hT.frz
      simp only [List.forall_mem_cons, List.not_mem_nil, false_implies, implies_true, and_true] at kc kf
      obtain ⟨yc0, yc1, yc2, yc3, yc4, yc5, yc6, yc7, yc8, yc9, yc10, yc11, yc12⟩ := kc
      obtain ⟨yf0, yf1, yf2, yf3, yf4, yf5, yf6, yf7, yf8, yf9, yf10, yf11, yf12⟩ := kf
      go_wp2_with fail
      refine (WF _).out.mono ?_
      rintro e w1 ⟨rfl, hb1⟩
      have hT := hT.next hb1
      have hI := hI.next hb1
      clear hb1 yc0 yf0 yc1 yf1 yc2 yf2 yc3 yf3 yc4 yf4 yc5 yf5 yc6 yf6 yc7 yf7 yc8 yf8 yc9 yf9 yc10 yf10 yc11 yf11 yc12 yf12
      have kc := hT.cells
      have kf := hT.frz
      simp only [List.forall_mem_cons, List.not_mem_nil, false_implies, implies_true, and_true] at kc kf
      obtain ⟨yc0, yc1, yc2, yc3, yc4, yc5, yc6, yc7, yc8, yc9, yc10, yc11, yc12⟩ := kc
      obtain ⟨yf0, yf1, yf2, yf3, yf4, yf5, yf6, yf7, yf8, yf9, yf10, yf11, yf12⟩ := kf
      go_wp2_with fail
      refine (WT _).out.mono ?_
      rintro e w1 ⟨rfl, hb1⟩
      have hT := hT.next hb1
      have hI := hI.next hb1
      clear hb1 yc0 yf0 yc1 yf1 yc2 yf2 yc3 yf3 yc4 yf4 yc5 yf5 yc6 yf6 yc7 yf7 yc8 yf8 yc9 yf9 yc10 yf10 yc11 yf11 yc12 yf12
      have kc := hT.cells
      have kf := hT.frz
      simp only [List.forall_mem_cons, List.not_mem_nil, false_implies, implies_true, and_true] at kc kf
      obtain ⟨yc0, yc1, yc2, yc3, yc4, yc5, yc6, yc7, yc8, yc9, yc10, yc11, yc12⟩ := kc
      obtain ⟨yf0, yf1, yf2, yf3, yf4, yf5, yf6, yf7, yf8, yf9, yf10, yf11, yf12⟩ := kf
      go_wp2_with fail
      refine (AX _).out.mono ?_
      rintro e w2 ⟨a0, b0, c0, rfl, rfl⟩
      go_wp2_with fail
      refine (WC _).out.mono ?_
      rintro e w1 ⟨rfl, hb1⟩
      have hT := hT.next hb1
      have hI := hI.next hb1
      clear hb1 yc0 yf0 yc1 yf1 yc2 yf2 yc3 yf3 yc4 yf4 yc5 yf5 yc6 yf6 yc7 yf7 yc8 yf8 yc9 yf9 yc10 yf10 yc11 yf11 yc12 yf12
      have kc := hT.cells
      have kf := hT.frz
      simp only [List.forall_mem_cons, List.not_mem_nil, false_implies, implies_true, and_true] at kc kf
      obtain ⟨yc0, yc1, yc2, yc3, yc4, yc5, yc6, yc7, yc8, yc9, yc10, yc11, yc12⟩ := kc
      obtain ⟨yf0, yf1, yf2, yf3, yf4, yf5, yf6, yf7, yf8, yf9, yf10, yf11, yf12⟩ := kf
      go_wp2_with (refine wpList_load_g (by rfl) 27 (.tmp 1) rfl w.heap.size 0 rfl (itL t) _ hI.rg Try.underlying27 rfl (by kernel_rfl) ?_)
      refine (EN _).out.mono ?_
      rintro e w2 ⟨rfl, hb1⟩
      have hT := hT.next hb1
      clear hb1 yc0 yf0 yc1 yf1 yc2 yf2 yc3 yf3 yc4 yf4 yc5 yf5 yc6 yf6 yc7 yf7 yc8 yf8 yc9 yf9 yc10 yf10 yc11 yf11 yc12 yf12 hI
      have hlw := hT.lt
      have hV := (hT.pushg w2.heap.size #[.int .i64 (aU * 16), .int .i64 (aW * 16), .int .i64 0, .int .i64 (aH * 16)] 34 rfl).pushg (w2.heap.size + 1) #[.int .i64 (bU * 16), .int .i64 (bW * 16), .int .i64 0, .int .i64 (bH * 16)] 34 (by simp)
      have hV := hV.sub (ds := [(⟨w.heap.size, 13, none⟩, .bool false), (⟨w2.heap.size, 0, none⟩, .int .i64 (aU * 16)), (⟨w2.heap.size, 1, none⟩, .int .i64 (aW * 16)), (⟨w2.heap.size, 2, none⟩, .int .i64 (0)), (⟨w2.heap.size, 3, none⟩, .int .i64 (aH * 16)), (⟨(w2.heap.size + 1), 0, none⟩, .int .i64 (bU * 16)), (⟨(w2.heap.size + 1), 1, none⟩, .int .i64 (bW * 16)), (⟨(w2.heap.size + 1), 2, none⟩, .int .i64 (0)), (⟨(w2.heap.size + 1), 3, none⟩, .int .i64 (bH * 16))]) (by simp [blk])
      clear hT
      go_upto_region 10 with fail
      generalize w2.heap.size = g at *
      (refine wp_region_class (Lf w.heap.size (g + 1 + 1) [(⟨w.heap.size, 13, none⟩, .bool false), (⟨g, 0, none⟩, .int .i64 (aU * 16)), (⟨g, 1, none⟩, .int .i64 (aW * 16)), (⟨g, 2, none⟩, .int .i64 (0)), (⟨g, 3, none⟩, .int .i64 (aH * 16)), (⟨(g + 1), 0, none⟩, .int .i64 (bU * 16)), (⟨(g + 1), 1, none⟩, .int .i64 (bW * 16)), (⟨(g + 1), 2, none⟩, .int .i64 (0)), (⟨(g + 1), 3, none⟩, .int .i64 (bH * 16))] w) (hV.next (Below.refl _ _).drew) (by kernel_rfl) (by kernel_rfl) ?_; repeat (refine wpQuiet_step (fun qK9 qH9 => ?_); go_simp; first | (refine qH9 _ ?_; clear qH9 qK9) | (apply Exists.intro; refine ⟨?_, qH9 _ ?_⟩; (first | (intros; rfl) | (first | (intro wx hC; ((have qk9 := (hC).cells; simp only [List.forall_mem_cons, List.not_mem_nil, false_implies, implies_true, and_true] at qk9; repeat (obtain ⟨qk8, qk9⟩ := qk9)); go_simp; first | done | rfl)) | (intro wx hC; with_reducible exact Calls.lays (DA wx).out (fun _ => hC.next)) | (intro wx hC; with_reducible exact Calls.lays (DB wx).out (fun _ => hC.next)))); clear qH9 qK9)))
      refine wpQuiet_nil ?_
      clear hV
      intro w4 hT
      have kc := hT.cells
      have kf := hT.frz
      simp only [List.forall_mem_cons, List.not_mem_nil, false_implies, implies_true, and_true] at kc kf
      obtain ⟨yc0, yc1, yc2, yc3, yc4, yc5, yc6, yc7, yc8⟩ := kc
      obtain ⟨yf0, yf1, yf2, yf3, yf4, yf5, yf6, yf7, yf8⟩ := kf
      go_wp2_with fail
      refine (NR _).out.mono ?_
      rintro e w1 ⟨rfl, hb1⟩
      have hT := hT.next hb1
      clear hb1 yc0 yf0 yc1 yf1 yc2 yf2 yc3 yf3 yc4 yf4 yc5 yf5 yc6 yf6 yc7 yf7 yc8 yf8
      have kc := hT.cells
      have kf := hT.frz
      simp only [List.forall_mem_cons, List.not_mem_nil, false_implies, implies_true, and_true] at kc kf
      obtain ⟨yc0, yc1, yc2, yc3, yc4, yc5, yc6, yc7, yc8⟩ := kc
      obtain ⟨yf0, yf1, yf2, yf3, yf4, yf5, yf6, yf7, yf8⟩ := kf
      go_wp2_with fail
      refine (CX _).out.mono ?_
      rintro e w5 ⟨rfl, hb1⟩
      have hT := hT.next hb1
      clear hb1 yc0 yf0 yc1 yf1 yc2 yf2 yc3 yf3 yc4 yf4 yc5 yf5 yc6 yf6 yc7 yf7 yc8 yf8
      have kc := hT.cells
      have kf := hT.frz
      simp only [List.forall_mem_cons, List.not_mem_nil, false_implies, implies_true, and_true] at kc kf
      obtain ⟨yc0, yc1, yc2, yc3, yc4, yc5, yc6, yc7, yc8⟩ := kc
      obtain ⟨yf0, yf1, yf2, yf3, yf4, yf5, yf6, yf7, yf8⟩ := kf
      by_cases hc : cr = 0
      · have hdt : dt < 0 := by rcases hq with h | h; exact absurd hc h; exact h
        have hd1 : decide (dt * 256 < 0) = true := decide_eq_true (by omega)
        subst hc
        go_wp2_with fail
        refine (DX _).out.mono ?_
        rintro e w6 ⟨rfl, hb1⟩
        have hT := hT.next hb1
        go_wp2_with fail
        go_ret
        exact ⟨by first | rfl | (simp; done) | (simp; omega), hT.be⟩
      · have hc1 : ¬ cr * 256 = 0 := by omega
        go_wp2_with fail
        go_ret
        exact ⟨rfl, hT.be⟩
    · obtain ⟨rfl, rfl⟩ := hf rfl
      clear hp
      go_enter Try.func20, Try.ntmps20
      go_upto_region 1 with fail
      refine wp_cls (fun wr => ItC t w.heap.size wr ∧ Lf w.heap.size (w.heap.size + 1) [(⟨w.heap.size, 0, none⟩, .int .i64 3), (⟨w.heap.size, 2, none⟩, .int .i64 t.fx), (⟨w.heap.size, 3, none⟩, .int .i64 t.fy), (⟨w.heap.size, 4, none⟩, .int .i64 t.fz), (⟨w.heap.size, 5, none⟩, .int .i64 t.tx), (⟨w.heap.size, 6, none⟩, .int .i64 t.ty), (⟨w.heap.size, 7, none⟩, .int .i64 t.tz), (⟨w.heap.size, 8, none⟩, .int .i64 t.plane), (⟨w.heap.size, 9, none⟩, .int .i64 t.cx), (⟨w.heap.size, 10, none⟩, .int .i64 t.cy), (⟨w.heap.size, 11, none⟩, .int .i64 t.cz), (⟨w.heap.size, 12, none⟩, .int .i64 (-1)), (⟨w.heap.size, 13, none⟩, .bool true)] w wr) ⟨hI, hT⟩ ?_
      clear hT hI
      rintro w0 ⟨hI, hT⟩
      have kc := hT.cells
      have kf := hT.frz
      simp only [List.forall_mem_cons, List.not_mem_nil, false_implies, implies_true, and_true] at kc kf
      obtain ⟨yc0, yc1, yc2, yc3, yc4, yc5, yc6, yc7, yc8, yc9, yc10, yc11, yc12⟩ := kc
      obtain ⟨yf0, yf1, yf2, yf3, yf4, yf5, yf6, yf7, yf8, yf9, yf10, yf11, yf12⟩ := kf
      go_wp2_with fail
      refine (WF _).out.mono ?_
      rintro e w1 ⟨rfl, hb1⟩
      have hT := hT.next hb1
      have hI := hI.next hb1
      clear hb1 yc0 yf0 yc1 yf1 yc2 yf2 yc3 yf3 yc4 yf4 yc5 yf5 yc6 yf6 yc7 yf7 yc8 yf8 yc9 yf9 yc10 yf10 yc11 yf11 yc12 yf12
      have kc := hT.cells
      have kf := hT.frz
      simp only [List.forall_mem_cons, List.not_mem_nil, false_implies, implies_true, and_true] at kc kf
      obtain ⟨yc0, yc1, yc2, yc3, yc4, yc5, yc6, yc7, yc8, yc9, yc10, yc11, yc12⟩ := kc
      obtain ⟨yf0, yf1, yf2, yf3, yf4, yf5, yf6, yf7, yf8, yf9, yf10, yf11, yf12⟩ := kf
      go_wp2_with fail
      refine (WT _).out.mono ?_
      rintro e w1 ⟨rfl, hb1⟩
      have hT := hT.next hb1
      have hI := hI.next hb1
      clear hb1 yc0 yf0 yc1 yf1 yc2 yf2 yc3 yf3 yc4 yf4 yc5 yf5 yc6 yf6 yc7 yf7 yc8 yf8 yc9 yf9 yc10 yf10 yc11 yf11 yc12 yf12
      have kc := hT.cells
      have kf := hT.frz
      simp only [List.forall_mem_cons, List.not_mem_nil, false_implies, implies_true, and_true] at kc kf
      obtain ⟨yc0, yc1, yc2, yc3, yc4, yc5, yc6, yc7, yc8, yc9, yc10, yc11, yc12⟩ := kc
      obtain ⟨yf0, yf1, yf2, yf3, yf4, yf5, yf6, yf7, yf8, yf9, yf10, yf11, yf12⟩ := kf
      go_wp2_with fail
      refine (AX _).out.mono ?_
      rintro e w2 ⟨a0, b0, c0, rfl, rfl⟩
      go_wp2_with fail
      refine (WC _).out.mono ?_
      rintro e w1 ⟨rfl, hb1⟩
      have hT := hT.next hb1
      have hI := hI.next hb1
      clear hb1 yc0 yf0 yc1 yf1 yc2 yf2 yc3 yf3 yc4 yf4 yc5 yf5 yc6 yf6 yc7 yf7 yc8 yf8 yc9 yf9 yc10 yf10 yc11 yf11 yc12 yf12
      have kc := hT.cells
      have kf := hT.frz
      simp only [List.forall_mem_cons, List.not_mem_nil, false_implies, implies_true, and_true] at kc kf
      obtain ⟨yc0, yc1, yc2, yc3, yc4, yc5, yc6, yc7, yc8, yc9, yc10, yc11, yc12⟩ := kc
      obtain ⟨yf0, yf1, yf2, yf3, yf4, yf5, yf6, yf7, yf8, yf9, yf10, yf11, yf12⟩ := kf
      go_wp2_with (refine wpList_load_g (by rfl) 27 (.tmp 1) rfl w.heap.size 0 rfl (itL t) _ hI.rg Try.underlying27 rfl (by kernel_rfl) ?_)
      refine (EN _).out.mono ?_
      rintro e w2 ⟨rfl, hb1⟩
      have hT := hT.next hb1
      clear hb1 yc0 yf0 yc1 yf1 yc2 yf2 yc3 yf3 yc4 yf4 yc5 yf5 yc6 yf6 yc7 yf7 yc8 yf8 yc9 yf9 yc10 yf10 yc11 yf11 yc12 yf12 hI
      have hlw := hT.lt
      have hV := (hT.pushg w2.heap.size #[.int .i64 (aU * 16), .int .i64 (aW * 16), .int .i64 0, .int .i64 (aH * 16)] 34 rfl).pushg (w2.heap.size + 1) #[.int .i64 (aU * 16), .int .i64 (aW * 16), .int .i64 0, .int .i64 (bH * 16)] 34 (by simp)
      have hV := hV.sub (ds := [(⟨w.heap.size, 13, none⟩, .bool true), (⟨w2.heap.size, 0, none⟩, .int .i64 (aU * 16)), (⟨w2.heap.size, 1, none⟩, .int .i64 (aW * 16)), (⟨w2.heap.size, 2, none⟩, .int .i64 (0)), (⟨w2.heap.size, 3, none⟩, .int .i64 (aH * 16)), (⟨(w2.heap.size + 1), 0, none⟩, .int .i64 (aU * 16)), (⟨(w2.heap.size + 1), 1, none⟩, .int .i64 (aW * 16)), (⟨(w2.heap.size + 1), 2, none⟩, .int .i64 (0)), (⟨(w2.heap.size + 1), 3, none⟩, .int .i64 (bH * 16))]) (by simp [blk])
      clear hT
      go_upto_region 10 with fail
      generalize w2.heap.size = g at *
      (refine wp_region_class (Lf w.heap.size (g + 1 + 1) [(⟨w.heap.size, 13, none⟩, .bool true), (⟨g, 0, none⟩, .int .i64 (aU * 16)), (⟨g, 1, none⟩, .int .i64 (aW * 16)), (⟨g, 2, none⟩, .int .i64 (0)), (⟨g, 3, none⟩, .int .i64 (aH * 16)), (⟨(g + 1), 0, none⟩, .int .i64 (aU * 16)), (⟨(g + 1), 1, none⟩, .int .i64 (aW * 16)), (⟨(g + 1), 2, none⟩, .int .i64 (0)), (⟨(g + 1), 3, none⟩, .int .i64 (bH * 16))] w) (hV.next (Below.refl _ _).drew) (by kernel_rfl) (by kernel_rfl) ?_; repeat (refine wpQuiet_step (fun qK9 qH9 => ?_); go_simp; first | (refine qH9 _ ?_; clear qH9 qK9) | (apply Exists.intro; refine ⟨?_, qH9 _ ?_⟩; (first | (intros; rfl) | (first | (intro wx hC; ((have qk9 := (hC).cells; simp only [List.forall_mem_cons, List.not_mem_nil, false_implies, implies_true, and_true] at qk9; repeat (obtain ⟨qk8, qk9⟩ := qk9)); go_simp; first | done | rfl)) | (intro wx hC; with_reducible exact Calls.lays (DA wx).out (fun _ => hC.next)) | (intro wx hC; with_reducible exact Calls.lays (DB wx).out (fun _ => hC.next)))); clear qH9 qK9)))
      refine wpQuiet_nil ?_
      clear hV
      intro w4 hT
      have kc := hT.cells
      have kf := hT.frz
      simp only [List.forall_mem_cons, List.not_mem_nil, false_implies, implies_true, and_true] at kc kf
      obtain ⟨yc0, yc1, yc2, yc3, yc4, yc5, yc6, yc7, yc8⟩ := kc
      obtain ⟨yf0, yf1, yf2, yf3, yf4, yf5, yf6, yf7, yf8⟩ := kf
      go_wp2_with fail
      refine (NR _).out.mono ?_
      rintro e w1 ⟨rfl, hb1⟩
      have hT := hT.next hb1
      clear hb1 yc0 yf0 yc1 yf1 yc2 yf2 yc3 yf3 yc4 yf4 yc5 yf5 yc6 yf6 yc7 yf7 yc8 yf8
      have kc := hT.cells
      have kf := hT.frz
      simp only [List.forall_mem_cons, List.not_mem_nil, false_implies, implies_true, and_true] at kc kf
      obtain ⟨yc0, yc1, yc2, yc3, yc4, yc5, yc6, yc7, yc8⟩ := kc
      obtain ⟨yf0, yf1, yf2, yf3, yf4, yf5, yf6, yf7, yf8⟩ := kf
      go_wp2_with fail
      go_ret
      exact ⟨by first | rfl | simp, hT.be⟩
end Go.Proofs.Ytkjjoclbjkpdaaa
