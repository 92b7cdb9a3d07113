/- Proved here: Valid, Spokes and Chords of the program for straight motions; the ends of the chords of every motion of cncmill. -/
import Derived.Test.YtkjjoclbjkpdaaaNm2K
import Derived.Test.YtkjjoclbjkpdaaaPh1K
import Derived.Test.YtkjjoclbjkpdaaaNc3K
namespace Go.Proofs.Ytkjjoclbjkpdaaa
open Go.RowKit
set_option linter.unusedVariables false
set_option linter.unusedSimpArgs false
set_option maxHeartbeats 4000000 in
set_option maxRecDepth 40000 in
theorem validP_line (t : Itm) (w : World) (h : t.Line) : Calls Try.prog 20 #[.agg #[.int .i64 t.kind, .int .i64 t.block, .int .i64 t.fx, .int .i64 t.fy, .int .i64 t.fz, .int .i64 t.tx, .int .i64 t.ty, .int .i64 t.tz, .int .i64 t.plane, .int .i64 t.cx, .int .i64 t.cy, .int .i64 t.cz, .int .i64 t.dir, .bool t.full, .int .i64 t.feed, .bool t.perrev, .int .i64 t.side, .int .i64 t.radius, .int .i64 t.blend, .int .i64 t.n, .int .i64 t.speed, .bool t.on]] w fun e w' => e = .returned (.bool true) ∧ Below w.heap.size w w' := by
  obtain ⟨hk, hf, ht⟩ := h
  have WF := fun w => Lib.hid (withinP_any t.fx t.fy t.fz w)
  have WT := fun w => Lib.hid (withinP_any t.tx t.ty t.tz w)
  rw [smB_iff.2 hf] at WF
  rw [smB_iff.2 ht] at WT
  clear hf ht
  have hI : ItC t w.heap.size (w.alloc (.cells #[.int .i64 t.kind, .int .i64 t.block, .int .i64 t.fx, .int .i64 t.fy, .int .i64 t.fz, .int .i64 t.tx, .int .i64 t.ty, .int .i64 t.tz, .int .i64 t.plane, .int .i64 t.cx, .int .i64 t.cy, .int .i64 t.cz, .int .i64 t.dir, .bool t.full, .int .i64 t.feed, .bool t.perrev, .int .i64 t.side, .int .i64 t.radius, .int .i64 t.blend, .int .i64 t.n, .int .i64 t.speed, .bool t.on] 27)) := ItC.fresh t w _ rfl
  have hB : Below w.heap.size w (w.alloc (.cells #[.int .i64 t.kind, .int .i64 t.block, .int .i64 t.fx, .int .i64 t.fy, .int .i64 t.fz, .int .i64 t.tx, .int .i64 t.ty, .int .i64 t.tz, .int .i64 t.plane, .int .i64 t.cx, .int .i64 t.cy, .int .i64 t.cz, .int .i64 t.dir, .bool t.full, .int .i64 t.feed, .bool t.perrev, .int .i64 t.side, .int .i64 t.radius, .int .i64 t.blend, .int .i64 t.n, .int .i64 t.speed, .bool t.on] 27)) := (Below.refl _ _).alloc (Nat.le_refl _) _

  rcases hk with hk | hk
  · have HK := Lib.hid hk
    clear hk
    go_enter Try.func20, Try.ntmps20
    go_upto_region 1 with fail
    refine wp_cls (fun wr => ItC t w.heap.size wr ∧ Below w.heap.size w wr) ⟨hI, hB⟩ ?_
    clear hI hB
    rintro w0 ⟨hI, hB⟩
    have yk : w0.cell? ⟨w.heap.size, 0, none⟩ = some (.int .i64 1) := HK.out ▸ (hI.rg 0 (.int .i64 t.kind) rfl : w0.cell? ⟨w.heap.size, 0, none⟩ = some (.int .i64 t.kind))
    have y2 : w0.cell? ⟨w.heap.size, 2, none⟩ = some (.int .i64 t.fx) := hI.rg 2 (.int .i64 t.fx) rfl
    have y3 : w0.cell? ⟨w.heap.size, 3, none⟩ = some (.int .i64 t.fy) := hI.rg 3 (.int .i64 t.fy) rfl
    have y4 : w0.cell? ⟨w.heap.size, 4, none⟩ = some (.int .i64 t.fz) := hI.rg 4 (.int .i64 t.fz) rfl
    have y5 : w0.cell? ⟨w.heap.size, 5, none⟩ = some (.int .i64 t.tx) := hI.rg 5 (.int .i64 t.tx) rfl
    have y6 : w0.cell? ⟨w.heap.size, 6, none⟩ = some (.int .i64 t.ty) := hI.rg 6 (.int .i64 t.ty) rfl
    have y7 : w0.cell? ⟨w.heap.size, 7, none⟩ = some (.int .i64 t.tz) := hI.rg 7 (.int .i64 t.tz) rfl
    go_wp2_with fail
    refine (WF _).out.mono ?_
    rintro e w1 ⟨rfl, hb1⟩
    have hI := hI.next hb1
    have hB := hB.trans (hb1.mono hB.size)
    clear hb1
    clear yk y2 y3 y4 y5 y6 y7
    have yk : w1.cell? ⟨w.heap.size, 0, none⟩ = some (.int .i64 1) := HK.out ▸ (hI.rg 0 (.int .i64 t.kind) rfl : w1.cell? ⟨w.heap.size, 0, none⟩ = some (.int .i64 t.kind))
    have y2 : w1.cell? ⟨w.heap.size, 2, none⟩ = some (.int .i64 t.fx) := hI.rg 2 (.int .i64 t.fx) rfl
    have y3 : w1.cell? ⟨w.heap.size, 3, none⟩ = some (.int .i64 t.fy) := hI.rg 3 (.int .i64 t.fy) rfl
    have y4 : w1.cell? ⟨w.heap.size, 4, none⟩ = some (.int .i64 t.fz) := hI.rg 4 (.int .i64 t.fz) rfl
    have y5 : w1.cell? ⟨w.heap.size, 5, none⟩ = some (.int .i64 t.tx) := hI.rg 5 (.int .i64 t.tx) rfl
    have y6 : w1.cell? ⟨w.heap.size, 6, none⟩ = some (.int .i64 t.ty) := hI.rg 6 (.int .i64 t.ty) rfl
    have y7 : w1.cell? ⟨w.heap.size, 7, none⟩ = some (.int .i64 t.tz) := hI.rg 7 (.int .i64 t.tz) rfl
    go_wp2_with fail
    refine (WT _).out.mono ?_
    rintro e w2 ⟨rfl, hb1⟩
    have hI := hI.next hb1
    have hB := hB.trans (hb1.mono hB.size)
    clear hb1
    clear yk y2 y3 y4 y5 y6 y7
    have yk : w2.cell? ⟨w.heap.size, 0, none⟩ = some (.int .i64 1) := HK.out ▸ (hI.rg 0 (.int .i64 t.kind) rfl : w2.cell? ⟨w.heap.size, 0, none⟩ = some (.int .i64 t.kind))
    go_wp2_with fail
    go_ret
    exact ⟨rfl, hB⟩
  · have HK := Lib.hid hk
    clear hk
    go_enter Try.func20, Try.ntmps20
    go_upto_region 1 with fail
    refine wp_cls (fun wr => ItC t w.heap.size wr ∧ Below w.heap.size w wr) ⟨hI, hB⟩ ?_
    clear hI hB
    rintro w0 ⟨hI, hB⟩
    have yk : w0.cell? ⟨w.heap.size, 0, none⟩ = some (.int .i64 2) := HK.out ▸ (hI.rg 0 (.int .i64 t.kind) rfl : w0.cell? ⟨w.heap.size, 0, none⟩ = some (.int .i64 t.kind))
    have y2 : w0.cell? ⟨w.heap.size, 2, none⟩ = some (.int .i64 t.fx) := hI.rg 2 (.int .i64 t.fx) rfl
    have y3 : w0.cell? ⟨w.heap.size, 3, none⟩ = some (.int .i64 t.fy) := hI.rg 3 (.int .i64 t.fy) rfl
    have y4 : w0.cell? ⟨w.heap.size, 4, none⟩ = some (.int .i64 t.fz) := hI.rg 4 (.int .i64 t.fz) rfl
    have y5 : w0.cell? ⟨w.heap.size, 5, none⟩ = some (.int .i64 t.tx) := hI.rg 5 (.int .i64 t.tx) rfl
    have y6 : w0.cell? ⟨w.heap.size, 6, none⟩ = some (.int .i64 t.ty) := hI.rg 6 (.int .i64 t.ty) rfl
    have y7 : w0.cell? ⟨w.heap.size, 7, none⟩ = some (.int .i64 t.tz) := hI.rg 7 (.int .i64 t.tz) rfl
    go_wp2_with fail
    refine (WF _).out.mono ?_
    rintro e w1 ⟨rfl, hb1⟩
    have hI := hI.next hb1
    have hB := hB.trans (hb1.mono hB.size)
    clear hb1
    clear yk y2 y3 y4 y5 y6 y7
    have yk : w1.cell? ⟨w.heap.size, 0, none⟩ = some (.int .i64 2) := HK.out ▸ (hI.rg 0 (.int .i64 t.kind) rfl : w1.cell? ⟨w.heap.size, 0, none⟩ = some (.int .i64 t.kind))
    have y2 : w1.cell? ⟨w.heap.size, 2, none⟩ = some (.int .i64 t.fx) := hI.rg 2 (.int .i64 t.fx) rfl
    have y3 : w1.cell? ⟨w.heap.size, 3, none⟩ = some (.int .i64 t.fy) := hI.rg 3 (.int .i64 t.fy) rfl
    have y4 : w1.cell? ⟨w.heap.size, 4, none⟩ = some (.int .i64 t.fz) := hI.rg 4 (.int .i64 t.fz) rfl
    have y5 : w1.cell? ⟨w.heap.size, 5, none⟩ = some (.int .i64 t.tx) := hI.rg 5 (.int .i64 t.tx) rfl
    have y6 : w1.cell? ⟨w.heap.size, 6, none⟩ = some (.int .i64 t.ty) := hI.rg 6 (.int .i64 t.ty) rfl
    have y7 : w1.cell? ⟨w.heap.size, 7, none⟩ = some (.int .i64 t.tz) := hI.rg 7 (.int .i64 t.tz) rfl
    go_wp2_with fail
    refine (WT _).out.mono ?_
    rintro e w2 ⟨rfl, hb1⟩
    have hI := hI.next hb1
    have hB := hB.trans (hb1.mono hB.size)
    clear hb1
    clear yk y2 y3 y4 y5 y6 y7
    have yk : w2.cell? ⟨w.heap.size, 0, none⟩ = some (.int .i64 2) := HK.out ▸ (hI.rg 0 (.int .i64 t.kind) rfl : w2.cell? ⟨w.heap.size, 0, none⟩ = some (.int .i64 t.kind))
    go_wp2_with fail
    go_ret
    exact ⟨rfl, hB⟩
set_option maxHeartbeats 4000000 in
set_option maxRecDepth 40000 in
theorem spokesP_line (t : Itm) (w : World) (h : t.Line) : Calls Try.prog 13 #[.agg #[.int .i64 t.kind, .int .i64 t.block, .int .i64 t.fx, .int .i64 t.fy, .int .i64 t.fz, .int .i64 t.tx, .int .i64 t.ty, .int .i64 t.tz, .int .i64 t.plane, .int .i64 t.cx, .int .i64 t.cy, .int .i64 t.cz, .int .i64 t.dir, .bool t.full, .int .i64 t.feed, .bool t.perrev, .int .i64 t.side, .int .i64 t.radius, .int .i64 t.blend, .int .i64 t.n, .int .i64 t.speed, .bool t.on]] w fun e w' => e = .returned (.tuple #[.slice none 0 0, .bool false]) ∧ Below w.heap.size w w' := by
  obtain ⟨hk, -, -⟩ := h
  have hI : ItC t w.heap.size (w.alloc (.cells #[.int .i64 t.kind, .int .i64 t.block, .int .i64 t.fx, .int .i64 t.fy, .int .i64 t.fz, .int .i64 t.tx, .int .i64 t.ty, .int .i64 t.tz, .int .i64 t.plane, .int .i64 t.cx, .int .i64 t.cy, .int .i64 t.cz, .int .i64 t.dir, .bool t.full, .int .i64 t.feed, .bool t.perrev, .int .i64 t.side, .int .i64 t.radius, .int .i64 t.blend, .int .i64 t.n, .int .i64 t.speed, .bool t.on] 27)) := ItC.fresh t w _ rfl
  have hB : Below w.heap.size w (w.alloc (.cells #[.int .i64 t.kind, .int .i64 t.block, .int .i64 t.fx, .int .i64 t.fy, .int .i64 t.fz, .int .i64 t.tx, .int .i64 t.ty, .int .i64 t.tz, .int .i64 t.plane, .int .i64 t.cx, .int .i64 t.cy, .int .i64 t.cz, .int .i64 t.dir, .bool t.full, .int .i64 t.feed, .bool t.perrev, .int .i64 t.side, .int .i64 t.radius, .int .i64 t.blend, .int .i64 t.n, .int .i64 t.speed, .bool t.on] 27)) := (Below.refl _ _).alloc (Nat.le_refl _) _

  rcases hk with hk | hk
  · have HK := Lib.hid hk
    clear hk
    go_enter Try.func13, Try.ntmps13
    go_upto_region 1 with fail
    refine wp_cls (fun wr => ItC t w.heap.size wr ∧ Below w.heap.size w wr) ⟨hI, hB⟩ ?_
    clear hI hB
    rintro w0 ⟨hI, hB⟩
    have yk : w0.cell? ⟨w.heap.size, 0, none⟩ = some (.int .i64 1) := HK.out ▸ (hI.rg 0 (.int .i64 t.kind) rfl : w0.cell? ⟨w.heap.size, 0, none⟩ = some (.int .i64 t.kind))
    go_wp2_with fail
    go_ret2
    exact ⟨rfl, hB⟩
  · have HK := Lib.hid hk
    clear hk
    go_enter Try.func13, Try.ntmps13
    go_upto_region 1 with fail
    refine wp_cls (fun wr => ItC t w.heap.size wr ∧ Below w.heap.size w wr) ⟨hI, hB⟩ ?_
    clear hI hB
    rintro w0 ⟨hI, hB⟩
    have yk : w0.cell? ⟨w.heap.size, 0, none⟩ = some (.int .i64 2) := HK.out ▸ (hI.rg 0 (.int .i64 t.kind) rfl : w0.cell? ⟨w.heap.size, 0, none⟩ = some (.int .i64 t.kind))
    go_wp2_with fail
    go_ret2
    exact ⟨rfl, hB⟩
/-- points in memory -/
structure Pts (g L : Nat) (F : Nat → Nat → Int) (w : World) : Prop where
  c : ∀ i, i < L → w.cell? ⟨g, i * 3, none⟩ = some (.int .i64 (F i 0)) ∧ w.cell? ⟨g, i * 3 + 1, none⟩ = some (.int .i64 (F i 1)) ∧ w.cell? ⟨g, i * 3 + 2, none⟩ = some (.int .i64 (F i 2))
  lt : g < w.heap.size
theorem Pts.next {g L : Nat} {F : Nat → Nat → Int} {w w' : World} (h : Pts g L F w) (hb : Below w.heap.size w w') : Pts g L F w' :=
  ⟨fun i hi => ⟨(hb.cell (p := ⟨g, i * 3, none⟩) h.lt).trans (h.c i hi).1, (hb.cell (p := ⟨g, i * 3 + 1, none⟩) h.lt).trans (h.c i hi).2.1, (hb.cell (p := ⟨g, i * 3 + 2, none⟩) h.lt).trans (h.c i hi).2.2⟩, Nat.lt_of_lt_of_le h.lt hb.size⟩
/-- what Chords gives for a motion: the ends of the row -/
def EndP (t : Itm) (w : World) (e : Ending) (w' : World) : Prop :=
  ∃ (L cap g : Nat) (F : Nat → Nat → Int), e = .returned (.tuple #[.slice (some ⟨g, 0, none⟩) L cap, .bool true]) ∧ 2 ≤ L ∧ L ≤ 100000 ∧ Pts g L F w' ∧ (F 0 0 = t.fx * 16 ∧ F 0 1 = t.fy * 16 ∧ F 0 2 = t.fz * 16) ∧ (F (L - 1) 0 = t.tx * 16 ∧ F (L - 1) 1 = t.ty * 16 ∧ F (L - 1) 2 = t.tz * 16) ∧ Below w.heap.size w w'
theorem endP_arc {t : Itm} {m r s k q : Int} (hM : t.Made m r s k q) (hm : m ≤ 100000) (w : World) : Calls Try.prog 18 #[.agg #[.int .i64 t.kind, .int .i64 t.block, .int .i64 t.fx, .int .i64 t.fy, .int .i64 t.fz, .int .i64 t.tx, .int .i64 t.ty, .int .i64 t.tz, .int .i64 t.plane, .int .i64 t.cx, .int .i64 t.cy, .int .i64 t.cz, .int .i64 t.dir, .bool t.full, .int .i64 t.feed, .bool t.perrev, .int .i64 t.side, .int .i64 t.radius, .int .i64 t.blend, .int .i64 t.n, .int .i64 t.speed, .bool t.on]] w (EndP t w) := by
  have hA := hM.arc hm
  refine (chordsP_any t _ _ _ _ w hA (fun w => Lib.hid (ValidP_true t w hM.ok))).mono ?_
  rintro e w' ⟨g, cap, rfl, -, hr, hb⟩
  have hn := t.spokes_len
  have hk := hM.pos.pk
  refine ⟨t.spokes.length, cap, g, _, rfl, hn.1, by omega, ⟨fun i hi => hr.point hi, hr.lt⟩, ⟨?_, ?_, ?_⟩, ⟨?_, ?_, ?_⟩, hb⟩
  all_goals unfold chF
  all_goals try rw [t.spokes_last, t.spokes_last, t.spokes_last]
  · show spX t.plane (plU t.plane t.cx t.cy t.cz * 16 + t.aU * 16) (plW t.plane t.cx t.cy t.cz * 16 + t.aW * 16) (t.aH * 16) = _
    rw [show plU t.plane t.cx t.cy t.cz * 16 + t.aU * 16 = plU t.plane (t.fx * 16) (t.fy * 16) (t.fz * 16) by rw [plU_sc]; unfold Itm.aU; omega, show plW t.plane t.cx t.cy t.cz * 16 + t.aW * 16 = plW t.plane (t.fx * 16) (t.fy * 16) (t.fz * 16) by rw [plW_sc]; unfold Itm.aW; omega, show t.aH * 16 = plH t.plane (t.fx * 16) (t.fy * 16) (t.fz * 16) by rw [plH_sc]; rfl, spX_pl]
  · show spY t.plane (plU t.plane t.cx t.cy t.cz * 16 + t.aU * 16) (plW t.plane t.cx t.cy t.cz * 16 + t.aW * 16) (t.aH * 16) = _
    rw [show plU t.plane t.cx t.cy t.cz * 16 + t.aU * 16 = plU t.plane (t.fx * 16) (t.fy * 16) (t.fz * 16) by rw [plU_sc]; unfold Itm.aU; omega, show plW t.plane t.cx t.cy t.cz * 16 + t.aW * 16 = plW t.plane (t.fx * 16) (t.fy * 16) (t.fz * 16) by rw [plW_sc]; unfold Itm.aW; omega, show t.aH * 16 = plH t.plane (t.fx * 16) (t.fy * 16) (t.fz * 16) by rw [plH_sc]; rfl, spY_pl]
  · show spZ t.plane (plU t.plane t.cx t.cy t.cz * 16 + t.aU * 16) (plW t.plane t.cx t.cy t.cz * 16 + t.aW * 16) (t.aH * 16) = _
    rw [show plU t.plane t.cx t.cy t.cz * 16 + t.aU * 16 = plU t.plane (t.fx * 16) (t.fy * 16) (t.fz * 16) by rw [plU_sc]; unfold Itm.aU; omega, show plW t.plane t.cx t.cy t.cz * 16 + t.aW * 16 = plW t.plane (t.fx * 16) (t.fy * 16) (t.fz * 16) by rw [plW_sc]; unfold Itm.aW; omega, show t.aH * 16 = plH t.plane (t.fx * 16) (t.fy * 16) (t.fz * 16) by rw [plH_sc]; rfl, spZ_pl]
  · show spX t.plane (plU t.plane t.cx t.cy t.cz * 16 + t.bU * 16) (plW t.plane t.cx t.cy t.cz * 16 + t.bW * 16) (t.bH * 16) = _
    rw [show plU t.plane t.cx t.cy t.cz * 16 + t.bU * 16 = plU t.plane (t.tx * 16) (t.ty * 16) (t.tz * 16) by rw [plU_sc]; unfold Itm.bU; omega, show plW t.plane t.cx t.cy t.cz * 16 + t.bW * 16 = plW t.plane (t.tx * 16) (t.ty * 16) (t.tz * 16) by rw [plW_sc]; unfold Itm.bW; omega, show t.bH * 16 = plH t.plane (t.tx * 16) (t.ty * 16) (t.tz * 16) by rw [plH_sc]; rfl, spX_pl]
  · show spY t.plane (plU t.plane t.cx t.cy t.cz * 16 + t.bU * 16) (plW t.plane t.cx t.cy t.cz * 16 + t.bW * 16) (t.bH * 16) = _
    rw [show plU t.plane t.cx t.cy t.cz * 16 + t.bU * 16 = plU t.plane (t.tx * 16) (t.ty * 16) (t.tz * 16) by rw [plU_sc]; unfold Itm.bU; omega, show plW t.plane t.cx t.cy t.cz * 16 + t.bW * 16 = plW t.plane (t.tx * 16) (t.ty * 16) (t.tz * 16) by rw [plW_sc]; unfold Itm.bW; omega, show t.bH * 16 = plH t.plane (t.tx * 16) (t.ty * 16) (t.tz * 16) by rw [plH_sc]; rfl, spY_pl]
  · show spZ t.plane (plU t.plane t.cx t.cy t.cz * 16 + t.bU * 16) (plW t.plane t.cx t.cy t.cz * 16 + t.bW * 16) (t.bH * 16) = _
    rw [show plU t.plane t.cx t.cy t.cz * 16 + t.bU * 16 = plU t.plane (t.tx * 16) (t.ty * 16) (t.tz * 16) by rw [plU_sc]; unfold Itm.bU; omega, show plW t.plane t.cx t.cy t.cz * 16 + t.bW * 16 = plW t.plane (t.tx * 16) (t.ty * 16) (t.tz * 16) by rw [plW_sc]; unfold Itm.bW; omega, show t.bH * 16 = plH t.plane (t.tx * 16) (t.ty * 16) (t.tz * 16) by rw [plH_sc]; rfl, spZ_pl]
structure C5 (t : Itm) (b : Nat) (w0 : World) (A : Act) (L : Nat → Bool) (a : Act) (w : World) : Prop where
  off : OffOf [22, 23, 24, 25, 26, 27, 28, 2, 3] A a
  be : Below w0.heap.size w0 w
  it : ItC t b w
  hb' : w0.heap.size ≤ b
  k0 : L 0 = true → a.tmps[22]? = some (.pointer (some ⟨b, 2, none⟩))
  k1 : L 1 = true → a.tmps[23]? = some (.agg #[.int .i64 (t.fx), .int .i64 (t.fy), .int .i64 (t.fz)])
  k2 : L 2 = true → a.tmps[24]? = some (.agg #[.int .i64 (t.fx * 16), .int .i64 (t.fy * 16), .int .i64 (t.fz * 16)])
  k3 : L 3 = true → a.tmps[25]? = some (.pointer (some ⟨b, 5, none⟩))
  k4 : L 4 = true → a.tmps[26]? = some (.agg #[.int .i64 (t.tx), .int .i64 (t.ty), .int .i64 (t.tz)])
  k5 : L 5 = true → a.tmps[27]? = some (.agg #[.int .i64 (t.tx * 16), .int .i64 (t.ty * 16), .int .i64 (t.tz * 16)])
  k6 : L 6 = true → ∃ (h : Nat), a.tmps[28]? = some (.slice (some ⟨h, 0, none⟩) 2 2) ∧ Lit h b [t.fx * 16, t.fy * 16, t.fz * 16, t.tx * 16, t.ty * 16, t.tz * 16] w ∧ w0.heap.size < h
  k7 : L 7 = true → ∃ (h : Nat), a.tmps[2]? = some (.slice (some ⟨h, 0, none⟩) 2 2) ∧ Lit h b [t.fx * 16, t.fy * 16, t.fz * 16, t.tx * 16, t.ty * 16, t.tz * 16] w ∧ w0.heap.size < h
  k8 : L 8 = true → a.tmps[3]? = some (.bool true)
set_option maxHeartbeats 8000000 in
set_option maxRecDepth 40000 in
theorem endP_line (t : Itm) (w : World) (h : t.Line) : Calls Try.prog 18 #[.agg #[.int .i64 t.kind, .int .i64 t.block, .int .i64 t.fx, .int .i64 t.fy, .int .i64 t.fz, .int .i64 t.tx, .int .i64 t.ty, .int .i64 t.tz, .int .i64 t.plane, .int .i64 t.cx, .int .i64 t.cy, .int .i64 t.cz, .int .i64 t.dir, .bool t.full, .int .i64 t.feed, .bool t.perrev, .int .i64 t.side, .int .i64 t.radius, .int .i64 t.blend, .int .i64 t.n, .int .i64 t.speed, .bool t.on]] w (EndP t w) := by
  have VL := fun w => Lib.hid (validP_line t w h)
  have SL := fun w => Lib.hid (spokesP_line t w h)
  obtain ⟨hk, ⟨⟨f1, f2⟩, ⟨f3, f4⟩, f5, f6⟩, ⟨t1, t2⟩, ⟨t3, t4⟩, t5, t6⟩ := h
  clear hk
  have SF := fun w => Lib.hid (scaledP_any t.fx t.fy t.fz w ⟨by omega, by omega⟩ ⟨by omega, by omega⟩ ⟨by omega, by omega⟩)
  have ST := fun w => Lib.hid (scaledP_any t.tx t.ty t.tz w ⟨by omega, by omega⟩ ⟨by omega, by omega⟩ ⟨by omega, by omega⟩)
  clear f1 f2 f3 f4 f5 f6 t1 t2 t3 t4 t5 t6
  have hI : ItC t w.heap.size (w.alloc (.cells #[.int .i64 t.kind, .int .i64 t.block, .int .i64 t.fx, .int .i64 t.fy, .int .i64 t.fz, .int .i64 t.tx, .int .i64 t.ty, .int .i64 t.tz, .int .i64 t.plane, .int .i64 t.cx, .int .i64 t.cy, .int .i64 t.cz, .int .i64 t.dir, .bool t.full, .int .i64 t.feed, .bool t.perrev, .int .i64 t.side, .int .i64 t.radius, .int .i64 t.blend, .int .i64 t.n, .int .i64 t.speed, .bool t.on] 27)) := ItC.fresh t w _ rfl
  have hB : Below w.heap.size w (w.alloc (.cells #[.int .i64 t.kind, .int .i64 t.block, .int .i64 t.fx, .int .i64 t.fy, .int .i64 t.fz, .int .i64 t.tx, .int .i64 t.ty, .int .i64 t.tz, .int .i64 t.plane, .int .i64 t.cx, .int .i64 t.cy, .int .i64 t.cz, .int .i64 t.dir, .bool t.full, .int .i64 t.feed, .bool t.perrev, .int .i64 t.side, .int .i64 t.radius, .int .i64 t.blend, .int .i64 t.n, .int .i64 t.speed, .bool t.on] 27)) := (Below.refl _ _).alloc (Nat.le_refl _) _

  go_enter Try.func18, Try.ntmps18
  go_upto_region 1 with fail
  refine wp_cls (fun wr => ItC t w.heap.size wr ∧ Below w.heap.size w wr) ⟨hI, hB⟩ ?_
  clear hI hB
  rintro w0 ⟨hI, hB⟩

  go_wp2_with (refine wpList_load_g (by rfl) 27 (.tmp 1) rfl w.heap.size 0 rfl (itL t) _ hI.rg Try.underlying27 rfl (by kernel_rfl) ?_)
  refine (VL _).out.mono ?_
  rintro e w1 ⟨rfl, hb1⟩
  have hI := hI.next hb1
  have hB := hB.trans (hb1.mono hB.size)
  clear hb1

  go_wp2_with (refine wpList_load_g (by rfl) 27 (.tmp 1) rfl w.heap.size 0 rfl (itL t) _ hI.rg Try.underlying27 rfl (by kernel_rfl) ?_)
  refine (SL _).out.mono ?_
  rintro e w2 ⟨rfl, hb1⟩
  have hI := hI.next hb1
  have hB := hB.trans (hb1.mono hB.size)
  clear hb1

  go_upto_region 5 with fail
  --CUT1
  generalize hA : (Act.mk _ _) = A
  have hsz : A.tmps.size = 67 := by rw [← hA]; rfl
  have hA1 : A.tmps[1]? = some (.pointer (some ⟨w.heap.size, 0, none⟩)) := by rw [← hA]; rfl
  have HA := Lib.hid hA
  clear hA
  refine wp_region_inv (fun L aa wx => C5 t w.heap.size w A L aa wx) (by kernel_rfl) (by kernel_rfl) ?_ ?_ ?_
  · have hD := (Below.refl w2.heap.size w2).drew
    exact (by constructor <;> first | exact OffOf.refl _ _ | exact hB.drew | exact hI.next hD | exact Nat.le_refl _ | (intro h; exact nomatch h) | (intro h _; exact nomatch h))
  · intro i o ho L aa wx h' hLi hdeps K hK'
    match i, ho, hLi, hK' with
    | 0, ho, hLi, hK' =>
      cases ho
      have ea := (h'.off.off 1 (by decide)).trans hA1
      go_simp
      exact hK' _ _ { off := h'.off.put (by decide) _, be := h'.be, it := h'.it, hb' := h'.hb', k0 := fun _ => put_at _ (by have := h'.off.size; omega), k1 := fun q => put_ne _ (by decide) (h'.k1 (by simpa using q)), k2 := fun q => put_ne _ (by decide) (h'.k2 (by simpa using q)), k3 := fun q => put_ne _ (by decide) (h'.k3 (by simpa using q)), k4 := fun q => put_ne _ (by decide) (h'.k4 (by simpa using q)), k5 := fun q => put_ne _ (by decide) (h'.k5 (by simpa using q)), k6 := fun q => (h'.k6 (by simpa using q)).imp fun _ g => ⟨put_ne _ (by decide) (g.1), g.2.1, g.2.2⟩, k7 := fun q => (h'.k7 (by simpa using q)).imp fun _ g => ⟨put_ne _ (by decide) (g.1), g.2.1, g.2.2⟩, k8 := fun q => put_ne _ (by decide) (h'.k8 (by simpa using q)) }
    | 1, ho, hLi, hK' =>
      cases ho
      have ea := h'.k0 (hdeps ⟨0, .data⟩ (by simp) (by rfl))
      have y2 : wx.cell? ⟨w.heap.size, 2, none⟩ = some (.int .i64 t.fx) := h'.it.rg 2 (.int .i64 t.fx) rfl
      have y3 : wx.cell? ⟨w.heap.size, 3, none⟩ = some (.int .i64 t.fy) := h'.it.rg 3 (.int .i64 t.fy) rfl
      have y4 : wx.cell? ⟨w.heap.size, 4, none⟩ = some (.int .i64 t.fz) := h'.it.rg 4 (.int .i64 t.fz) rfl
      go_simp
      exact hK' _ _ { off := h'.off.put (by decide) _, be := h'.be, it := h'.it, hb' := h'.hb', k0 := fun q => put_ne _ (by decide) (h'.k0 (by simpa using q)), k1 := fun _ => put_at _ (by have := h'.off.size; omega), k2 := fun q => put_ne _ (by decide) (h'.k2 (by simpa using q)), k3 := fun q => put_ne _ (by decide) (h'.k3 (by simpa using q)), k4 := fun q => put_ne _ (by decide) (h'.k4 (by simpa using q)), k5 := fun q => put_ne _ (by decide) (h'.k5 (by simpa using q)), k6 := fun q => (h'.k6 (by simpa using q)).imp fun _ g => ⟨put_ne _ (by decide) (g.1), g.2.1, g.2.2⟩, k7 := fun q => (h'.k7 (by simpa using q)).imp fun _ g => ⟨put_ne _ (by decide) (g.1), g.2.1, g.2.2⟩, k8 := fun q => put_ne _ (by decide) (h'.k8 (by simpa using q)) }
    | 2, ho, hLi, hK' =>
      cases ho
      have ea := h'.k1 (hdeps ⟨1, .data⟩ (by simp) (by rfl))
      go_simp
      refine (SF wx).out.mono ?_
      rintro e w2 ⟨rfl, hb⟩
      exact hK' _ _ { off := h'.off.put (by decide) _, be := h'.be.trans (hb.mono h'.be.size), it := h'.it.next hb, hb' := h'.hb', k0 := fun q => put_ne _ (by decide) (h'.k0 (by simpa using q)), k1 := fun q => put_ne _ (by decide) (h'.k1 (by simpa using q)), k2 := fun _ => put_at _ (by have := h'.off.size; omega), k3 := fun q => put_ne _ (by decide) (h'.k3 (by simpa using q)), k4 := fun q => put_ne _ (by decide) (h'.k4 (by simpa using q)), k5 := fun q => put_ne _ (by decide) (h'.k5 (by simpa using q)), k6 := fun q => (h'.k6 (by simpa using q)).imp fun _ g => ⟨put_ne _ (by decide) (g.1), (g.2.1).draw (Chg.of hb), g.2.2⟩, k7 := fun q => (h'.k7 (by simpa using q)).imp fun _ g => ⟨put_ne _ (by decide) (g.1), (g.2.1).draw (Chg.of hb), g.2.2⟩, k8 := fun q => put_ne _ (by decide) (h'.k8 (by simpa using q)) }
    | 3, ho, hLi, hK' =>
      cases ho
      have ea := (h'.off.off 1 (by decide)).trans hA1
      go_simp
      exact hK' _ _ { off := h'.off.put (by decide) _, be := h'.be, it := h'.it, hb' := h'.hb', k0 := fun q => put_ne _ (by decide) (h'.k0 (by simpa using q)), k1 := fun q => put_ne _ (by decide) (h'.k1 (by simpa using q)), k2 := fun q => put_ne _ (by decide) (h'.k2 (by simpa using q)), k3 := fun _ => put_at _ (by have := h'.off.size; omega), k4 := fun q => put_ne _ (by decide) (h'.k4 (by simpa using q)), k5 := fun q => put_ne _ (by decide) (h'.k5 (by simpa using q)), k6 := fun q => (h'.k6 (by simpa using q)).imp fun _ g => ⟨put_ne _ (by decide) (g.1), g.2.1, g.2.2⟩, k7 := fun q => (h'.k7 (by simpa using q)).imp fun _ g => ⟨put_ne _ (by decide) (g.1), g.2.1, g.2.2⟩, k8 := fun q => put_ne _ (by decide) (h'.k8 (by simpa using q)) }
    | 4, ho, hLi, hK' =>
      cases ho
      have ea := h'.k3 (hdeps ⟨3, .data⟩ (by simp) (by rfl))
      have y5 : wx.cell? ⟨w.heap.size, 5, none⟩ = some (.int .i64 t.tx) := h'.it.rg 5 (.int .i64 t.tx) rfl
      have y6 : wx.cell? ⟨w.heap.size, 6, none⟩ = some (.int .i64 t.ty) := h'.it.rg 6 (.int .i64 t.ty) rfl
      have y7 : wx.cell? ⟨w.heap.size, 7, none⟩ = some (.int .i64 t.tz) := h'.it.rg 7 (.int .i64 t.tz) rfl
      go_simp
      exact hK' _ _ { off := h'.off.put (by decide) _, be := h'.be, it := h'.it, hb' := h'.hb', k0 := fun q => put_ne _ (by decide) (h'.k0 (by simpa using q)), k1 := fun q => put_ne _ (by decide) (h'.k1 (by simpa using q)), k2 := fun q => put_ne _ (by decide) (h'.k2 (by simpa using q)), k3 := fun q => put_ne _ (by decide) (h'.k3 (by simpa using q)), k4 := fun _ => put_at _ (by have := h'.off.size; omega), k5 := fun q => put_ne _ (by decide) (h'.k5 (by simpa using q)), k6 := fun q => (h'.k6 (by simpa using q)).imp fun _ g => ⟨put_ne _ (by decide) (g.1), g.2.1, g.2.2⟩, k7 := fun q => (h'.k7 (by simpa using q)).imp fun _ g => ⟨put_ne _ (by decide) (g.1), g.2.1, g.2.2⟩, k8 := fun q => put_ne _ (by decide) (h'.k8 (by simpa using q)) }
    | 5, ho, hLi, hK' =>
      cases ho
      have ea := h'.k4 (hdeps ⟨4, .data⟩ (by simp) (by rfl))
      go_simp
      refine (ST wx).out.mono ?_
      rintro e w2 ⟨rfl, hb⟩
      exact hK' _ _ { off := h'.off.put (by decide) _, be := h'.be.trans (hb.mono h'.be.size), it := h'.it.next hb, hb' := h'.hb', k0 := fun q => put_ne _ (by decide) (h'.k0 (by simpa using q)), k1 := fun q => put_ne _ (by decide) (h'.k1 (by simpa using q)), k2 := fun q => put_ne _ (by decide) (h'.k2 (by simpa using q)), k3 := fun q => put_ne _ (by decide) (h'.k3 (by simpa using q)), k4 := fun q => put_ne _ (by decide) (h'.k4 (by simpa using q)), k5 := fun _ => put_at _ (by have := h'.off.size; omega), k6 := fun q => (h'.k6 (by simpa using q)).imp fun _ g => ⟨put_ne _ (by decide) (g.1), (g.2.1).draw (Chg.of hb), g.2.2⟩, k7 := fun q => (h'.k7 (by simpa using q)).imp fun _ g => ⟨put_ne _ (by decide) (g.1), (g.2.1).draw (Chg.of hb), g.2.2⟩, k8 := fun q => put_ne _ (by decide) (h'.k8 (by simpa using q)) }
    | 6, ho, hLi, hK' =>
      cases ho
      have ea := h'.k2 (hdeps ⟨2, .data⟩ (by simp) (by rfl))
      have eb := h'.k5 (hdeps ⟨5, .data⟩ (by simp) (by rfl))
      have hb := (Below.refl wx.heap.size wx).alloc (Nat.le_refl _) (.cells #[.int .i64 (t.fx * 16), .int .i64 (t.fy * 16), .int .i64 (t.fz * 16), .int .i64 (t.tx * 16), .int .i64 (t.ty * 16), .int .i64 (t.tz * 16)] 47)
      have hlt := h'.it.lt
      go_simp
      exact hK' _ _ { off := h'.off.put (by decide) _, be := h'.be.trans (hb.mono h'.be.size), it := h'.it.next hb, hb' := h'.hb', k0 := fun q => put_ne _ (by decide) (h'.k0 (by simpa using q)), k1 := fun q => put_ne _ (by decide) (h'.k1 (by simpa using q)), k2 := fun q => put_ne _ (by decide) (h'.k2 (by simpa using q)), k3 := fun q => put_ne _ (by decide) (h'.k3 (by simpa using q)), k4 := fun q => put_ne _ (by decide) (h'.k4 (by simpa using q)), k5 := fun q => put_ne _ (by decide) (h'.k5 (by simpa using q)), k6 := fun _ => ⟨wx.heap.size, put_at _ (by have := h'.off.size; omega), Lit.fresh [t.fx * 16, t.fy * 16, t.fz * 16, t.tx * 16, t.ty * 16, t.tz * 16] _ hlt, hlt⟩, k7 := fun q => (h'.k7 (by simpa using q)).imp fun _ g => ⟨put_ne _ (by decide) (g.1), (g.2.1).draw (Chg.of hb), g.2.2⟩, k8 := fun q => put_ne _ (by decide) (h'.k8 (by simpa using q)) }
    | 7, ho, hLi, hK' =>
      cases ho
      obtain ⟨h6, ea, q60, q61⟩ := h'.k6 (hdeps ⟨6, .data⟩ (by simp) (by rfl))
      go_simp
      exact hK' _ _ { off := h'.off.put (by decide) _, be := h'.be, it := h'.it, hb' := h'.hb', k0 := fun q => put_ne _ (by decide) (h'.k0 (by simpa using q)), k1 := fun q => put_ne _ (by decide) (h'.k1 (by simpa using q)), k2 := fun q => put_ne _ (by decide) (h'.k2 (by simpa using q)), k3 := fun q => put_ne _ (by decide) (h'.k3 (by simpa using q)), k4 := fun q => put_ne _ (by decide) (h'.k4 (by simpa using q)), k5 := fun q => put_ne _ (by decide) (h'.k5 (by simpa using q)), k6 := fun q => (h'.k6 (by simpa using q)).imp fun _ g => ⟨put_ne _ (by decide) (g.1), g.2.1, g.2.2⟩, k7 := fun _ => ⟨h6, put_at _ (by have := h'.off.size; omega), q60, q61⟩, k8 := fun q => put_ne _ (by decide) (h'.k8 (by simpa using q)) }
    | 8, ho, hLi, hK' =>
      cases ho
      go_simp
      exact hK' _ _ { off := h'.off.put (by decide) _, be := h'.be, it := h'.it, hb' := h'.hb', k0 := fun q => put_ne _ (by decide) (h'.k0 (by simpa using q)), k1 := fun q => put_ne _ (by decide) (h'.k1 (by simpa using q)), k2 := fun q => put_ne _ (by decide) (h'.k2 (by simpa using q)), k3 := fun q => put_ne _ (by decide) (h'.k3 (by simpa using q)), k4 := fun q => put_ne _ (by decide) (h'.k4 (by simpa using q)), k5 := fun q => put_ne _ (by decide) (h'.k5 (by simpa using q)), k6 := fun q => (h'.k6 (by simpa using q)).imp fun _ g => ⟨put_ne _ (by decide) (g.1), g.2.1, g.2.2⟩, k7 := fun q => (h'.k7 (by simpa using q)).imp fun _ g => ⟨put_ne _ (by decide) (g.1), g.2.1, g.2.2⟩, k8 := fun _ => put_at _ (by have := h'.off.size; omega) }
    | i + 9, ho, hLi, hK' => cases ho
  · intro L aa wx h' hall
    have z_0 := h'.k0 (hall 0 (by decide))
    have z_1 := h'.k1 (hall 1 (by decide))
    have z_2 := h'.k2 (hall 2 (by decide))
    have z_3 := h'.k3 (hall 3 (by decide))
    have z_4 := h'.k4 (hall 4 (by decide))
    have z_5 := h'.k5 (hall 5 (by decide))
    obtain ⟨h_6, z_6, hL_6, hh_6⟩ := h'.k6 (hall 6 (by decide))
    obtain ⟨h_7, z_7, hL_7, hh_7⟩ := h'.k7 (hall 7 (by decide))
    have z_8 := h'.k8 (hall 8 (by decide))
    have hfr := h'.off.rebuild (fun d' => if d' = 22 then .pointer (some ⟨w.heap.size, 2, none⟩) else if d' = 23 then .agg #[.int .i64 (t.fx), .int .i64 (t.fy), .int .i64 (t.fz)] else if d' = 24 then .agg #[.int .i64 (t.fx * 16), .int .i64 (t.fy * 16), .int .i64 (t.fz * 16)] else if d' = 25 then .pointer (some ⟨w.heap.size, 5, none⟩) else if d' = 26 then .agg #[.int .i64 (t.tx), .int .i64 (t.ty), .int .i64 (t.tz)] else if d' = 27 then .agg #[.int .i64 (t.tx * 16), .int .i64 (t.ty * 16), .int .i64 (t.tz * 16)] else if d' = 28 then .slice (some ⟨h_6, 0, none⟩) 2 2 else if d' = 2 then .slice (some ⟨h_7, 0, none⟩) 2 2 else if d' = 3 then .bool true else undef) (by
      intro d' hd'
      simp only [List.mem_cons, List.not_mem_nil, or_false] at hd'
      rcases hd' with rfl | rfl | rfl | rfl | rfl | rfl | rfl | rfl | rfl
      · exact z_0
      · exact z_1
      · exact z_2
      · exact z_3
      · exact z_4
      · exact z_5
      · exact z_6
      · exact z_7
      · exact z_8
      )
    simp only [List.foldl_cons, List.foldl_nil] at hfr
    rw [← HA.out] at hfr
    have hB := h'.be
    rw [hfr]
    clear hfr h' hall HA hsz hA1 z_0 z_1 z_2 z_3 z_4 z_5 z_6 z_7 z_8
    simp [Act.put]
    go_wp2_with fail
    go_ret2
    --CUT2
    refine ⟨2, 2, h_7, fun i c => cp (if i = 0 then t.fx * 16 else t.tx * 16) (if i = 0 then t.fy * 16 else t.ty * 16) (if i = 0 then t.fz * 16 else t.tz * 16) c, rfl, by decide, by decide, ?_, ⟨rfl, rfl, rfl⟩, ⟨rfl, rfl, rfl⟩, hB⟩
    refine ⟨fun i hi => ?_, hL_7.lt⟩
    have : i = 0 ∨ i = 1 := by omega
    rcases this with rfl | rfl
    · exact ⟨hL_7.c 0 _ rfl, hL_7.c 1 _ rfl, hL_7.c 2 _ rfl⟩
    · exact ⟨hL_7.c 3 _ rfl, hL_7.c 4 _ rfl, hL_7.c 5 _ rfl⟩
theorem endP_any (t : Itm) (w : World) (h : t.Go) : Calls Try.prog 18 #[.agg #[.int .i64 t.kind, .int .i64 t.block, .int .i64 t.fx, .int .i64 t.fy, .int .i64 t.fz, .int .i64 t.tx, .int .i64 t.ty, .int .i64 t.tz, .int .i64 t.plane, .int .i64 t.cx, .int .i64 t.cy, .int .i64 t.cz, .int .i64 t.dir, .bool t.full, .int .i64 t.feed, .bool t.perrev, .int .i64 t.side, .int .i64 t.radius, .int .i64 t.blend, .int .i64 t.n, .int .i64 t.speed, .bool t.on]] w (EndP t w) := by
  rcases h with ⟨m, r, s, k, q, hm, h⟩ | h
  · exact endP_arc h hm w
  · exact endP_line t w h
end Go.Proofs.Ytkjjoclbjkpdaaa
