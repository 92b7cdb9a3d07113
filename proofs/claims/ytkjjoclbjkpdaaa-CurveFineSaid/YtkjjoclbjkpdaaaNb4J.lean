/- Proved here: the first and the last spoke of an arc, of the reference; ranges as stated. -/
import Derived.Test.YtkjjoclbjkpdaaaNb3J
import Derived.Deep.MidRow
namespace Go.Proofs.Ytkjjoclbjkpdaaa
open Go.RowKit
set_option linter.unusedVariables false
set_option linter.unusedSimpArgs false
def itL (t : Itm) : List Value := [.int .i64 t.kind, .int .i64 t.block, .int .i64 t.fx, .int .i64 t.fy, .int .i64 t.fz, .int .i64 t.tx, .int .i64 t.ty, .int .i64 t.tz, .int .i64 t.plane, .int .i64 t.cx, .int .i64 t.cy, .int .i64 t.cz, .int .i64 t.dir, .bool t.full, .int .i64 t.feed, .bool t.perrev, .int .i64 t.side, .int .i64 t.radius, .int .i64 t.blend, .int .i64 t.n, .int .i64 t.speed, .bool t.on]
/-- an item in a block of its own -/
structure ItC (t : Itm) (b : Nat) (w : World) : Prop where
  rg : w.rangeAt b 0 (itL t)
  lt : b < w.heap.size
theorem ItC.next {t : Itm} {b : Nat} {w w' : World} (h : ItC t b w) (hb : Below w.heap.size w w') : ItC t b w' :=
  ⟨fun j v hj => (hb.cell (p := ⟨b, 0 + j, none⟩) h.lt).trans (h.rg j v hj), Nat.lt_of_lt_of_le h.lt hb.size⟩
theorem ItC.fresh (t : Itm) (w : World) (b : Nat) (hb : w.heap.size = b) : ItC t b (w.alloc (.cells #[.int .i64 t.kind, .int .i64 t.block, .int .i64 t.fx, .int .i64 t.fy, .int .i64 t.fz, .int .i64 t.tx, .int .i64 t.ty, .int .i64 t.tz, .int .i64 t.plane, .int .i64 t.cx, .int .i64 t.cy, .int .i64 t.cz, .int .i64 t.dir, .bool t.full, .int .i64 t.feed, .bool t.perrev, .int .i64 t.side, .int .i64 t.radius, .int .i64 t.blend, .int .i64 t.n, .int .i64 t.speed, .bool t.on] 27)) := by
  subst hb
  refine ⟨fun j v hj => ?_, by simp⟩
  have e : (w.alloc (.cells (itL t).toArray 27)).heap[w.heap.size]? = some (.cells (itL t).toArray 27 (0, 0)) := heap_alloc_new w _
  show (w.alloc (.cells (itL t).toArray 27)).cell? _ = _
  rw [cell_of_row _ _ _ _ _ _ e, Nat.zero_add]
  simpa using hj
theorem ItC.load {t : Itm} {b : Nat} {w : World} (h : ItC t b w) : (Instr.loadAt 27 (.pointer (some ⟨b, 0, none⟩))).run Try.prog w = .ok (.agg #[.int .i64 t.kind, .int .i64 t.block, .int .i64 t.fx, .int .i64 t.fy, .int .i64 t.fz, .int .i64 t.tx, .int .i64 t.ty, .int .i64 t.tz, .int .i64 t.plane, .int .i64 t.cx, .int .i64 t.cy, .int .i64 t.cz, .int .i64 t.dir, .bool t.full, .int .i64 t.feed, .bool t.perrev, .int .i64 t.side, .int .i64 t.radius, .int .i64 t.blend, .int .i64 t.n, .int .i64 t.speed, .bool t.on]) w :=
  run_loadAt_mid w b 0 _ (itL t) _ h.rg Try.underlying27 rfl (by kernel_rfl)
theorem Lf.pushg {B n : Nat} {cs : List (Addr × Value)} {w0 w : World} (h : Lf B n cs w0 w) (g : Nat) (vs : Array Value) (t : TypeId) (hg : w.heap.size = g) : Lf B (g + 1) (blk g 0 vs.toList ++ cs) w0 (w.alloc (.cells vs t)) := hg ▸ h.push vs t
theorem Itm.Pos.bd {t : Itm} (h : t.Pos) : (-2097152 ≤ t.aU ∧ t.aU ≤ 2097152) ∧ (-2097152 ≤ t.aW ∧ t.aW ≤ 2097152) ∧ (-2097152 ≤ t.aH ∧ t.aH ≤ 2097152) ∧ (-2097152 ≤ t.bU ∧ t.bU ≤ 2097152) ∧ (-2097152 ≤ t.bW ∧ t.bW ≤ 2097152) ∧ (-2097152 ≤ t.bH ∧ t.bH ≤ 2097152) := by
  obtain ⟨⟨f1, f2, f3⟩, ⟨t1, t2, t3⟩, ⟨c1, c2, c3⟩, hk⟩ := h
  have a1 := plU_bd (k := t.plane) f1 f2 f3
  have a2 := plW_bd (k := t.plane) f1 f2 f3
  have a3 := plH_bd (k := t.plane) f1 f2 f3
  have a4 := plU_bd (k := t.plane) t1 t2 t3
  have a5 := plW_bd (k := t.plane) t1 t2 t3
  have a6 := plH_bd (k := t.plane) t1 t2 t3
  have a7 := plU_bd (k := t.plane) c1 c2 c3
  have a8 := plW_bd (k := t.plane) c1 c2 c3
  unfold Itm.aU Itm.aW Itm.aH Itm.bU Itm.bW Itm.bH
  omega
def Itm.A (t : Itm) : Spk := ⟨t.aU * 16, t.aW * 16, rad (t.aU * 16 * (t.aU * 16) + t.aW * 16 * (t.aW * 16)), t.aH * 16⟩
def Itm.B (t : Itm) : Spk := ⟨t.bU * 16, t.bW * 16, rad (t.bU * 16 * (t.bU * 16) + t.bW * 16 * (t.bW * 16)), t.bH * 16⟩
end Go.Proofs.Ytkjjoclbjkpdaaa
