/- Proved here: the first and the last spoke of an arc, of the reference; ranges as stated. -/
import Derived.Test.YtkjjoclbjkpdaaaNb3R
import Derived.Deep.MidRow
namespace Go.Proofs.Ytkjjoclbjkpdaaa
open Go.RowKit
set_option linter.unusedVariables false
set_option linter.unusedSimpArgs false
def itL (t : Itm) : List Value := [.int .i64 t.kind, .int .i64 t.block, .int .i64 t.fx, .int .i64 t.fy, .int .i64 t.fz, .int .i64 t.tx, .int .i64 t.ty, .int .i64 t.tz, .int .i64 t.plane, .int .i64 t.cx, .int .i64 t.cy, .int .i64 t.cz, .int .i64 t.dir, .bool t.full, .int .i64 t.feed, .bool t.perrev, .int .i64 t.side, .int .i64 t.radius, .int .i64 t.blend, .int .i64 t.n, .int .i64 t.speed, .bool t.on]
/-- an item in a block of its own -/
structure ItC (t : Itm) (b : Nat) (w : World) : Prop where
  rg : w.rangeAt b 0 (itL t)
  lt : b < w.heap.size
theorem ItC.next {t : Itm} {b : Nat} {w w' : World} (h : ItC t b w) (hb : Below w.heap.size w w') : ItC t b w' :=
  ⟨fun j v hj => (hb.cell (p := ⟨b, 0 + j, none⟩) h.lt).trans (h.rg j v hj), Nat.lt_of_lt_of_le h.lt hb.size⟩
theorem ItC.fresh (t : Itm) (w : World) (b : Nat) (hb : w.heap.size = b) : ItC t b (w.alloc (.cells #[.int .i64 t.kind, .int .i64 t.block, .int .i64 t.fx, .int .i64 t.fy, .int .i64 t.fz, .int .i64 t.tx, .int .i64 t.ty, .int .i64 t.tz, .int .i64 t.plane, .int .i64 t.cx, .int .i64 t.cy, .int .i64 t.cz, .int .i64 t.dir, .bool t.full, .int .i64 t.feed, .bool t.perrev, .int .i64 t.side, .int .i64 t.radius, .int .i64 t.blend, .int .i64 t.n, .int .i64 t.speed, .bool t.on] 27)) := by
  subst hb
  refine ⟨fun j v hj => ?_, by simp⟩
  have e : (w.alloc (.cells (itL t).toArray 27)).heap[w.heap.size]? = some (.cells (itL t).toArray 27 (0, 0)) := heap_alloc_new w _
  show (w.alloc (.cells (itL t).toArray 27)).cell? _ = _
  rw [cell_of_row _ _ _ _ _ _ e, Nat.zero_add]
  simpa using hj
theorem ItC.load {t : Itm} {b : Nat} {w : World} (h : ItC t b w) : (Instr.loadAt 27 (.pointer (some ⟨b, 0, none⟩))).run Try.prog w = .ok (.agg #[.int .i64 t.kind, .int .i64 t.block, .int .i64 t.fx, .int .i64 t.fy, .int .i64 t.fz, .int .i64 t.tx, .int .i64 t.ty, .int .i64 t.tz, .int .i64 t.plane, .int .i64 t.cx, .int .i64 t.cy, .int .i64 t.cz, .int .i64 t.dir, .bool t.full, .int .i64 t.feed, .bool t.perrev, .int .i64 t.side, .int .i64 t.radius, .int .i64 t.blend, .int .i64 t.n, .int .i64 t.speed, .bool t.on]) w :=
  run_loadAt_mid w b 0 _ (itL t) _ h.rg Try.underlying27 rfl (by kernel_rfl)
theorem Lf.pushg {B n : Nat} {cs : List (Addr × Value)} {w0 w : World} (h : Lf B n cs w0 w) (g : Nat) (vs : Array Value) (t : TypeId) (hg : w.heap.size = g) : Lf B (g + 1) (blk g 0 vs.toList ++ cs) w0 (w.alloc (.cells vs t)) := hg ▸ h.push vs t
theorem Itm.Pos.bd {t : Itm} (h : t.Pos) : (-2097152 ≤ t.aU ∧ t.aU ≤ 2097152) ∧ (-2097152 ≤ t.aW ∧ t.aW ≤ 2097152) ∧ (-2097152 ≤ t.aH ∧ t.aH ≤ 2097152) ∧ (-2097152 ≤ t.bU ∧ t.bU ≤ 2097152) ∧ (-2097152 ≤ t.bW ∧ t.bW ≤ 2097152) ∧ (-2097152 ≤ t.bH ∧ t.bH ≤ 2097152) := by
  obtain ⟨⟨f1, f2, f3⟩, ⟨t1, t2, t3⟩, ⟨c1, c2, c3⟩, hk⟩ := h
  have a1 := plU_bd (k := t.plane) f1 f2 f3
  have a2 := plW_bd (k := t.plane) f1 f2 f3
  have a3 := plH_bd (k := t.plane) f1 f2 f3
  have a4 := plU_bd (k := t.plane) t1 t2 t3
  have a5 := plW_bd (k := t.plane) t1 t2 t3
  have a6 := plH_bd (k := t.plane) t1 t2 t3
  have a7 := plU_bd (k := t.plane) c1 c2 c3
  have a8 := plW_bd (k := t.plane) c1 c2 c3
  unfold Itm.aU Itm.aW Itm.aH Itm.bU Itm.bW Itm.bH
  omega
def Itm.A (t : Itm) : Spk := ⟨t.aU * 16, t.aW * 16, rad (t.aU * 16 * (t.aU * 16) + t.aW * 16 * (t.aW * 16)), t.aH * 16⟩
def Itm.B (t : Itm) : Spk := ⟨t.bU * 16, t.bW * 16, rad (t.bU * 16 * (t.bU * 16) + t.bW * 16 * (t.bW * 16)), t.bH * 16⟩
structure EsI (aU aW aH bU bW bH rA rB : Int) (g : Nat) (w0 : World) (A : Act) (L : Nat → Bool) (a : Act) (w : World) : Prop where
  off : OffOf [11, 12, 13, 14] A a
  k0 : L 0 = true → a.tmps[11]? = some (.agg #[.int .i64 (aU), .int .i64 (aW), .int .i64 (0), .int .i64 (aH)])
  k1 : L 1 = true → a.tmps[12]? = some (.agg #[.int .i64 (aU * 16), .int .i64 (aW * 16), .int .i64 (rA), .int .i64 (aH * 16)])
  k2 : L 2 = true → a.tmps[13]? = some (.agg #[.int .i64 (bU), .int .i64 (bW), .int .i64 (0), .int .i64 (bH)])
  k3 : L 3 = true → a.tmps[14]? = some (.agg #[.int .i64 (bU * 16), .int .i64 (bW * 16), .int .i64 (rB), .int .i64 (bH * 16)])
  bx : Lf w0.heap.size (g + 2) [(⟨g, 0, none⟩, .int .i64 (aU)), (⟨g, 1, none⟩, .int .i64 (aW)), (⟨g, 2, none⟩, .int .i64 (0)), (⟨g, 3, none⟩, .int .i64 (aH)), (⟨(g + 1), 0, none⟩, .int .i64 (bU)), (⟨(g + 1), 1, none⟩, .int .i64 (bW)), (⟨(g + 1), 2, none⟩, .int .i64 (0)), (⟨(g + 1), 3, none⟩, .int .i64 (bH))] w0 w
  r0 : Row (w0.heap.size + 1) 4 0 (fun i => if i = 0 then .int .i64 (aU * 16) else if i = 1 then .int .i64 (aW * 16) else if i = 2 then .int .i64 (rA) else .int .i64 (aH * 16)) w
  s0 : L 4 = true → Row (w0.heap.size + 1) 4 4 (fun i => if i = 0 then .int .i64 (aU * 16) else if i = 1 then .int .i64 (aW * 16) else if i = 2 then .int .i64 (rA) else .int .i64 (aH * 16)) w
  r1 : Row (w0.heap.size + 2) 4 0 (fun i => if i = 0 then .int .i64 (bU * 16) else if i = 1 then .int .i64 (bW * 16) else if i = 2 then .int .i64 (rB) else .int .i64 (bH * 16)) w
  s1 : L 5 = true → Row (w0.heap.size + 2) 4 4 (fun i => if i = 0 then .int .i64 (bU * 16) else if i = 1 then .int .i64 (bW * 16) else if i = 2 then .int .i64 (rB) else .int .i64 (bH * 16)) w
set_option maxHeartbeats 8000000 in
set_option maxRecDepth 40000 in
theorem EndsR_any (t : Itm) (w : World) (ht : t.Pos) :
    Calls Try.prog 35 #[.agg #[.int .i64 t.kind, .int .i64 t.block, .int .i64 t.fx, .int .i64 t.fy, .int .i64 t.fz, .int .i64 t.tx, .int .i64 t.ty, .int .i64 t.tz, .int .i64 t.plane, .int .i64 t.cx, .int .i64 t.cy, .int .i64 t.cz, .int .i64 t.dir, .bool t.full, .int .i64 t.feed, .bool t.perrev, .int .i64 t.side, .int .i64 t.radius, .int .i64 t.blend, .int .i64 t.n, .int .i64 t.speed, .bool t.on]] w fun e w' => e = .returned (.tuple #[.agg #[.int .i64 t.A.u, .int .i64 t.A.w, .int .i64 t.A.r, .int .i64 t.A.h], .agg #[.int .i64 t.B.u, .int .i64 t.B.w, .int .i64 t.B.r, .int .i64 t.B.h]]) ∧ Below w.heap.size w w' := by
  have EN := fun w => Lib.hid (endsR_any t w ht)
  obtain ⟨ha1, ha2, ha3, hb1, hb2, hb3⟩ := ht.bd
  have CA := fun w => Lib.hid (spokeR_any t.aU t.aW 0 t.aH w ha1 ha2 ha3)
  have CB := fun w => Lib.hid (spokeR_any t.bU t.bW 0 t.bH w hb1 hb2 hb3)
  unfold Itm.A Itm.B
  simp only
  generalize rad (t.aU * 16 * (t.aU * 16) + t.aW * 16 * (t.aW * 16)) = rA at *
  generalize rad (t.bU * 16 * (t.bU * 16) + t.bW * 16 * (t.bW * 16)) = rB at *
  generalize t.aU = aU at *
  generalize t.aW = aW at *
  generalize t.aH = aH at *
  generalize t.bU = bU at *
  generalize t.bW = bW at *
  generalize t.bH = bH at *
  clear ha1 ha2 ha3 hb1 hb2 hb3 ht
  have hI : ItC t w.heap.size (((w.alloc (.cells #[.int .i64 t.kind, .int .i64 t.block, .int .i64 t.fx, .int .i64 t.fy, .int .i64 t.fz, .int .i64 t.tx, .int .i64 t.ty, .int .i64 t.tz, .int .i64 t.plane, .int .i64 t.cx, .int .i64 t.cy, .int .i64 t.cz, .int .i64 t.dir, .bool t.full, .int .i64 t.feed, .bool t.perrev, .int .i64 t.side, .int .i64 t.radius, .int .i64 t.blend, .int .i64 t.n, .int .i64 t.speed, .bool t.on] 27)).alloc (.cells #[.int .i64 0, .int .i64 0, .int .i64 0, .int .i64 0] 34)).alloc (.cells #[.int .i64 0, .int .i64 0, .int .i64 0, .int .i64 0] 34)) := ((ItC.fresh t w _ rfl).next ((Below.refl _ _).alloc (Nat.le_refl _) _)).next ((Below.refl _ _).alloc (Nat.le_refl _) _)
  have hT : Lf w.heap.size (w.heap.size + 3) [] w (((w.alloc (.cells #[.int .i64 t.kind, .int .i64 t.block, .int .i64 t.fx, .int .i64 t.fy, .int .i64 t.fz, .int .i64 t.tx, .int .i64 t.ty, .int .i64 t.tz, .int .i64 t.plane, .int .i64 t.cx, .int .i64 t.cy, .int .i64 t.cz, .int .i64 t.dir, .bool t.full, .int .i64 t.feed, .bool t.perrev, .int .i64 t.side, .int .i64 t.radius, .int .i64 t.blend, .int .i64 t.n, .int .i64 t.speed, .bool t.on] 27)).alloc (.cells #[.int .i64 0, .int .i64 0, .int .i64 0, .int .i64 0] 34)).alloc (.cells #[.int .i64 0, .int .i64 0, .int .i64 0, .int .i64 0] 34)) := ⟨by simp [List.forall_mem_cons, go_sem], by simp [List.forall_mem_cons, go_sem], by simp [List.forall_mem_cons] <;> omega, by simp, by (repeat (first | exact Below.refl _ _ | refine Below.alloc ?_ (by simp <;> omega) _)), by omega⟩
  have hA : Row (w.heap.size + 1) 4 0 (fun i => if i = 0 then .int .i64 (aU * 16) else if i = 1 then .int .i64 (aW * 16) else if i = 2 then .int .i64 (rA) else .int .i64 (aH * 16)) (((w.alloc (.cells #[.int .i64 t.kind, .int .i64 t.block, .int .i64 t.fx, .int .i64 t.fy, .int .i64 t.fz, .int .i64 t.tx, .int .i64 t.ty, .int .i64 t.tz, .int .i64 t.plane, .int .i64 t.cx, .int .i64 t.cy, .int .i64 t.cz, .int .i64 t.dir, .bool t.full, .int .i64 t.feed, .bool t.perrev, .int .i64 t.side, .int .i64 t.radius, .int .i64 t.blend, .int .i64 t.n, .int .i64 t.speed, .bool t.on] 27)).alloc (.cells #[.int .i64 0, .int .i64 0, .int .i64 0, .int .i64 0] 34)).alloc (.cells #[.int .i64 0, .int .i64 0, .int .i64 0, .int .i64 0] 34)) := (Row.freshg4 _ _ _ _ _ _ _ _ (by simp)).next ((Below.refl _ _).alloc (Nat.le_refl _) _)
  have hB : Row (w.heap.size + 2) 4 0 (fun i => if i = 0 then .int .i64 (bU * 16) else if i = 1 then .int .i64 (bW * 16) else if i = 2 then .int .i64 (rB) else .int .i64 (bH * 16)) (((w.alloc (.cells #[.int .i64 t.kind, .int .i64 t.block, .int .i64 t.fx, .int .i64 t.fy, .int .i64 t.fz, .int .i64 t.tx, .int .i64 t.ty, .int .i64 t.tz, .int .i64 t.plane, .int .i64 t.cx, .int .i64 t.cy, .int .i64 t.cz, .int .i64 t.dir, .bool t.full, .int .i64 t.feed, .bool t.perrev, .int .i64 t.side, .int .i64 t.radius, .int .i64 t.blend, .int .i64 t.n, .int .i64 t.speed, .bool t.on] 27)).alloc (.cells #[.int .i64 0, .int .i64 0, .int .i64 0, .int .i64 0] 34)).alloc (.cells #[.int .i64 0, .int .i64 0, .int .i64 0, .int .i64 0] 34)) := Row.freshg4 _ _ _ _ _ _ _ _ (by simp)
  go_enter Try.func35, Try.ntmps35
  go_upto_region 1 with fail
  refine wp_cls (fun wr => ItC t w.heap.size wr ∧ Lf w.heap.size (w.heap.size + 3) [] w wr ∧ Row (w.heap.size + 1) 4 0 (fun i => if i = 0 then .int .i64 (aU * 16) else if i = 1 then .int .i64 (aW * 16) else if i = 2 then .int .i64 (rA) else .int .i64 (aH * 16)) wr ∧ Row (w.heap.size + 2) 4 0 (fun i => if i = 0 then .int .i64 (bU * 16) else if i = 1 then .int .i64 (bW * 16) else if i = 2 then .int .i64 (rB) else .int .i64 (bH * 16)) wr) ⟨hI, hT, hA, hB⟩ ?_
  clear hT hA hB hI
  rintro wq ⟨hI, hT, hA, hB⟩
  go_wp2_with (refine wpList_load_mid rfl 27 (.tmp 1) rfl w.heap.size 0 rfl (itL t) _ hI.rg Try.underlying27 rfl (by kernel_rfl) ?_)
  clear hI
  refine (EN _).out.mono ?_
  rintro e w1 ⟨rfl, hb1⟩
  have hT := hT.next hb1
  have hA := hA.next hb1
  have hB := hB.next hb1
  clear hb1 EN
  have hV := (hT.pushg w1.heap.size #[.int .i64 aU, .int .i64 aW, .int .i64 0, .int .i64 aH] 34 rfl).pushg (w1.heap.size + 1) #[.int .i64 bU, .int .i64 bW, .int .i64 0, .int .i64 bH] 34 (by simp)
  have hA := (hA.next ((Below.refl _ _).alloc (Nat.le_refl _) (.cells #[.int .i64 aU, .int .i64 aW, .int .i64 0, .int .i64 aH] 34))).next ((Below.refl _ _).alloc (Nat.le_refl _) (.cells #[.int .i64 bU, .int .i64 bW, .int .i64 0, .int .i64 bH] 34))
  have hB := (hB.next ((Below.refl _ _).alloc (Nat.le_refl _) (.cells #[.int .i64 aU, .int .i64 aW, .int .i64 0, .int .i64 aH] 34))).next ((Below.refl _ _).alloc (Nat.le_refl _) (.cells #[.int .i64 bU, .int .i64 bW, .int .i64 0, .int .i64 bH] 34))
  have hgw : w.heap.size + 3 ≤ w1.heap.size := hT.lt
  have hV := hV.sub (ds := [(⟨w1.heap.size, 0, none⟩, .int .i64 (aU)), (⟨w1.heap.size, 1, none⟩, .int .i64 (aW)), (⟨w1.heap.size, 2, none⟩, .int .i64 (0)), (⟨w1.heap.size, 3, none⟩, .int .i64 (aH)), (⟨(w1.heap.size + 1), 0, none⟩, .int .i64 (bU)), (⟨(w1.heap.size + 1), 1, none⟩, .int .i64 (bW)), (⟨(w1.heap.size + 1), 2, none⟩, .int .i64 (0)), (⟨(w1.heap.size + 1), 3, none⟩, .int .i64 (bH))]) (by simp [blk])
  clear hT
  go_upto_region 2 with fail
  generalize w1.heap.size = g at *
  refine wp_cls (fun wr => Lf w.heap.size (g + 2) [(⟨g, 0, none⟩, .int .i64 (aU)), (⟨g, 1, none⟩, .int .i64 (aW)), (⟨g, 2, none⟩, .int .i64 (0)), (⟨g, 3, none⟩, .int .i64 (aH)), (⟨(g + 1), 0, none⟩, .int .i64 (bU)), (⟨(g + 1), 1, none⟩, .int .i64 (bW)), (⟨(g + 1), 2, none⟩, .int .i64 (0)), (⟨(g + 1), 3, none⟩, .int .i64 (bH))] w wr ∧ Row (w.heap.size + 1) 4 0 (fun i => if i = 0 then .int .i64 (aU * 16) else if i = 1 then .int .i64 (aW * 16) else if i = 2 then .int .i64 (rA) else .int .i64 (aH * 16)) wr ∧ Row (w.heap.size + 2) 4 0 (fun i => if i = 0 then .int .i64 (bU * 16) else if i = 1 then .int .i64 (bW * 16) else if i = 2 then .int .i64 (rB) else .int .i64 (bH * 16)) wr) ⟨hV, hA, hB⟩ ?_
  clear hV hA hB
  rintro wr ⟨hT, hA, hB⟩
  generalize hA : (Act.mk _ _) = A
  have hsz : A.tmps.size = 15 := by rw [← hA]; rfl
  have hA2 : A.tmps[2]? = some (.pointer (some ⟨w.heap.size + 1, 0, none⟩)) := by rw [← hA]; rfl
  have hA3 : A.tmps[3]? = some (.pointer (some ⟨w.heap.size + 2, 0, none⟩)) := by rw [← hA]; rfl
  have hA4 : A.tmps[4]? = some (.pointer (some ⟨g, 0, none⟩)) := by rw [← hA]; rfl
  have hA5 : A.tmps[5]? = some (.pointer (some ⟨g + 1, 0, none⟩)) := by rw [← hA]; rfl
  have HA := Lib.hid hA
  clear hA
  refine wp_region_inv (fun L a wx => EsI aU aW aH bU bW bH rA rB g w A L a wx) (by kernel_rfl) (by kernel_rfl) ?_ ?_ ?_
  · have hD := (Below.refl wr.heap.size wr).drew
    exact (by constructor <;> first | exact OffOf.refl _ _ | exact hT.next hD | exact hA.next hD | exact hB.next hD | (intro h; exact nomatch h))
  · intro i o ho L a wx h' hLi hdeps K hK'
    match i, ho, hLi, hK' with
    | 0, ho, hLi, hK' =>
      cases ho
      have e0 := (h'.off.off 4 (by decide)).trans hA4
      have kc := h'.bx.cells
      simp only [List.forall_mem_cons, List.not_mem_nil, false_implies, implies_true, and_true] at kc
      obtain ⟨yc0, yc1, yc2, yc3, yc4, yc5, yc6, yc7⟩ := kc
      go_simp
      exact hK' _ _ { off := h'.off.put (by decide) _, k0 := fun _ => put_at _ (by have := h'.off.size; omega), k1 := fun q => put_ne _ (by decide) (h'.k1 (by simpa using q)), k2 := fun q => put_ne _ (by decide) (h'.k2 (by simpa using q)), k3 := fun q => put_ne _ (by decide) (h'.k3 (by simpa using q)), bx := h'.bx, r0 := h'.r0, s0 := fun q => h'.s0 (by simpa using q), r1 := h'.r1, s1 := fun q => h'.s1 (by simpa using q) }
    | 1, ho, hLi, hK' =>
      cases ho
      have e0 := h'.k0 (hdeps ⟨0, .data⟩ (by simp) (by rfl))
      go_simp
      refine (CA _).out.mono ?_
      rintro e w2 ⟨rfl, hb⟩
      exact hK' _ _ { off := h'.off.put (by decide) _, k0 := fun q => put_ne _ (by decide) (h'.k0 (by simpa using q)), k1 := fun _ => put_at _ (by have := h'.off.size; omega), k2 := fun q => put_ne _ (by decide) (h'.k2 (by simpa using q)), k3 := fun q => put_ne _ (by decide) (h'.k3 (by simpa using q)), bx := h'.bx.next hb, r0 := h'.r0.next hb, s0 := fun q => (h'.s0 (by simpa using q)).next hb, r1 := h'.r1.next hb, s1 := fun q => (h'.s1 (by simpa using q)).next hb }
    | 2, ho, hLi, hK' =>
      cases ho
      have e0 := (h'.off.off 5 (by decide)).trans hA5
      have kc := h'.bx.cells
      simp only [List.forall_mem_cons, List.not_mem_nil, false_implies, implies_true, and_true] at kc
      obtain ⟨yc0, yc1, yc2, yc3, yc4, yc5, yc6, yc7⟩ := kc
      go_simp
      exact hK' _ _ { off := h'.off.put (by decide) _, k0 := fun q => put_ne _ (by decide) (h'.k0 (by simpa using q)), k1 := fun q => put_ne _ (by decide) (h'.k1 (by simpa using q)), k2 := fun _ => put_at _ (by have := h'.off.size; omega), k3 := fun q => put_ne _ (by decide) (h'.k3 (by simpa using q)), bx := h'.bx, r0 := h'.r0, s0 := fun q => h'.s0 (by simpa using q), r1 := h'.r1, s1 := fun q => h'.s1 (by simpa using q) }
    | 3, ho, hLi, hK' =>
      cases ho
      have e0 := h'.k2 (hdeps ⟨2, .data⟩ (by simp) (by rfl))
      go_simp
      refine (CB _).out.mono ?_
      rintro e w2 ⟨rfl, hb⟩
      exact hK' _ _ { off := h'.off.put (by decide) _, k0 := fun q => put_ne _ (by decide) (h'.k0 (by simpa using q)), k1 := fun q => put_ne _ (by decide) (h'.k1 (by simpa using q)), k2 := fun q => put_ne _ (by decide) (h'.k2 (by simpa using q)), k3 := fun _ => put_at _ (by have := h'.off.size; omega), bx := h'.bx.next hb, r0 := h'.r0.next hb, s0 := fun q => (h'.s0 (by simpa using q)).next hb, r1 := h'.r1.next hb, s1 := fun q => (h'.s1 (by simpa using q)).next hb }
    | 4, ho, hLi, hK' =>
      cases ho
      have e0 := h'.k1 (hdeps ⟨1, .data⟩ (by simp) (by rfl))
      have e1 := (h'.off.off 2 (by decide)).trans hA2
      have hB0 : w.heap.size ≤ w.heap.size + 1 := by omega
      have hN0 : ∀ p ∈ ([(⟨g, 0, none⟩, .int .i64 (aU)), (⟨g, 1, none⟩, .int .i64 (aW)), (⟨g, 2, none⟩, .int .i64 (0)), (⟨g, 3, none⟩, .int .i64 (aH)), (⟨(g + 1), 0, none⟩, .int .i64 (bU)), (⟨(g + 1), 1, none⟩, .int .i64 (bW)), (⟨(g + 1), 2, none⟩, .int .i64 (0)), (⟨(g + 1), 3, none⟩, .int .i64 (bH))] : List (Addr × Value)), p.1.block ≠ w.heap.size + 1 := by simp [List.forall_mem_cons] <;> omega
      have hne10 : w.heap.size + 2 ≠ w.heap.size + 1 := by omega
      obtain ⟨u0, hu0⟩ := h'.r0.ex 0 (by decide)
      have hf0 := h'.r0.frz 0 (by decide)
      obtain ⟨u1, hu1⟩ := h'.r0.ex 1 (by decide)
      have hf1 := h'.r0.frz 1 (by decide)
      obtain ⟨u2, hu2⟩ := h'.r0.ex 2 (by decide)
      have hf2 := h'.r0.frz 2 (by decide)
      obtain ⟨u3, hu3⟩ := h'.r0.ex 3 (by decide)
      have hf3 := h'.r0.frz 3 (by decide)
      go_simp
      exact hK' _ _ { off := h'.off, k0 := fun q => h'.k0 (by simpa using q), k1 := fun q => h'.k1 (by simpa using q), k2 := fun q => h'.k2 (by simpa using q), k3 := fun q => h'.k3 (by simpa using q), bx := ((((h'.bx.wr (w.heap.size + 1) 0 _ hB0 hN0).wr (w.heap.size + 1) 1 _ hB0 hN0).wr (w.heap.size + 1) 2 _ hB0 hN0).wr (w.heap.size + 1) 3 _ hB0 hN0), r0 := ((((h'.r0.put 0 _ (by decide) (by decide)).put 1 _ (by decide) (by decide)).put 2 _ (by decide) (by decide)).put 3 _ (by decide) (by decide)), s0 := fun _ => ((((h'.r0.step _ (by decide) rfl).step _ (by decide) rfl).step _ (by decide) rfl).step _ (by decide) rfl), r1 := ((((h'.r1.other hne10 0 _).other hne10 1 _).other hne10 2 _).other hne10 3 _), s1 := fun q => ((((((((h'.s1 (by simpa using q)).other hne10 0 _)).other hne10 1 _)).other hne10 2 _)).other hne10 3 _) }
    | 5, ho, hLi, hK' =>
      cases ho
      have e0 := h'.k3 (hdeps ⟨3, .data⟩ (by simp) (by rfl))
      have e1 := (h'.off.off 3 (by decide)).trans hA3
      have hB1 : w.heap.size ≤ w.heap.size + 2 := by omega
      have hN1 : ∀ p ∈ ([(⟨g, 0, none⟩, .int .i64 (aU)), (⟨g, 1, none⟩, .int .i64 (aW)), (⟨g, 2, none⟩, .int .i64 (0)), (⟨g, 3, none⟩, .int .i64 (aH)), (⟨(g + 1), 0, none⟩, .int .i64 (bU)), (⟨(g + 1), 1, none⟩, .int .i64 (bW)), (⟨(g + 1), 2, none⟩, .int .i64 (0)), (⟨(g + 1), 3, none⟩, .int .i64 (bH))] : List (Addr × Value)), p.1.block ≠ w.heap.size + 2 := by simp [List.forall_mem_cons] <;> omega
      have hne01 : w.heap.size + 1 ≠ w.heap.size + 2 := by omega
      obtain ⟨u0, hu0⟩ := h'.r1.ex 0 (by decide)
      have hf0 := h'.r1.frz 0 (by decide)
      obtain ⟨u1, hu1⟩ := h'.r1.ex 1 (by decide)
      have hf1 := h'.r1.frz 1 (by decide)
      obtain ⟨u2, hu2⟩ := h'.r1.ex 2 (by decide)
      have hf2 := h'.r1.frz 2 (by decide)
      obtain ⟨u3, hu3⟩ := h'.r1.ex 3 (by decide)
      have hf3 := h'.r1.frz 3 (by decide)
      go_simp
      exact hK' _ _ { off := h'.off, k0 := fun q => h'.k0 (by simpa using q), k1 := fun q => h'.k1 (by simpa using q), k2 := fun q => h'.k2 (by simpa using q), k3 := fun q => h'.k3 (by simpa using q), bx := ((((h'.bx.wr (w.heap.size + 2) 0 _ hB1 hN1).wr (w.heap.size + 2) 1 _ hB1 hN1).wr (w.heap.size + 2) 2 _ hB1 hN1).wr (w.heap.size + 2) 3 _ hB1 hN1), r0 := ((((h'.r0.other hne01 0 _).other hne01 1 _).other hne01 2 _).other hne01 3 _), s0 := fun q => ((((((((h'.s0 (by simpa using q)).other hne01 0 _)).other hne01 1 _)).other hne01 2 _)).other hne01 3 _), r1 := ((((h'.r1.put 0 _ (by decide) (by decide)).put 1 _ (by decide) (by decide)).put 2 _ (by decide) (by decide)).put 3 _ (by decide) (by decide)), s1 := fun _ => ((((h'.r1.step _ (by decide) rfl).step _ (by decide) rfl).step _ (by decide) rfl).step _ (by decide) rfl) }
    | i + 6, ho, hLi, hK' => cases ho
  · intro L a wx h' hall
    have hfr := h'.off.rebuild (fun d => if d = 11 then .agg #[.int .i64 (aU), .int .i64 (aW), .int .i64 (0), .int .i64 (aH)] else if d = 12 then .agg #[.int .i64 (aU * 16), .int .i64 (aW * 16), .int .i64 (rA), .int .i64 (aH * 16)] else if d = 13 then .agg #[.int .i64 (bU), .int .i64 (bW), .int .i64 (0), .int .i64 (bH)] else if d = 14 then .agg #[.int .i64 (bU * 16), .int .i64 (bW * 16), .int .i64 (rB), .int .i64 (bH * 16)] else undef) (by
      intro d hd
      simp only [List.mem_cons, List.not_mem_nil, or_false] at hd
      rcases hd with rfl | rfl | rfl | rfl
      · exact h'.k0 (hall 0 (by decide))
      · exact h'.k1 (hall 1 (by decide))
      · exact h'.k2 (hall 2 (by decide))
      · exact h'.k3 (hall 3 (by decide))
      )
    simp only [List.foldl_cons, List.foldl_nil] at hfr
    rw [← HA.out] at hfr
    have hT := h'.bx
    have hR0 := h'.s0 (hall 4 (by decide))
    have hR1 := h'.s1 (hall 5 (by decide))
    rw [hfr]
    clear hfr h' hall HA hsz hA2 hA3 hA4 hA5
    simp [Act.put]
    go_wp2_with fail
    refine bodyPost_ret (res_spokes (b := w.heap.size + 1) (b' := w.heap.size + 2) Try.results35 _ rfl rfl _ (aU * 16) (aW * 16) (rA) (aH * 16) (bU * 16) (bW * 16) (rB) (bH * 16) (hR0.cell 0 (by decide)) (hR0.cell 1 (by decide)) (hR0.cell 2 (by decide)) (hR0.cell 3 (by decide)) (hR1.cell 0 (by decide)) (hR1.cell 1 (by decide)) (hR1.cell 2 (by decide)) (hR1.cell 3 (by decide))) rfl ⟨rfl, hT.be⟩
end Go.Proofs.Ytkjjoclbjkpdaaa
