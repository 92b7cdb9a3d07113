/- Proved here: the ends of an arc, of the program; ranges as stated. -/
import Derived.Test.YtkjjoclbjkpdaaaNb1R
namespace Go.Proofs.Ytkjjoclbjkpdaaa
open Go.RowKit
set_option linter.unusedVariables false
set_option linter.unusedSimpArgs false
theorem Lf.wr {B n : Nat} {cs : List (Addr × Value)} {w0 w : World} (h : Lf B n cs w0 w) (g o : Nat) (u : Value) (hB : B ≤ g) (hg : ∀ p ∈ cs, p.1.block ≠ g) : Lf B n cs w0 (w.setCell ⟨g, o, none⟩ u) :=
  h.chg (cb := g) (v := .slice none 0 0) ((Chg.refl g _ w).own o u) hg (fun _ _ e => nomatch e) hB (fun _ e => nomatch e)
def Itm.aU (t : Itm) : Int := plU t.plane t.fx t.fy t.fz - plU t.plane t.cx t.cy t.cz
def Itm.aW (t : Itm) : Int := plW t.plane t.fx t.fy t.fz - plW t.plane t.cx t.cy t.cz
def Itm.aH (t : Itm) : Int := plH t.plane t.fx t.fy t.fz
def Itm.bU (t : Itm) : Int := plU t.plane t.tx t.ty t.tz - plU t.plane t.cx t.cy t.cz
def Itm.bW (t : Itm) : Int := plW t.plane t.tx t.ty t.tz - plW t.plane t.cx t.cy t.cz
def Itm.bH (t : Itm) : Int := plH t.plane t.tx t.ty t.tz
def In (l x y z : Int) : Prop := (-l ≤ x ∧ x ≤ l) ∧ (-l ≤ y ∧ y ≤ l) ∧ (-l ≤ z ∧ z ≤ l)
/-- the positions lie within the limits, the plane is one -/
structure Itm.Pos (t : Itm) : Prop where
  pf : In 1048576 t.fx t.fy t.fz
  pt : In 1048576 t.tx t.ty t.tz
  pc : In 1048576 t.cx t.cy t.cz
  pk : PlK t.plane
def lG (f0 f1 f2 f3 t0 t1 t2 t3 : Int) (i : Nat) : Value := .int .i64 (if i = 0 then f0 else if i = 1 then f1 else if i = 2 then f2 else if i = 3 then f3 else if i = 4 then t0 else if i = 5 then t1 else if i = 6 then t2 else t3)
theorem Row.freshg4 (w : World) (g : Nat) (v0 v1 v2 v3 : Value) (T : TypeId) (G : Nat → Value) (hg : w.heap.size = g) : Row g 4 0 G (w.alloc (.cells #[v0, v1, v2, v3] T)) := hg ▸ Row.fresh4 w v0 v1 v2 v3 T G
theorem Row.fresh8 (w : World) (v0 v1 v2 v3 v4 v5 v6 v7 : Value) (T : TypeId) (G : Nat → Value) : Row w.heap.size 8 0 G (w.alloc (.cells #[v0, v1, v2, v3, v4, v5, v6, v7] T)) := by
  have k : ∀ j, j < 8 → j = 0 ∨ j = 1 ∨ j = 2 ∨ j = 3 ∨ j = 4 ∨ j = 5 ∨ j = 6 ∨ j = 7 := by omega
  refine ⟨fun j hj => absurd hj (by omega), fun j hj => ?_, fun j hj => ?_, by simp⟩ <;> rcases k j hj with rfl | rfl | rfl | rfl | rfl | rfl | rfl | rfl <;> simp [go_sem]
theorem Row.freshg8 (w : World) (g : Nat) (v0 v1 v2 v3 v4 v5 v6 v7 : Value) (T : TypeId) (G : Nat → Value) (hg : w.heap.size = g) : Row g 8 0 G (w.alloc (.cells #[v0, v1, v2, v3, v4, v5, v6, v7] T)) := hg ▸ Row.fresh8 w v0 v1 v2 v3 v4 v5 v6 v7 T G
structure EndI (t : Itm) (fU fW fH tU tW tH cU cW : Int) (w0 : World) (L : Nat) (w : World) : Prop where
  bx : Lf w0.heap.size (w0.heap.size + 4) [(⟨w0.heap.size, 2, none⟩, .int .i64 t.fx), (⟨w0.heap.size, 3, none⟩, .int .i64 t.fy), (⟨w0.heap.size, 4, none⟩, .int .i64 t.fz), (⟨w0.heap.size, 5, none⟩, .int .i64 t.tx), (⟨w0.heap.size, 6, none⟩, .int .i64 t.ty), (⟨w0.heap.size, 7, none⟩, .int .i64 t.tz), (⟨w0.heap.size, 8, none⟩, .int .i64 t.plane), (⟨w0.heap.size, 9, none⟩, .int .i64 t.cx), (⟨w0.heap.size, 10, none⟩, .int .i64 t.cy), (⟨w0.heap.size, 11, none⟩, .int .i64 t.cz)] w0 w
  ra : Row (w0.heap.size + 1) 4 0 (fun i => if i = 0 then .int .i64 (fU * 16 - cU * 16) else if i = 1 then .int .i64 (fW * 16 - cW * 16) else if i = 2 then .int .i64 (0) else .int .i64 (fH * 16)) w
  rb : Row (w0.heap.size + 2) 4 0 (fun i => if i = 0 then .int .i64 (tU * 16 - cU * 16) else if i = 1 then .int .i64 (tW * 16 - cW * 16) else if i = 2 then .int .i64 (0) else .int .i64 (tH * 16)) w
  rl : Row (w0.heap.size + 3) 8 L (lG (fU * 16 - cU * 16) (fW * 16 - cW * 16) 0 (fH * 16) (tU * 16 - cU * 16) (tW * 16 - cW * 16) 0 (tH * 16)) w
theorem EndI.next {t : Itm} {fU fW fH tU tW tH cU cW : Int} {w0 : World} {L : Nat} {w w' : World} (h : EndI t fU fW fH tU tW tH cU cW w0 L w) (hb : Below w.heap.size w w') : EndI t fU fW fH tU tW tH cU cW w0 L w' :=
  ⟨h.bx.next hb, h.ra.next hb, h.rb.next hb, h.rl.next hb⟩
structure EndR9 (t : Itm) (fU fW fH tU tW tH cU cW : Int) (w0 : World) (A : Act) (L : Nat → Bool) (a : Act) (w : World) : Prop where
  off : OffOf [52, 53, 54, 55] A a
  k0 : L 0 = true → a.tmps[52]? = some (.pointer (some ⟨w0.heap.size + 3, 0, none⟩))
  k1 : L 1 = true → a.tmps[53]? = some (.agg #[.int .i64 (fU * 16 - cU * 16), .int .i64 (fW * 16 - cW * 16), .int .i64 (0), .int .i64 (fH * 16)])
  k2 : L 2 = true → a.tmps[54]? = some (.pointer (some ⟨w0.heap.size + 3, 4, none⟩))
  k3 : L 3 = true → a.tmps[55]? = some (.agg #[.int .i64 (tU * 16 - cU * 16), .int .i64 (tW * 16 - cW * 16), .int .i64 (0), .int .i64 (tH * 16)])
  bx : Lf w0.heap.size (w0.heap.size + 4) [(⟨w0.heap.size + 3, 0, none⟩, .int .i64 (fU * 16 - cU * 16)), (⟨w0.heap.size + 3, 1, none⟩, .int .i64 (fW * 16 - cW * 16)), (⟨w0.heap.size + 3, 2, none⟩, .int .i64 (0)), (⟨w0.heap.size + 3, 3, none⟩, .int .i64 (fH * 16)), (⟨w0.heap.size + 3, 4, none⟩, .int .i64 (tU * 16 - cU * 16)), (⟨w0.heap.size + 3, 5, none⟩, .int .i64 (tW * 16 - cW * 16)), (⟨w0.heap.size + 3, 6, none⟩, .int .i64 (0)), (⟨w0.heap.size + 3, 7, none⟩, .int .i64 (tH * 16))] w0 w
  r0 : Row (w0.heap.size + 1) 4 0 (fun i => if i = 0 then .int .i64 (fU * 16 - cU * 16) else if i = 1 then .int .i64 (fW * 16 - cW * 16) else if i = 2 then .int .i64 (0) else .int .i64 (fH * 16)) w
  s0 : L 4 = true → Row (w0.heap.size + 1) 4 4 (fun i => if i = 0 then .int .i64 (fU * 16 - cU * 16) else if i = 1 then .int .i64 (fW * 16 - cW * 16) else if i = 2 then .int .i64 (0) else .int .i64 (fH * 16)) w
  r1 : Row (w0.heap.size + 2) 4 0 (fun i => if i = 0 then .int .i64 (tU * 16 - cU * 16) else if i = 1 then .int .i64 (tW * 16 - cW * 16) else if i = 2 then .int .i64 (0) else .int .i64 (tH * 16)) w
  s1 : L 5 = true → Row (w0.heap.size + 2) 4 4 (fun i => if i = 0 then .int .i64 (tU * 16 - cU * 16) else if i = 1 then .int .i64 (tW * 16 - cW * 16) else if i = 2 then .int .i64 (0) else .int .i64 (tH * 16)) w
structure EndV (t : Itm) (fU fW fH tU tW tH cU cW : Int) (w0 : World) (L g : Nat) (x y z : Int) (w : World) : Prop where
  l : EndI t fU fW fH tU tW tH cU cW w0 L w
  r : Lf w0.heap.size (g + 1) [(⟨g, 0, none⟩, .int .i64 x), (⟨g, 1, none⟩, .int .i64 y), (⟨g, 2, none⟩, .int .i64 z), (⟨w0.heap.size, 8, none⟩, .int .i64 t.plane)] w0 w
set_option maxHeartbeats 16000000 in
set_option maxRecDepth 40000 in
theorem endsP_any (t : Itm) (w : World) (ht : t.Pos) :
    Calls Try.prog 31 #[.agg #[.int .i64 t.kind, .int .i64 t.block, .int .i64 t.fx, .int .i64 t.fy, .int .i64 t.fz, .int .i64 t.tx, .int .i64 t.ty, .int .i64 t.tz, .int .i64 t.plane, .int .i64 t.cx, .int .i64 t.cy, .int .i64 t.cz, .int .i64 t.dir, .bool t.full, .int .i64 t.feed, .bool t.perrev, .int .i64 t.side, .int .i64 t.radius, .int .i64 t.blend, .int .i64 t.n, .int .i64 t.speed, .bool t.on]] w fun e w' => e = .returned (.tuple #[.agg #[.int .i64 (t.aU * 16), .int .i64 (t.aW * 16), .int .i64 0, .int .i64 (t.aH * 16)], .agg #[.int .i64 (t.bU * 16), .int .i64 (t.bW * 16), .int .i64 0, .int .i64 (t.bH * 16)]]) ∧ Below w.heap.size w w' := by
  obtain ⟨⟨⟨fx1, fx2⟩, ⟨fy1, fy2⟩, fz1, fz2⟩, ⟨⟨tx1, tx2⟩, ⟨ty1, ty2⟩, tz1, tz2⟩, ⟨⟨cx1, cx2⟩, ⟨cy1, cy2⟩, cz1, cz2⟩, hk⟩ := ht
  have SCf := fun w => Lib.hid (scaledP_any t.fx t.fy t.fz w ⟨by omega, by omega⟩ ⟨by omega, by omega⟩ ⟨by omega, by omega⟩)
  have SCt := fun w => Lib.hid (scaledP_any t.tx t.ty t.tz w ⟨by omega, by omega⟩ ⟨by omega, by omega⟩ ⟨by omega, by omega⟩)
  have SCc := fun w => Lib.hid (scaledP_any t.cx t.cy t.cz w ⟨by omega, by omega⟩ ⟨by omega, by omega⟩ ⟨by omega, by omega⟩)
  have PLf := fun w => Lib.hid (planeP_any t.plane (t.fx * 16) (t.fy * 16) (t.fz * 16) w hk)
  have PLt := fun w => Lib.hid (planeP_any t.plane (t.tx * 16) (t.ty * 16) (t.tz * 16) w hk)
  have PLc := fun w => Lib.hid (planeP_any t.plane (t.cx * 16) (t.cy * 16) (t.cz * 16) w hk)
  rw [plU_sc, plW_sc, plH_sc] at PLf PLt PLc
  have EQ : t.aU * 16 = plU t.plane t.fx t.fy t.fz * 16 - plU t.plane t.cx t.cy t.cz * 16 ∧ t.aW * 16 = plW t.plane t.fx t.fy t.fz * 16 - plW t.plane t.cx t.cy t.cz * 16 ∧ t.bU * 16 = plU t.plane t.tx t.ty t.tz * 16 - plU t.plane t.cx t.cy t.cz * 16 ∧ t.bW * 16 = plW t.plane t.tx t.ty t.tz * 16 - plW t.plane t.cx t.cy t.cz * 16 := by
    unfold Itm.aU Itm.aW Itm.bU Itm.bW; omega
  rw [EQ.1, EQ.2.1, EQ.2.2.1, EQ.2.2.2]
  clear EQ
  unfold Itm.aH Itm.bH
  obtain ⟨b1, b2⟩ := plU_bd (k := t.plane) ⟨fx1, fx2⟩ ⟨fy1, fy2⟩ ⟨fz1, fz2⟩
  obtain ⟨b3, b4⟩ := plW_bd (k := t.plane) ⟨fx1, fx2⟩ ⟨fy1, fy2⟩ ⟨fz1, fz2⟩
  obtain ⟨b5, b6⟩ := plU_bd (k := t.plane) ⟨tx1, tx2⟩ ⟨ty1, ty2⟩ ⟨tz1, tz2⟩
  obtain ⟨b7, b8⟩ := plW_bd (k := t.plane) ⟨tx1, tx2⟩ ⟨ty1, ty2⟩ ⟨tz1, tz2⟩
  obtain ⟨b9, b10⟩ := plU_bd (k := t.plane) ⟨cx1, cx2⟩ ⟨cy1, cy2⟩ ⟨cz1, cz2⟩
  obtain ⟨b11, b12⟩ := plW_bd (k := t.plane) ⟨cx1, cx2⟩ ⟨cy1, cy2⟩ ⟨cz1, cz2⟩
  obtain ⟨b13, b14⟩ := plH_bd (k := t.plane) ⟨fx1, fx2⟩ ⟨fy1, fy2⟩ ⟨fz1, fz2⟩
  obtain ⟨b15, b16⟩ := plH_bd (k := t.plane) ⟨tx1, tx2⟩ ⟨ty1, ty2⟩ ⟨tz1, tz2⟩
  clear fx1 fx2 fy1 fy2 fz1 fz2 tx1 tx2 ty1 ty2 tz1 tz2 cx1 cx2 cy1 cy2 cz1 cz2 hk
  generalize plU t.plane t.fx t.fy t.fz = fU at *
  generalize plW t.plane t.fx t.fy t.fz = fW at *
  generalize plH t.plane t.fx t.fy t.fz = fH at *
  generalize plU t.plane t.tx t.ty t.tz = tU at *
  generalize plW t.plane t.tx t.ty t.tz = tW at *
  generalize plH t.plane t.tx t.ty t.tz = tH at *
  generalize plU t.plane t.cx t.cy t.cz = cU at *
  generalize plW t.plane t.cx t.cy t.cz = cW at *
  generalize plH t.plane t.cx t.cy t.cz = cH at *
  have hT : EndI t fU fW fH tU tW tH cU cW w 0 ((((w.alloc (.cells #[.int .i64 t.kind, .int .i64 t.block, .int .i64 t.fx, .int .i64 t.fy, .int .i64 t.fz, .int .i64 t.tx, .int .i64 t.ty, .int .i64 t.tz, .int .i64 t.plane, .int .i64 t.cx, .int .i64 t.cy, .int .i64 t.cz, .int .i64 t.dir, .bool t.full, .int .i64 t.feed, .bool t.perrev, .int .i64 t.side, .int .i64 t.radius, .int .i64 t.blend, .int .i64 t.n, .int .i64 t.speed, .bool t.on] 27)).alloc (.cells #[.int .i64 0, .int .i64 0, .int .i64 0, .int .i64 0] 34)).alloc (.cells #[.int .i64 0, .int .i64 0, .int .i64 0, .int .i64 0] 34)).alloc (.cells #[.int .i64 0, .int .i64 0, .int .i64 0, .int .i64 0, .int .i64 0, .int .i64 0, .int .i64 0, .int .i64 0] 79)) := by
    refine ⟨?_, ?_, ?_, ?_⟩
    · exact ⟨by simp [List.forall_mem_cons, go_sem], by simp [List.forall_mem_cons, go_sem], by simp [List.forall_mem_cons] <;> omega, by simp, by (repeat (first | exact Below.refl _ _ | refine Below.alloc ?_ (by simp <;> omega) _)), by omega⟩
    · exact ((Row.freshg4 _ _ _ _ _ _ _ _ (by simp)).next ((Below.refl _ _).alloc (Nat.le_refl _) _)).next ((Below.refl _ _).alloc (Nat.le_refl _) _)
    · exact (Row.freshg4 _ _ _ _ _ _ _ _ (by simp)).next ((Below.refl _ _).alloc (Nat.le_refl _) _)
    · exact Row.freshg8 _ _ _ _ _ _ _ _ _ _ _ _ (by simp)
  go_enter Try.func31, Try.ntmps31
  go_upto_region 2 with fail
  (refine wp_region_class (EndI t fU fW fH tU tW tH cU cW w 0) (hT.next (Below.refl _ _).drew) (by kernel_rfl) (by kernel_rfl) ?_; repeat (refine wpQuiet_step (fun qK9 qH9 => ?_); go_simp; first | (refine qH9 _ ?_; clear qH9 qK9) | (apply Exists.intro; refine ⟨?_, qH9 _ ?_⟩; (first | (intros; rfl) | (first | (intro wx hC; ((have qk9 := ((hC.bx)).cells; simp only [List.forall_mem_cons, List.not_mem_nil, false_implies, implies_true, and_true] at qk9; repeat (obtain ⟨qk8, qk9⟩ := qk9)); go_simp; first | done | rfl)) | (intro wx hC; with_reducible exact Calls.lays (SCc wx).out (fun _ => hC.next)) | (intro wx hC; with_reducible exact Calls.lays (PLc wx).out (fun _ => hC.next)))); clear qH9 qK9)))
  refine wpQuiet_nil ?_
  clear hT
  intro wr hT
  (have qk9 := ((hT.bx)).cells; simp only [List.forall_mem_cons, List.not_mem_nil, false_implies, implies_true, and_true] at qk9; repeat (obtain ⟨qk8, qk9⟩ := qk9))
  go_wp2_with fail
  go_loopw [28] (fun q wr => (q = .int .i64 0 ∧ EndI t fU fW fH tU tW tH cU cW w 0 wr) ∨ ((q = .int .i64 1 ∧ EndI t fU fW fH tU tW tH cU cW w 4 wr) ∨ (q = .int .i64 2 ∧ EndI t fU fW fH tU tW tH cU cW w 8 wr))) (fun q _ => (3 - intOf q).toNat)
  case atStart => exact Or.inl ⟨rfl, hT⟩
  case round =>
  clear hT
  rcases hrel with ⟨rfl, hT⟩ | ⟨rfl, hT⟩ | ⟨rfl, hT⟩
  · have I0 : ∀ w, (Instr.index 80 (.agg #[.int .i64 t.fx, .int .i64 t.fy, .int .i64 t.fz, .int .i64 t.tx, .int .i64 t.ty, .int .i64 t.tz]) (.int .i64 0)).run Try.prog w = .ok (.agg #[.int .i64 t.fx, .int .i64 t.fy, .int .i64 t.fz]) w := fun _ => by kernel_rfl
    go_upto_region 6 with fail
    have hV : Lf w.heap.size (wr.heap.size + 1) [(⟨wr.heap.size, 0, none⟩, .int .i64 t.fx), (⟨wr.heap.size, 1, none⟩, .int .i64 t.fy), (⟨wr.heap.size, 2, none⟩, .int .i64 t.fz), (⟨w.heap.size, 8, none⟩, .int .i64 t.plane)] w _ := (hT.bx.push #[.int .i64 t.fx, .int .i64 t.fy, .int .i64 t.fz] 25).sub (by simp [blk])
    have hT := hT.next ((Below.refl _ _).alloc (Nat.le_refl _) (.cells #[.int .i64 t.fx, .int .i64 t.fy, .int .i64 t.fz] 25))
    (refine wp_region_class (EndV t fU fW fH tU tW tH cU cW w 0 wr.heap.size t.fx t.fy t.fz) ⟨hT.next (Below.refl _ _).drew, hV.next (Below.refl _ _).drew⟩ (by kernel_rfl) (by kernel_rfl) ?_; repeat (refine wpQuiet_step (fun qK9 qH9 => ?_); go_simp; first | (refine qH9 _ ?_; clear qH9 qK9) | (apply Exists.intro; refine ⟨?_, qH9 _ ?_⟩; (first | (intros; rfl) | (first | (intro wx hC; ((have qk9 := ((hC.r)).cells; simp only [List.forall_mem_cons, List.not_mem_nil, false_implies, implies_true, and_true] at qk9; repeat (obtain ⟨qk8, qk9⟩ := qk9)); go_simp; first | done | rfl)) | (intro wx hC; with_reducible exact Calls.lays (SCf wx).out (fun _ hb => ⟨hC.l.next hb, hC.r.next hb⟩)) | (intro wx hC; with_reducible exact Calls.lays (PLf wx).out (fun _ hb => ⟨hC.l.next hb, hC.r.next hb⟩)))); clear qH9 qK9)))
    refine wpQuiet_nil ?_
    clear hT hV
    intro wy hT
    have hT := hT.l
    have yf0 := hT.rl.frz 0 (by decide)
    obtain ⟨u0, yc0⟩ := hT.rl.ex 0 (by decide)
    have yf1 := hT.rl.frz 1 (by decide)
    obtain ⟨u1, yc1⟩ := hT.rl.ex 1 (by decide)
    have yf2 := hT.rl.frz 2 (by decide)
    obtain ⟨u2, yc2⟩ := hT.rl.ex 2 (by decide)
    have yf3 := hT.rl.frz 3 (by decide)
    obtain ⟨u3, yc3⟩ := hT.rl.ex 3 (by decide)
    go_wp2_with fail
    go_roundw
    case rel => exact Or.inr (Or.inl ⟨rfl, ⟨((((hT.bx.wr _ 0 _ (by omega) (by simp [List.forall_mem_cons] <;> omega)).wr _ 1 _ (by omega) (by simp [List.forall_mem_cons] <;> omega)).wr _ 2 _ (by omega) (by simp [List.forall_mem_cons] <;> omega)).wr _ 3 _ (by omega) (by simp [List.forall_mem_cons] <;> omega)), ((((hT.ra.other (by omega) 0 _).other (by omega) 1 _).other (by omega) 2 _).other (by omega) 3 _), ((((hT.rb.other (by omega) 0 _).other (by omega) 1 _).other (by omega) 2 _).other (by omega) 3 _), ((((hT.rl.step _ (by decide) rfl).step _ (by decide) rfl).step _ (by decide) rfl).step _ (by decide) rfl)⟩⟩)
    case measure => simp [intOf]
  · have I0 : ∀ w, (Instr.index 80 (.agg #[.int .i64 t.fx, .int .i64 t.fy, .int .i64 t.fz, .int .i64 t.tx, .int .i64 t.ty, .int .i64 t.tz]) (.int .i64 1)).run Try.prog w = .ok (.agg #[.int .i64 t.tx, .int .i64 t.ty, .int .i64 t.tz]) w := fun _ => by kernel_rfl
    go_upto_region 6 with fail
    have hV : Lf w.heap.size (wr.heap.size + 1) [(⟨wr.heap.size, 0, none⟩, .int .i64 t.tx), (⟨wr.heap.size, 1, none⟩, .int .i64 t.ty), (⟨wr.heap.size, 2, none⟩, .int .i64 t.tz), (⟨w.heap.size, 8, none⟩, .int .i64 t.plane)] w _ := (hT.bx.push #[.int .i64 t.tx, .int .i64 t.ty, .int .i64 t.tz] 25).sub (by simp [blk])
    have hT := hT.next ((Below.refl _ _).alloc (Nat.le_refl _) (.cells #[.int .i64 t.tx, .int .i64 t.ty, .int .i64 t.tz] 25))
    (refine wp_region_class (EndV t fU fW fH tU tW tH cU cW w 4 wr.heap.size t.tx t.ty t.tz) ⟨hT.next (Below.refl _ _).drew, hV.next (Below.refl _ _).drew⟩ (by kernel_rfl) (by kernel_rfl) ?_; repeat (refine wpQuiet_step (fun qK9 qH9 => ?_); go_simp; first | (refine qH9 _ ?_; clear qH9 qK9) | (apply Exists.intro; refine ⟨?_, qH9 _ ?_⟩; (first | (intros; rfl) | (first | (intro wx hC; ((have qk9 := ((hC.r)).cells; simp only [List.forall_mem_cons, List.not_mem_nil, false_implies, implies_true, and_true] at qk9; repeat (obtain ⟨qk8, qk9⟩ := qk9)); go_simp; first | done | rfl)) | (intro wx hC; with_reducible exact Calls.lays (SCt wx).out (fun _ hb => ⟨hC.l.next hb, hC.r.next hb⟩)) | (intro wx hC; with_reducible exact Calls.lays (PLt wx).out (fun _ hb => ⟨hC.l.next hb, hC.r.next hb⟩)))); clear qH9 qK9)))
    refine wpQuiet_nil ?_
    clear hT hV
    intro wy hT
    have hT := hT.l
    have yf0 := hT.rl.frz 4 (by decide)
    obtain ⟨u0, yc0⟩ := hT.rl.ex 4 (by decide)
    have yf1 := hT.rl.frz 5 (by decide)
    obtain ⟨u1, yc1⟩ := hT.rl.ex 5 (by decide)
    have yf2 := hT.rl.frz 6 (by decide)
    obtain ⟨u2, yc2⟩ := hT.rl.ex 6 (by decide)
    have yf3 := hT.rl.frz 7 (by decide)
    obtain ⟨u3, yc3⟩ := hT.rl.ex 7 (by decide)
    go_wp2_with fail
    go_roundw
    case rel => exact Or.inr (Or.inr ⟨rfl, ⟨((((hT.bx.wr _ 4 _ (by omega) (by simp [List.forall_mem_cons] <;> omega)).wr _ 5 _ (by omega) (by simp [List.forall_mem_cons] <;> omega)).wr _ 6 _ (by omega) (by simp [List.forall_mem_cons] <;> omega)).wr _ 7 _ (by omega) (by simp [List.forall_mem_cons] <;> omega)), ((((hT.ra.other (by omega) 4 _).other (by omega) 5 _).other (by omega) 6 _).other (by omega) 7 _), ((((hT.rb.other (by omega) 4 _).other (by omega) 5 _).other (by omega) 6 _).other (by omega) 7 _), ((((hT.rl.step _ (by decide) rfl).step _ (by decide) rfl).step _ (by decide) rfl).step _ (by decide) rfl)⟩⟩)
    case measure => simp [intOf]
  · go_upto_region 9 with fail
    have hL : Lf w.heap.size (w.heap.size + 4) [(⟨w.heap.size + 3, 0, none⟩, .int .i64 (fU * 16 - cU * 16)), (⟨w.heap.size + 3, 1, none⟩, .int .i64 (fW * 16 - cW * 16)), (⟨w.heap.size + 3, 2, none⟩, .int .i64 (0)), (⟨w.heap.size + 3, 3, none⟩, .int .i64 (fH * 16)), (⟨w.heap.size + 3, 4, none⟩, .int .i64 (tU * 16 - cU * 16)), (⟨w.heap.size + 3, 5, none⟩, .int .i64 (tW * 16 - cW * 16)), (⟨w.heap.size + 3, 6, none⟩, .int .i64 (0)), (⟨w.heap.size + 3, 7, none⟩, .int .i64 (tH * 16))] w wr := by
      refine ⟨?_, ?_, ?_, hT.bx.lt, hT.bx.be, hT.bx.le⟩
      · simp only [List.forall_mem_cons, List.not_mem_nil, false_implies, implies_true, and_true]
        exact ⟨hT.rl.cell 0 (by decide), hT.rl.cell 1 (by decide), hT.rl.cell 2 (by decide), hT.rl.cell 3 (by decide), hT.rl.cell 4 (by decide), hT.rl.cell 5 (by decide), hT.rl.cell 6 (by decide), hT.rl.cell 7 (by decide)⟩
      · simp only [List.forall_mem_cons, List.not_mem_nil, false_implies, implies_true, and_true]
        exact ⟨hT.rl.frz 0 (by decide), hT.rl.frz 1 (by decide), hT.rl.frz 2 (by decide), hT.rl.frz 3 (by decide), hT.rl.frz 4 (by decide), hT.rl.frz 5 (by decide), hT.rl.frz 6 (by decide), hT.rl.frz 7 (by decide)⟩
      · simp only [List.forall_mem_cons, List.not_mem_nil, false_implies, implies_true, and_true]
        omega
    have hra := hT.ra
    have hrb := hT.rb
    clear hT
    generalize hA : (Act.mk _ _) = A
    have hsz : A.tmps.size = 56 := by rw [← hA]; rfl
    have hA2 : A.tmps[2]? = some (.pointer (some ⟨w.heap.size + 1, 0, none⟩)) := by rw [← hA]; rfl
    have hA3 : A.tmps[3]? = some (.pointer (some ⟨w.heap.size + 2, 0, none⟩)) := by rw [← hA]; rfl
    have hA4 : A.tmps[4]? = some (.pointer (some ⟨w.heap.size + 3, 0, none⟩)) := by rw [← hA]; rfl
    have HA := Lib.hid hA
    clear hA
    refine wp_region_inv (fun L a wx => EndR9 t fU fW fH tU tW tH cU cW w A L a wx) (by kernel_rfl) (by kernel_rfl) ?_ ?_ ?_
    · have hD := (Below.refl wr.heap.size wr).drew
      exact (by constructor <;> first | exact OffOf.refl _ _ | exact hL.next hD | exact hra.next hD | exact hrb.next hD | (intro h; exact nomatch h))
    · intro i o ho L a wx h' hLi hdeps K hK'
      match i, ho, hLi, hK' with
      | 0, ho, hLi, hK' =>
        cases ho
        have e0 := (h'.off.off 4 (by decide)).trans hA4
        go_simp
        exact hK' _ _ { off := h'.off.put (by decide) _, k0 := fun _ => put_at _ (by have := h'.off.size; omega), k1 := fun q => put_ne _ (by decide) (h'.k1 (by simpa using q)), k2 := fun q => put_ne _ (by decide) (h'.k2 (by simpa using q)), k3 := fun q => put_ne _ (by decide) (h'.k3 (by simpa using q)), bx := h'.bx, r0 := h'.r0, s0 := fun q => h'.s0 (by simpa using q), r1 := h'.r1, s1 := fun q => h'.s1 (by simpa using q) }
      | 1, ho, hLi, hK' =>
        cases ho
        have e0 := h'.k0 (hdeps ⟨0, .data⟩ (by simp) (by rfl))
        have kc := h'.bx.cells
        simp only [List.forall_mem_cons, List.not_mem_nil, false_implies, implies_true, and_true] at kc
        obtain ⟨yc0, yc1, yc2, yc3, yc4, yc5, yc6, yc7⟩ := kc
        go_simp
        exact hK' _ _ { off := h'.off.put (by decide) _, k0 := fun q => put_ne _ (by decide) (h'.k0 (by simpa using q)), k1 := fun _ => put_at _ (by have := h'.off.size; omega), k2 := fun q => put_ne _ (by decide) (h'.k2 (by simpa using q)), k3 := fun q => put_ne _ (by decide) (h'.k3 (by simpa using q)), bx := h'.bx, r0 := h'.r0, s0 := fun q => h'.s0 (by simpa using q), r1 := h'.r1, s1 := fun q => h'.s1 (by simpa using q) }
      | 2, ho, hLi, hK' =>
        cases ho
        have e0 := (h'.off.off 4 (by decide)).trans hA4
        go_simp
        exact hK' _ _ { off := h'.off.put (by decide) _, k0 := fun q => put_ne _ (by decide) (h'.k0 (by simpa using q)), k1 := fun q => put_ne _ (by decide) (h'.k1 (by simpa using q)), k2 := fun _ => put_at _ (by have := h'.off.size; omega), k3 := fun q => put_ne _ (by decide) (h'.k3 (by simpa using q)), bx := h'.bx, r0 := h'.r0, s0 := fun q => h'.s0 (by simpa using q), r1 := h'.r1, s1 := fun q => h'.s1 (by simpa using q) }
      | 3, ho, hLi, hK' =>
        cases ho
        have e0 := h'.k2 (hdeps ⟨2, .data⟩ (by simp) (by rfl))
        have kc := h'.bx.cells
        simp only [List.forall_mem_cons, List.not_mem_nil, false_implies, implies_true, and_true] at kc
        obtain ⟨yc0, yc1, yc2, yc3, yc4, yc5, yc6, yc7⟩ := kc
        go_simp
        exact hK' _ _ { off := h'.off.put (by decide) _, k0 := fun q => put_ne _ (by decide) (h'.k0 (by simpa using q)), k1 := fun q => put_ne _ (by decide) (h'.k1 (by simpa using q)), k2 := fun q => put_ne _ (by decide) (h'.k2 (by simpa using q)), k3 := fun _ => put_at _ (by have := h'.off.size; omega), bx := h'.bx, r0 := h'.r0, s0 := fun q => h'.s0 (by simpa using q), r1 := h'.r1, s1 := fun q => h'.s1 (by simpa using q) }
      | 4, ho, hLi, hK' =>
        cases ho
        have e0 := h'.k1 (hdeps ⟨1, .data⟩ (by simp) (by rfl))
        have e1 := (h'.off.off 2 (by decide)).trans hA2
        have hB0 : w.heap.size ≤ w.heap.size + 1 := by omega
        have hN0 : ∀ p ∈ ([(⟨w.heap.size + 3, 0, none⟩, .int .i64 (fU * 16 - cU * 16)), (⟨w.heap.size + 3, 1, none⟩, .int .i64 (fW * 16 - cW * 16)), (⟨w.heap.size + 3, 2, none⟩, .int .i64 (0)), (⟨w.heap.size + 3, 3, none⟩, .int .i64 (fH * 16)), (⟨w.heap.size + 3, 4, none⟩, .int .i64 (tU * 16 - cU * 16)), (⟨w.heap.size + 3, 5, none⟩, .int .i64 (tW * 16 - cW * 16)), (⟨w.heap.size + 3, 6, none⟩, .int .i64 (0)), (⟨w.heap.size + 3, 7, none⟩, .int .i64 (tH * 16))] : List (Addr × Value)), p.1.block ≠ w.heap.size + 1 := by simp [List.forall_mem_cons] <;> omega
        have hne10 : w.heap.size + 2 ≠ w.heap.size + 1 := by omega
        obtain ⟨u0, hu0⟩ := h'.r0.ex 0 (by decide)
        have hf0 := h'.r0.frz 0 (by decide)
        obtain ⟨u1, hu1⟩ := h'.r0.ex 1 (by decide)
        have hf1 := h'.r0.frz 1 (by decide)
        obtain ⟨u2, hu2⟩ := h'.r0.ex 2 (by decide)
        have hf2 := h'.r0.frz 2 (by decide)
        obtain ⟨u3, hu3⟩ := h'.r0.ex 3 (by decide)
        have hf3 := h'.r0.frz 3 (by decide)
        go_simp
        exact hK' _ _ { off := h'.off, k0 := fun q => h'.k0 (by simpa using q), k1 := fun q => h'.k1 (by simpa using q), k2 := fun q => h'.k2 (by simpa using q), k3 := fun q => h'.k3 (by simpa using q), bx := ((((h'.bx.wr (w.heap.size + 1) 0 _ hB0 hN0).wr (w.heap.size + 1) 1 _ hB0 hN0).wr (w.heap.size + 1) 2 _ hB0 hN0).wr (w.heap.size + 1) 3 _ hB0 hN0), r0 := ((((h'.r0.put 0 _ (by decide) (by decide)).put 1 _ (by decide) (by decide)).put 2 _ (by decide) (by decide)).put 3 _ (by decide) (by decide)), s0 := fun _ => ((((h'.r0.step _ (by decide) rfl).step _ (by decide) rfl).step _ (by decide) rfl).step _ (by decide) rfl), r1 := ((((h'.r1.other hne10 0 _).other hne10 1 _).other hne10 2 _).other hne10 3 _), s1 := fun q => ((((((((h'.s1 (by simpa using q)).other hne10 0 _)).other hne10 1 _)).other hne10 2 _)).other hne10 3 _) }
      | 5, ho, hLi, hK' =>
        cases ho
        have e0 := h'.k3 (hdeps ⟨3, .data⟩ (by simp) (by rfl))
        have e1 := (h'.off.off 3 (by decide)).trans hA3
        have hB1 : w.heap.size ≤ w.heap.size + 2 := by omega
        have hN1 : ∀ p ∈ ([(⟨w.heap.size + 3, 0, none⟩, .int .i64 (fU * 16 - cU * 16)), (⟨w.heap.size + 3, 1, none⟩, .int .i64 (fW * 16 - cW * 16)), (⟨w.heap.size + 3, 2, none⟩, .int .i64 (0)), (⟨w.heap.size + 3, 3, none⟩, .int .i64 (fH * 16)), (⟨w.heap.size + 3, 4, none⟩, .int .i64 (tU * 16 - cU * 16)), (⟨w.heap.size + 3, 5, none⟩, .int .i64 (tW * 16 - cW * 16)), (⟨w.heap.size + 3, 6, none⟩, .int .i64 (0)), (⟨w.heap.size + 3, 7, none⟩, .int .i64 (tH * 16))] : List (Addr × Value)), p.1.block ≠ w.heap.size + 2 := by simp [List.forall_mem_cons] <;> omega
        have hne01 : w.heap.size + 1 ≠ w.heap.size + 2 := by omega
        obtain ⟨u0, hu0⟩ := h'.r1.ex 0 (by decide)
        have hf0 := h'.r1.frz 0 (by decide)
        obtain ⟨u1, hu1⟩ := h'.r1.ex 1 (by decide)
        have hf1 := h'.r1.frz 1 (by decide)
        obtain ⟨u2, hu2⟩ := h'.r1.ex 2 (by decide)
        have hf2 := h'.r1.frz 2 (by decide)
        obtain ⟨u3, hu3⟩ := h'.r1.ex 3 (by decide)
        have hf3 := h'.r1.frz 3 (by decide)
        go_simp
        exact hK' _ _ { off := h'.off, k0 := fun q => h'.k0 (by simpa using q), k1 := fun q => h'.k1 (by simpa using q), k2 := fun q => h'.k2 (by simpa using q), k3 := fun q => h'.k3 (by simpa using q), bx := ((((h'.bx.wr (w.heap.size + 2) 0 _ hB1 hN1).wr (w.heap.size + 2) 1 _ hB1 hN1).wr (w.heap.size + 2) 2 _ hB1 hN1).wr (w.heap.size + 2) 3 _ hB1 hN1), r0 := ((((h'.r0.other hne01 0 _).other hne01 1 _).other hne01 2 _).other hne01 3 _), s0 := fun q => ((((((((h'.s0 (by simpa using q)).other hne01 0 _)).other hne01 1 _)).other hne01 2 _)).other hne01 3 _), r1 := ((((h'.r1.put 0 _ (by decide) (by decide)).put 1 _ (by decide) (by decide)).put 2 _ (by decide) (by decide)).put 3 _ (by decide) (by decide)), s1 := fun _ => ((((h'.r1.step _ (by decide) rfl).step _ (by decide) rfl).step _ (by decide) rfl).step _ (by decide) rfl) }
      | i + 6, ho, hLi, hK' => cases ho
    · intro L a wx h' hall
      have hfr := h'.off.rebuild (fun d => if d = 52 then .pointer (some ⟨w.heap.size + 3, 0, none⟩) else if d = 53 then .agg #[.int .i64 (fU * 16 - cU * 16), .int .i64 (fW * 16 - cW * 16), .int .i64 (0), .int .i64 (fH * 16)] else if d = 54 then .pointer (some ⟨w.heap.size + 3, 4, none⟩) else if d = 55 then .agg #[.int .i64 (tU * 16 - cU * 16), .int .i64 (tW * 16 - cW * 16), .int .i64 (0), .int .i64 (tH * 16)] else undef) (by
        intro d hd
        simp only [List.mem_cons, List.not_mem_nil, or_false] at hd
        rcases hd with rfl | rfl | rfl | rfl
        · exact h'.k0 (hall 0 (by decide))
        · exact h'.k1 (hall 1 (by decide))
        · exact h'.k2 (hall 2 (by decide))
        · exact h'.k3 (hall 3 (by decide))
        )
      simp only [List.foldl_cons, List.foldl_nil] at hfr
      rw [← HA.out] at hfr
      have hT := h'.bx
      have hR0 := h'.s0 (hall 4 (by decide))
      have hR1 := h'.s1 (hall 5 (by decide))
      rw [hfr]
      clear hfr h' hall HA hsz hA2 hA3 hA4
      simp [Act.put]
      go_wp2_with fail
      refine bodyPost_ret (v := .tuple #[.agg #[.int .i64 (fU * 16 - cU * 16), .int .i64 (fW * 16 - cW * 16), .int .i64 (0), .int .i64 (fH * 16)], .agg #[.int .i64 (tU * 16 - cU * 16), .int .i64 (tW * 16 - cW * 16), .int .i64 (0), .int .i64 (tH * 16)]]) ?_ rfl ⟨rfl, hT.be⟩
      have ya0 := hR0.cell 0 (by decide)
      have yb0 := hR1.cell 0 (by decide)
      have ya1 := hR0.cell 1 (by decide)
      have yb1 := hR1.cell 1 (by decide)
      have ya2 := hR0.cell 2 (by decide)
      have yb2 := hR1.cell 2 (by decide)
      have ya3 := hR0.cell 3 (by decide)
      have yb3 := hR1.cell 3 (by decide)
      simp only [if_pos, if_neg] at ya0
      simp [results, Try.results31, go_sem, *]
end Go.Proofs.Ytkjjoclbjkpdaaa
