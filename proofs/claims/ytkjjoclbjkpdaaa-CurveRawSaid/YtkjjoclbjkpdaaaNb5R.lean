/- Proved here: Spokes of the program for a valid arc whose ends lie in bounds: the spokes of its pieces; ranges as stated. -/
import Derived.Test.YtkjjoclbjkpdaaaNb4R
import Derived.Test.YtkjjoclbjkpdaaaNa5R
namespace Go.Proofs.Ytkjjoclbjkpdaaa
open Go.RowKit
set_option linter.unusedVariables false
set_option linter.unusedSimpArgs false
theorem wpList_load_g {P : Program} {ops : Array Oper} {rest : List Oper} {op : Oper} {a : Act} {w : World} {Q : Exit → Act → World → Prop} (hw : Region.wanted op (yielded ops a.tmps) = true) (ty : TypeId) (x : Operand) (ho : op.op = .load ty x)
    (b o : Nat) (hx : a.eval x = .pointer (some ⟨b, o, none⟩)) (cs : List Value) (d : TypeDesc) (hc : w.rangeAt b o cs)
    (hu : P.underlying ty = some d) (hd : d.isRow = true) (hi : (P.info? ty).map (·.size) = some cs.length)
    (h : wpList P ops Q rest (a.put op.dst (.agg cs.toArray)) w) : wpList P ops Q (op :: rest) a w :=
  wpList_step fun K hK => by rw [if_pos hw]; exact wp_load_mid ty x ho b o hx cs d hc hu hd hi (hK _ _ h)
/-- what Spokes leaves: the spokes of an arc -/
def SpokesPost (l : List Spk) (w : World) (e : Ending) (w' : World) : Prop :=
  ∃ v, e = .returned (.tuple #[v, .bool true]) ∧ w'.ownsRow w.heap.size 34 4 v l.length (l.flatMap spc) ∧ Below w.heap.size w w'
def Itm.spokes (t : Itm) : List Spk := t.A :: pcs t.dir 16 t.full t.A t.B
/-- an arc for which all is specified -/
structure Itm.Arc (t : Itm) (lo hi hl hh : Int) : Prop where
  pos : t.Pos
  kind : t.kind = 3
  dir : t.dir = 1 ∨ t.dir = -1
  bnd : Bnd lo hi hl hh
  ga : Gd lo hi hl hh t.A
  gb : Gd lo hi hl hh t.B
set_option maxHeartbeats 8000000 in
set_option maxRecDepth 40000 in
theorem spokesP_any (t : Itm) (lo hi hl hh : Int) (w : World) (ha : t.Arc lo hi hl hh) (VP : ∀ w, Hid (Calls Try.prog 20 #[.agg #[.int .i64 t.kind, .int .i64 t.block, .int .i64 t.fx, .int .i64 t.fy, .int .i64 t.fz, .int .i64 t.tx, .int .i64 t.ty, .int .i64 t.tz, .int .i64 t.plane, .int .i64 t.cx, .int .i64 t.cy, .int .i64 t.cz, .int .i64 t.dir, .bool t.full, .int .i64 t.feed, .bool t.perrev, .int .i64 t.side, .int .i64 t.radius, .int .i64 t.blend, .int .i64 t.n, .int .i64 t.speed, .bool t.on]] w fun e w' => e = .returned (.bool true) ∧ Below w.heap.size w w')) :
    Calls Try.prog 13 #[.agg #[.int .i64 t.kind, .int .i64 t.block, .int .i64 t.fx, .int .i64 t.fy, .int .i64 t.fz, .int .i64 t.tx, .int .i64 t.ty, .int .i64 t.tz, .int .i64 t.plane, .int .i64 t.cx, .int .i64 t.cy, .int .i64 t.cz, .int .i64 t.dir, .bool t.full, .int .i64 t.feed, .bool t.perrev, .int .i64 t.side, .int .i64 t.radius, .int .i64 t.blend, .int .i64 t.n, .int .i64 t.speed, .bool t.on]] w (SpokesPost t.spokes w) := by
  obtain ⟨ht, hk, hd, bn, ga, gb⟩ := ha
  have EN := fun w => Lib.hid (endsP_any t w ht)
  obtain ⟨ha1, ha2, ha3, hb1, hb2, hb3⟩ := ht.bd
  have PC := fun (cb B : Nat) (v : Value) (xs : List Value) (w : World) hc => Lib.hid (pieceP_any bn cb t.dir hd B 16 0 rfl t.full t.A.u t.A.w t.A.r t.A.h t.B.u t.B.w t.B.r t.B.h v 1 xs w (by decide) ga gb hc)
  have DA := fun w => Lib.hid (dotP_any (t.aU * 16) (t.aW * 16) 0 (t.aH * 16) (t.aU * 16) (t.aW * 16) 0 (t.aH * 16) w ⟨⟨by omega, by omega⟩, by omega, by omega⟩ ⟨⟨by omega, by omega⟩, by omega, by omega⟩)
  have DB := fun w => Lib.hid (dotP_any (t.bU * 16) (t.bW * 16) 0 (t.bH * 16) (t.bU * 16) (t.bW * 16) 0 (t.bH * 16) w ⟨⟨by omega, by omega⟩, by omega, by omega⟩ ⟨⟨by omega, by omega⟩, by omega, by omega⟩)
  have q1 := sc_bd ha1
  have q2 := sc_bd ha2
  have q3 := sc_bd hb1
  have q4 := sc_bd hb2
  have SA := fun w => Lib.hid (sqrt_any (t.aU * 16 * (t.aU * 16) + t.aW * 16 * (t.aW * 16)) 2 w (by omega))
  have SB := fun w => Lib.hid (sqrt_any (t.bU * 16 * (t.bU * 16) + t.bW * 16 * (t.bW * 16)) 2 w (by omega))
  obtain ⟨oa, hoa⟩ : ∃ o, sqO (t.aU * 16 * (t.aU * 16) + t.aW * 16 * (t.aW * 16)) 2 = o := ⟨_, rfl⟩
  obtain ⟨ob, hob⟩ : ∃ o, sqO (t.bU * 16 * (t.bU * 16) + t.bW * 16 * (t.bW * 16)) 2 = o := ⟨_, rfl⟩
  rw [hoa] at SA
  rw [hob] at SB
  clear hoa hob q1 q2 q3 q4 ga gb bn
  unfold Itm.spokes
  have eA : t.A = ⟨t.aU * 16, t.aW * 16, rad (t.aU * 16 * (t.aU * 16) + t.aW * 16 * (t.aW * 16)), t.aH * 16⟩ := rfl
  have eB : t.B = ⟨t.bU * 16, t.bW * 16, rad (t.bU * 16 * (t.bU * 16) + t.bW * 16 * (t.bW * 16)), t.bH * 16⟩ := rfl
  rw [eA, eB] at PC ⊢
  clear eA eB
  simp only at PC
  unfold rad at PC ⊢
  generalize sqV (t.aU * 16 * (t.aU * 16) + t.aW * 16 * (t.aW * 16)) 2 = rA at *
  generalize sqV (t.bU * 16 * (t.bU * 16) + t.bW * 16 * (t.bW * 16)) 2 = rB at *
  generalize (t.aU * 16 * (t.aU * 16) + t.aW * 16 * (t.aW * 16)) = nA at *
  generalize (t.bU * 16 * (t.bU * 16) + t.bW * 16 * (t.bW * 16)) = nB at *
  generalize t.aU = aU at *
  generalize t.aW = aW at *
  generalize t.aH = aH at *
  generalize t.bU = bU at *
  generalize t.bW = bW at *
  generalize t.bH = bH at *
  clear ha1 ha2 ha3 hb1 hb2 hb3 ht
  have HK := Lib.hid hk
  clear hk
  have hI : ItC t w.heap.size (w.alloc (.cells #[.int .i64 t.kind, .int .i64 t.block, .int .i64 t.fx, .int .i64 t.fy, .int .i64 t.fz, .int .i64 t.tx, .int .i64 t.ty, .int .i64 t.tz, .int .i64 t.plane, .int .i64 t.cx, .int .i64 t.cy, .int .i64 t.cz, .int .i64 t.dir, .bool t.full, .int .i64 t.feed, .bool t.perrev, .int .i64 t.side, .int .i64 t.radius, .int .i64 t.blend, .int .i64 t.n, .int .i64 t.speed, .bool t.on] 27)) := ItC.fresh t w _ rfl
  have hT : Lf w.heap.size (w.heap.size + 1) [(⟨w.heap.size, 12, none⟩, .int .i64 t.dir), (⟨w.heap.size, 13, none⟩, .bool t.full)] w (w.alloc (.cells #[.int .i64 t.kind, .int .i64 t.block, .int .i64 t.fx, .int .i64 t.fy, .int .i64 t.fz, .int .i64 t.tx, .int .i64 t.ty, .int .i64 t.tz, .int .i64 t.plane, .int .i64 t.cx, .int .i64 t.cy, .int .i64 t.cz, .int .i64 t.dir, .bool t.full, .int .i64 t.feed, .bool t.perrev, .int .i64 t.side, .int .i64 t.radius, .int .i64 t.blend, .int .i64 t.n, .int .i64 t.speed, .bool t.on] 27)) := ⟨by simp [List.forall_mem_cons, go_sem], by simp [List.forall_mem_cons, go_sem], by simp [List.forall_mem_cons] <;> omega, by simp, by (repeat (first | exact Below.refl _ _ | refine Below.alloc ?_ (by simp <;> omega) _)), by omega⟩
  go_enter Try.func13, Try.ntmps13
  go_upto_region 1 with fail
  refine wp_cls (fun wr => ItC t w.heap.size wr ∧ Lf w.heap.size (w.heap.size + 1) [(⟨w.heap.size, 12, none⟩, .int .i64 t.dir), (⟨w.heap.size, 13, none⟩, .bool t.full)] w wr) ⟨hI, hT⟩ ?_
  clear hT hI
  rintro w0 ⟨hI, hT⟩
  have yk : w0.cell? ⟨w.heap.size, 0, none⟩ = some (.int .i64 3) := HK.out ▸ (hI.rg 0 (.int .i64 t.kind) rfl : w0.cell? ⟨w.heap.size, 0, none⟩ = some (.int .i64 t.kind))
  clear HK
  go_wp2_with (refine wpList_load_g (by rfl) 27 (.tmp 1) rfl w.heap.size 0 rfl (itL t) _ hI.rg Try.underlying27 rfl (by kernel_rfl) ?_)
  clear yk
  refine (VP _).out.mono ?_
  rintro e w1 ⟨rfl, hb1⟩
  have hI := hI.next hb1
  have hT := hT.next hb1
  clear hb1 VP
  go_wp2_with (refine wpList_load_g (by rfl) 27 (.tmp 1) rfl w.heap.size 0 rfl (itL t) _ hI.rg Try.underlying27 rfl (by kernel_rfl) ?_)
  clear hI
  refine (EN _).out.mono ?_
  rintro e w2 ⟨rfl, hb1⟩
  have hT := hT.next hb1
  clear hb1 EN
  have hV := (hT.pushg w2.heap.size #[.int .i64 (aU * 16), .int .i64 (aW * 16), .int .i64 0, .int .i64 (aH * 16)] 34 rfl).pushg (w2.heap.size + 1) #[.int .i64 (bU * 16), .int .i64 (bW * 16), .int .i64 0, .int .i64 (bH * 16)] 34 (by simp)
  have hg : w.heap.size + 1 ≤ w2.heap.size := hT.lt
  have hV := hV.sub (ds := [(⟨w.heap.size, 12, none⟩, .int .i64 t.dir), (⟨w.heap.size, 13, none⟩, .bool t.full), (⟨w2.heap.size, 0, none⟩, .int .i64 (aU * 16)), (⟨w2.heap.size, 1, none⟩, .int .i64 (aW * 16)), (⟨w2.heap.size, 2, none⟩, .int .i64 (0)), (⟨w2.heap.size, 3, none⟩, .int .i64 (aH * 16)), (⟨(w2.heap.size + 1), 0, none⟩, .int .i64 (bU * 16)), (⟨(w2.heap.size + 1), 1, none⟩, .int .i64 (bW * 16)), (⟨(w2.heap.size + 1), 2, none⟩, .int .i64 (0)), (⟨(w2.heap.size + 1), 3, none⟩, .int .i64 (bH * 16))]) (by simp [blk])
  clear hT
  go_upto_region 4 with fail
  generalize w2.heap.size = g at *
  refine wp_cls (fun wr => Lf w.heap.size (g + 2) [(⟨w.heap.size, 12, none⟩, .int .i64 t.dir), (⟨w.heap.size, 13, none⟩, .bool t.full), (⟨g, 0, none⟩, .int .i64 (aU * 16)), (⟨g, 1, none⟩, .int .i64 (aW * 16)), (⟨g, 2, none⟩, .int .i64 (0)), (⟨g, 3, none⟩, .int .i64 (aH * 16)), (⟨(g + 1), 0, none⟩, .int .i64 (bU * 16)), (⟨(g + 1), 1, none⟩, .int .i64 (bW * 16)), (⟨(g + 1), 2, none⟩, .int .i64 (0)), (⟨(g + 1), 3, none⟩, .int .i64 (bH * 16))] w wr) hV ?_
  clear hV
  intro w3 hT
  have kc := hT.cells
  have kf := hT.frz
  simp only [List.forall_mem_cons, List.not_mem_nil, false_implies, implies_true, and_true] at kc kf
  obtain ⟨yc0, yc1, yc2, yc3, yc4, yc5, yc6, yc7, yc8, yc9⟩ := kc
  obtain ⟨yf0, yf1, yf2, yf3, yf4, yf5, yf6, yf7, yf8, yf9⟩ := kf
  go_wp2_with fail
  refine (DA _).out.mono ?_
  rintro e w4 ⟨rfl, hb1⟩
  have hT := hT.next hb1
  clear hb1 DA
  clear yc0 yf0 yc1 yf1 yc2 yf2 yc3 yf3 yc4 yf4 yc5 yf5 yc6 yf6 yc7 yf7 yc8 yf8 yc9 yf9
  have kc := hT.cells
  have kf := hT.frz
  simp only [List.forall_mem_cons, List.not_mem_nil, false_implies, implies_true, and_true] at kc kf
  obtain ⟨yc0, yc1, yc2, yc3, yc4, yc5, yc6, yc7, yc8, yc9⟩ := kc
  obtain ⟨yf0, yf1, yf2, yf3, yf4, yf5, yf6, yf7, yf8, yf9⟩ := kf
  go_wp2_with fail
  refine (SA _).out.mono ?_
  rintro e w5 ⟨rfl, hb1⟩
  have hT := hT.next hb1
  clear hb1 SA
  clear yc0 yf0 yc1 yf1 yc2 yf2 yc3 yf3 yc4 yf4 yc5 yf5 yc6 yf6 yc7 yf7 yc8 yf8 yc9 yf9
  have kc := hT.cells
  have kf := hT.frz
  simp only [List.forall_mem_cons, List.not_mem_nil, false_implies, implies_true, and_true] at kc kf
  obtain ⟨yc0, yc1, yc2, yc3, yc4, yc5, yc6, yc7, yc8, yc9⟩ := kc
  obtain ⟨yf0, yf1, yf2, yf3, yf4, yf5, yf6, yf7, yf8, yf9⟩ := kf
  go_upto_region 5 with fail
  have hT := hT.set 4 g 2 (.int .i64 0) (.int .i64 rA) rfl (by simp <;> omega) (by omega)
  refine wp_cls (fun wr => Lf w.heap.size (g + 2) [(⟨w.heap.size, 12, none⟩, .int .i64 t.dir), (⟨w.heap.size, 13, none⟩, .bool t.full), (⟨g, 0, none⟩, .int .i64 (aU * 16)), (⟨g, 1, none⟩, .int .i64 (aW * 16)), (⟨g, 2, none⟩, .int .i64 (rA)), (⟨g, 3, none⟩, .int .i64 (aH * 16)), (⟨(g + 1), 0, none⟩, .int .i64 (bU * 16)), (⟨(g + 1), 1, none⟩, .int .i64 (bW * 16)), (⟨(g + 1), 2, none⟩, .int .i64 (0)), (⟨(g + 1), 3, none⟩, .int .i64 (bH * 16))] w wr) hT ?_
  clear yc0 yf0 yc1 yf1 yc2 yf2 yc3 yf3 yc4 yf4 yc5 yf5 yc6 yf6 yc7 yf7 yc8 yf8 yc9 yf9
  clear hT
  intro w3 hT
  have kc := hT.cells
  have kf := hT.frz
  simp only [List.forall_mem_cons, List.not_mem_nil, false_implies, implies_true, and_true] at kc kf
  obtain ⟨yc0, yc1, yc2, yc3, yc4, yc5, yc6, yc7, yc8, yc9⟩ := kc
  obtain ⟨yf0, yf1, yf2, yf3, yf4, yf5, yf6, yf7, yf8, yf9⟩ := kf
  go_wp2_with fail
  refine (DB _).out.mono ?_
  rintro e w4 ⟨rfl, hb1⟩
  have hT := hT.next hb1
  clear hb1 DB
  clear yc0 yf0 yc1 yf1 yc2 yf2 yc3 yf3 yc4 yf4 yc5 yf5 yc6 yf6 yc7 yf7 yc8 yf8 yc9 yf9
  have kc := hT.cells
  have kf := hT.frz
  simp only [List.forall_mem_cons, List.not_mem_nil, false_implies, implies_true, and_true] at kc kf
  obtain ⟨yc0, yc1, yc2, yc3, yc4, yc5, yc6, yc7, yc8, yc9⟩ := kc
  obtain ⟨yf0, yf1, yf2, yf3, yf4, yf5, yf6, yf7, yf8, yf9⟩ := kf
  go_wp2_with fail
  refine (SB _).out.mono ?_
  rintro e w5 ⟨rfl, hb1⟩
  have hT := hT.next hb1
  clear hb1 SB
  clear yc0 yf0 yc1 yf1 yc2 yf2 yc3 yf3 yc4 yf4 yc5 yf5 yc6 yf6 yc7 yf7 yc8 yf8 yc9 yf9
  have kc := hT.cells
  have kf := hT.frz
  simp only [List.forall_mem_cons, List.not_mem_nil, false_implies, implies_true, and_true] at kc kf
  obtain ⟨yc0, yc1, yc2, yc3, yc4, yc5, yc6, yc7, yc8, yc9⟩ := kc
  obtain ⟨yf0, yf1, yf2, yf3, yf4, yf5, yf6, yf7, yf8, yf9⟩ := kf
  go_upto_region 6 with fail
  have hT := hT.set 8 (g + 1) 2 (.int .i64 0) (.int .i64 rB) rfl (by simp <;> omega) (by omega)
  refine wp_cls (fun wr => Lf w.heap.size (g + 2) [(⟨w.heap.size, 12, none⟩, .int .i64 t.dir), (⟨w.heap.size, 13, none⟩, .bool t.full), (⟨g, 0, none⟩, .int .i64 (aU * 16)), (⟨g, 1, none⟩, .int .i64 (aW * 16)), (⟨g, 2, none⟩, .int .i64 (rA)), (⟨g, 3, none⟩, .int .i64 (aH * 16)), (⟨(g + 1), 0, none⟩, .int .i64 (bU * 16)), (⟨(g + 1), 1, none⟩, .int .i64 (bW * 16)), (⟨(g + 1), 2, none⟩, .int .i64 (rB)), (⟨(g + 1), 3, none⟩, .int .i64 (bH * 16))] w wr) hT ?_
  clear yc0 yf0 yc1 yf1 yc2 yf2 yc3 yf3 yc4 yf4 yc5 yf5 yc6 yf6 yc7 yf7 yc8 yf8 yc9 yf9
  clear hT
  intro w3 hT
  have kc := hT.cells
  have kf := hT.frz
  simp only [List.forall_mem_cons, List.not_mem_nil, false_implies, implies_true, and_true] at kc kf
  obtain ⟨yc0, yc1, yc2, yc3, yc4, yc5, yc6, yc7, yc8, yc9⟩ := kc
  obtain ⟨yf0, yf1, yf2, yf3, yf4, yf5, yf6, yf7, yf8, yf9⟩ := kf
  have hg3 : g + 2 ≤ w3.heap.size := hT.lt
  have OL := World.ownsRow_lit (base := w3.heap.size) (e := 34) (size := 4) w3 #[.int .i64 (aU * 16), .int .i64 (aW * 16), .int .i64 rA, .int .i64 (aH * 16)] 1 (Nat.le_refl _) (by decide) rfl
  have hC : Cu (w3.heap.size + 1) t.dir w3.heap.size (.slice (some ⟨w3.heap.size, 0, none⟩) 1 1) 1 [.int .i64 (aU * 16), .int .i64 (aW * 16), .int .i64 rA, .int .i64 (aH * 16)] ((w3.alloc (.cells #[.int .i64 (aU * 16), .int .i64 (aW * 16), .int .i64 rA, .int .i64 (aH * 16)] 34)).alloc (.cells #[.int .i64 t.dir, .slice (some ⟨w3.heap.size, 0, none⟩) 1 1] 62)) :=
    ⟨OL.alloc _, by simp [go_sem], by simp [go_sem], by simp [go_sem], by simp [go_sem], by simp [Value.ownBlock], by omega, by simp⟩
  have hT := (hT.next ((Below.refl _ _).alloc (Nat.le_refl _) (.cells #[.int .i64 (aU * 16), .int .i64 (aW * 16), .int .i64 rA, .int .i64 (aH * 16)] 34))).next ((Below.refl _ _).alloc (Nat.le_refl _) (.cells #[.int .i64 t.dir, .slice (some ⟨w3.heap.size, 0, none⟩) 1 1] 62))
  clear OL
  go_upto_region 7 with fail
  generalize w3.heap.size = s3 at *
  refine wp_cls (fun wr => Lf w.heap.size (g + 2) [(⟨w.heap.size, 12, none⟩, .int .i64 t.dir), (⟨w.heap.size, 13, none⟩, .bool t.full), (⟨g, 0, none⟩, .int .i64 (aU * 16)), (⟨g, 1, none⟩, .int .i64 (aW * 16)), (⟨g, 2, none⟩, .int .i64 (rA)), (⟨g, 3, none⟩, .int .i64 (aH * 16)), (⟨(g + 1), 0, none⟩, .int .i64 (bU * 16)), (⟨(g + 1), 1, none⟩, .int .i64 (bW * 16)), (⟨(g + 1), 2, none⟩, .int .i64 (rB)), (⟨(g + 1), 3, none⟩, .int .i64 (bH * 16))] w wr ∧ Cu (s3 + 1) t.dir s3 (.slice (some ⟨s3, 0, none⟩) 1 1) 1 [.int .i64 (aU * 16), .int .i64 (aW * 16), .int .i64 rA, .int .i64 (aH * 16)] wr) ⟨hT, hC⟩ ?_
  clear yc0 yf0 yc1 yf1 yc2 yf2 yc3 yf3 yc4 yf4 yc5 yf5 yc6 yf6 yc7 yf7 yc8 yf8 yc9 yf9
  clear hT hC
  rintro w6 ⟨hT, hC⟩
  have kc := hT.cells
  have kf := hT.frz
  simp only [List.forall_mem_cons, List.not_mem_nil, false_implies, implies_true, and_true] at kc kf
  obtain ⟨yc0, yc1, yc2, yc3, yc4, yc5, yc6, yc7, yc8, yc9⟩ := kc
  obtain ⟨yf0, yf1, yf2, yf3, yf4, yf5, yf6, yf7, yf8, yf9⟩ := kf
  go_wp2_with fail
  refine (PC _ _ _ _ _ hC).out.mono ?_
  rintro e w7 ⟨rfl, v', hC', hG, hv⟩
  have hlt := hC.lt
  have hB : Below w.heap.size w w7 := hT.be.trans ⟨hG.os, hG.tape, hG.output, hG.size, fun k hk => hG.block k (by omega) (by omega) (by simp [Value.ownBlock]; omega)⟩
  have yo := hC'.oc
  have OW := hC'.own
  clear yc0 yf0 yc1 yf1 yc2 yf2 yc3 yf3 yc4 yf4 yc5 yf5 yc6 yf6 yc7 yf7 yc8 yf8 yc9 yf9
  clear hT hC hG hC' PC
  go_wp2_with fail
  go_ret2
  refine ⟨v', rfl, ?_, hB⟩
  rw [List.length_cons, List.flatMap_cons, Nat.add_comm]
  exact row_le OW (by omega)
end Go.Proofs.Ytkjjoclbjkpdaaa
