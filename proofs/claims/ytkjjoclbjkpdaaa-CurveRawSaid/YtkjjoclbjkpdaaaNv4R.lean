/- Proved here: CurveRaw: which items can be drawn, and by which spokes and chords. -/
import Derived.Test.YtkjjoclbjkpdaaaNv3R
import Derived.Test.YtkjjoclbjkpdaaaKa5R
namespace Go.Proofs.Ytkjjoclbjkpdaaa
open Go.RowKit
set_option linter.unusedVariables false
set_option linter.unusedSimpArgs false
theorem quiet_item {P : Program} {ops : Array Oper} {rest : List Oper} {o : Oper} {a : Act} {C : World → Prop} {Q : Act → Prop} (hw : Region.wanted o (yielded ops a.tmps) = true) (ty : TypeId) (x : Operand) (ho : o.op = .load ty x) (b off : Nat) (hx : a.eval x = .pointer (some ⟨b, off, none⟩)) (cs : List Value) (d : TypeDesc)
    (hc : ∀ w, C w → w.rangeAt b off cs) (hu : P.underlying ty = some d) (hd : d.isRow = true) (hi : (P.info? ty).map (·.size) = some cs.length) (h : wpQuiet P ops C Q rest (a.put o.dst (.agg cs.toArray))) : wpQuiet P ops C Q (o :: rest) a := by
  refine wpQuiet_step fun K hK => ?_
  rw [if_pos hw]
  refine ⟨.agg cs.toArray, fun w hC => ?_, hK _ h⟩
  unfold Oper.quietAt execOp
  simp only [ho, hx, Instr.loadAt, Instr.sureAddr, Sem.run_bind, Sem.run_pure, Result.andThen_ok, run_loadVar_mid w b off ty cs d (hc w hC) hu hd hi]
  exact ⟨rfl, rfl⟩
theorem rad_gd (u w : Int) (hu : -2097152 ≤ u ∧ u ≤ 2097152) (hw : -2097152 ≤ w ∧ w ≤ 2097152) (h : 64 ≤ u * u + w * w) :
    128 ≤ rad (u * 16 * (u * 16) + w * 16 * (w * 16)) ∧ rad (u * 16 * (u * 16) + w * 16 * (w * 16)) ≤ 47453133 ∧
    (rad (u * 16 * (u * 16) + w * 16 * (w * 16)) - 1) * (rad (u * 16 * (u * 16) + w * 16 * (w * 16)) - 1) ≤ u * 16 * (u * 16) + w * 16 * (w * 16) ∧ u * 16 * (u * 16) + w * 16 * (w * 16) ≤ (rad (u * 16 * (u * 16) + w * 16 * (w * 16)) + 1) * (rad (u * 16 * (u * 16) + w * 16 * (w * 16)) + 1) := by
  have q1 := sc_bd hu
  have q2 := sc_bd hw
  have e : u * 16 * (u * 16) + w * 16 * (w * 16) = 256 * (u * u + w * w) := by grind
  obtain ⟨n, hn⟩ := Int.eq_ofNat_of_zero_le (show 0 ≤ u * 16 * (u * 16) + w * 16 * (w * 16) by omega)
  have hb : n ≤ 2251799813685248 := by omega
  have hl : 16384 ≤ n := by omega
  rw [hn]
  have HV := rad_near n (by omega)
  obtain ⟨s1, s2⟩ := rtN_spec n (by omega)
  rw [HV]
  clear HV
  generalize rtN n = T at *
  have t0 : 128 ≤ T := by
    refine Nat.le_of_not_lt fun hc => ?_
    have := Nat.mul_le_mul (show T + 1 ≤ 128 by omega) (show T + 1 ≤ 128 by omega)
    omega
  have t1 : T ≤ 47453132 := by
    refine Nat.le_of_not_lt fun hc => ?_
    have := Nat.mul_le_mul (show 47453133 ≤ T by omega) (show 47453133 ≤ T by omega)
    omega
  have e1 : (T + 1) * (T + 1) = T * T + 2 * T + 1 := by grind
  have e2 : T * (T + 1) = T * T + T := by grind
  have c1 : ((T * T : Nat) : Int) = (T : Int) * T := Int.natCast_mul T T
  split
  · have g1 : ((T : Int) + 1 - 1) * ((T : Int) + 1 - 1) = (T : Int) * T := by grind
    have g2 : ((T : Int) + 1 + 1) * ((T : Int) + 1 + 1) = (T : Int) * T + 4 * T + 4 := by grind
    omega
  · have g1 : ((T : Int) - 1) * ((T : Int) - 1) = (T : Int) * T - 2 * T + 1 := by grind
    have g2 : ((T : Int) + 1) * ((T : Int) + 1) = (T : Int) * T + 2 * T + 1 := by grind
    omega
theorem Itm.Ok.arc {t : Itm} (h : t.Ok) : t.Arc 128 47453133 (-47453134) 47453134 := by
  obtain ⟨a1, a2, a3, b1, b2, b3⟩ := h.pos.bd
  have ga := rad_gd t.aU t.aW a1 a2 h.x64
  have gb := rad_gd t.bU t.bW b1 b2 h.y64
  exact ⟨h.pos, h.kind, h.dir, ⟨by decide, by decide, by decide, by decide⟩, ⟨ga.1, ga.2.1, by show -47453134 ≤ t.aH * 16; omega, by show t.aH * 16 ≤ 47453134; omega, ga.2.2.1, ga.2.2.2⟩, ⟨gb.1, gb.2.1, by show -47453134 ≤ t.bH * 16; omega, by show t.bH * 16 ≤ 47453134; omega, gb.2.2.1, gb.2.2.2⟩⟩
set_option maxHeartbeats 1000000 in
theorem sameSpokes_nil (w : World) : Calls Try.prog 22 #[.slice none 0 0, .slice none 0 0] w fun e w' => e = .returned (.bool true) ∧ Below w.heap.size w w' := by
  have hT : Below w.heap.size w w := Below.refl _ _
  go_enter Try.func22, Try.ntmps22
  go_wp2_with fail
  go_loopw [13] (fun t wr => t = .int .i64 0 ∧ Below w.heap.size w wr) (fun _ _ => 0)
  case atStart => exact ⟨rfl, hT⟩
  case round =>
  clear hT
  obtain ⟨rfl, hT⟩ := hrel
  go_wp2_with fail
  go_ret
  exact ⟨rfl, hT⟩
set_option maxHeartbeats 1000000 in
theorem samePoints_nil (w : World) : Calls Try.prog 23 #[.slice none 0 0, .slice none 0 0] w fun e w' => e = .returned (.bool true) ∧ Below w.heap.size w w' := by
  have hT : Below w.heap.size w w := Below.refl _ _
  go_enter Try.func23, Try.ntmps23
  go_wp2_with fail
  go_loopw [13] (fun t wr => t = .int .i64 0 ∧ Below w.heap.size w wr) (fun _ _ => 0)
  case atStart => exact ⟨rfl, hT⟩
  case round =>
  clear hT
  obtain ⟨rfl, hT⟩ := hrel
  go_wp2_with fail
  go_ret
  exact ⟨rfl, hT⟩
set_option maxHeartbeats 16000000 in
set_option maxRecDepth 40000 in
theorem raw_arc (t : Itm) (w : World) (hv : t.Val) (h3 : t.kind = 3) : Calls Try.prog 6 #[.agg #[.int .i64 t.kind, .int .i64 t.block, .int .i64 t.fx, .int .i64 t.fy, .int .i64 t.fz, .int .i64 t.tx, .int .i64 t.ty, .int .i64 t.tz, .int .i64 t.plane, .int .i64 t.cx, .int .i64 t.cy, .int .i64 t.cz, .int .i64 t.dir, .bool t.full, .int .i64 t.feed, .bool t.perrev, .int .i64 t.side, .int .i64 t.radius, .int .i64 t.blend, .int .i64 t.n, .int .i64 t.speed, .bool t.on]] w fun e w' => e = .returned (.bool true) ∧ Below w.heap.size w w' := by
  have AW := fun w => Lib.hid (awake_any w)
  have hO := hv.2.2.2 h3
  have hA := hO.arc
  have VP := fun w => Lib.hid (ValidP_true t w hO)
  have VR := fun w => Lib.hid (ValidR_true t w hO)
  have SP := fun w => Lib.hid (spokesP_any t _ _ _ _ w hA VP)
  have SR := fun w => Lib.hid (spokesR_any t _ _ _ _ w hA VR)
  have CP := fun w => Lib.hid (chordsP_any t _ _ _ _ w hA VP)
  have CR := fun w => Lib.hid (chordsR_any t _ _ _ _ w hA VR)
  have hn := t.spokes_len
  have RS : ∀ (w : World) (v : Value) (B : Nat), w.ownsRow B 34 4 v t.spokes.length (t.spokes.flatMap spc) → ∃ g cap, v = .slice (some ⟨g, 0, none⟩) t.spokes.length cap ∧ B ≤ g ∧ Row g (t.spokes.length * 4) (t.spokes.length * 4) (fun j => .int .i64 (spF t.spokes (j / 4) (j % 4))) w := fun w v B h => row_spokes h (by omega)
  clear hA hO hv h3
  unfold SpokesPost at SP SR
  generalize chF t.plane (plU t.plane t.cx t.cy t.cz * 16) (plW t.plane t.cx t.cy t.cz * 16) (spF t.spokes) = FF at *
  generalize spF t.spokes = S at *
  generalize t.spokes.flatMap spc = xs at *
  generalize t.spokes.length = m at *
  have hI : ItC t w.heap.size (w.alloc (.cells #[.int .i64 t.kind, .int .i64 t.block, .int .i64 t.fx, .int .i64 t.fy, .int .i64 t.fz, .int .i64 t.tx, .int .i64 t.ty, .int .i64 t.tz, .int .i64 t.plane, .int .i64 t.cx, .int .i64 t.cy, .int .i64 t.cz, .int .i64 t.dir, .bool t.full, .int .i64 t.feed, .bool t.perrev, .int .i64 t.side, .int .i64 t.radius, .int .i64 t.blend, .int .i64 t.n, .int .i64 t.speed, .bool t.on] 27)) := ItC.fresh t w _ rfl
  have hB : Below w.heap.size w (w.alloc (.cells #[.int .i64 t.kind, .int .i64 t.block, .int .i64 t.fx, .int .i64 t.fy, .int .i64 t.fz, .int .i64 t.tx, .int .i64 t.ty, .int .i64 t.tz, .int .i64 t.plane, .int .i64 t.cx, .int .i64 t.cy, .int .i64 t.cz, .int .i64 t.dir, .bool t.full, .int .i64 t.feed, .bool t.perrev, .int .i64 t.side, .int .i64 t.radius, .int .i64 t.blend, .int .i64 t.n, .int .i64 t.speed, .bool t.on] 27)) := (Below.refl _ _).alloc (Nat.le_refl _) _
  go_enter Try.func6, Try.ntmps6
  go_upto_region 1 with fail
  refine wp_cls (fun wr => ItC t w.heap.size wr ∧ Below w.heap.size w wr) ⟨hI, hB⟩ ?_
  clear hI hB
  rintro w0 ⟨hI, hB⟩
  go_wp2_with fail
  refine (AW _).out.mono ?_
  rintro e w1 ⟨rfl, hb1⟩
  have hI := hI.next hb1
  have hB := hB.trans (hb1.mono hB.size)
  clear hb1 AW
  go_wp2_with (refine wpList_load_g (by rfl) 27 (.tmp 1) rfl w.heap.size 0 rfl (itL t) _ hI.rg Try.underlying27 rfl (by kernel_rfl) ?_)
  refine (SP _).out.mono ?_
  rintro e w5 ⟨v1, rfl, ho1, hb1⟩
  obtain ⟨g1, c1, rfl, -, r1⟩ := RS _ _ _ ho1
  have hI := hI.next hb1
  have hB := hB.trans (hb1.mono hB.size)
  clear hb1 ho1 SP
  go_wp2_with (refine wpList_load_g (by rfl) 27 (.tmp 1) rfl w.heap.size 0 rfl (itL t) _ hI.rg Try.underlying27 rfl (by kernel_rfl) ?_)
  refine (SR _).out.mono ?_
  rintro e w6 ⟨v2, rfl, ho2, hb1⟩
  obtain ⟨g2, c2, rfl, -, r2⟩ := RS _ _ _ ho2
  have hI := hI.next hb1
  have hB := hB.trans (hb1.mono hB.size)
  have r1 := r1.next hb1
  clear hb1 ho2 SR RS
  go_wp2_with (refine wpList_load_g (by rfl) 27 (.tmp 1) rfl w.heap.size 0 rfl (itL t) _ hI.rg Try.underlying27 rfl (by kernel_rfl) ?_)
  refine (CP _).out.mono ?_
  rintro e w7 ⟨g3, c3, rfl, -, r3, hb1⟩
  have hI := hI.next hb1
  have hB := hB.trans (hb1.mono hB.size)
  have r1 := r1.next hb1
  have r2 := r2.next hb1
  clear hb1 CP
  go_wp2_with (refine wpList_load_g (by rfl) 27 (.tmp 1) rfl w.heap.size 0 rfl (itL t) _ hI.rg Try.underlying27 rfl (by kernel_rfl) ?_)
  refine (CR _).out.mono ?_
  rintro e w8 ⟨g4, c4, rfl, -, r4, hb1⟩
  have hI := hI.next hb1
  have hB := hB.trans (hb1.mono hB.size)
  have r1 := r1.next hb1
  have r2 := r2.next hb1
  have r3 := r3.next hb1
  clear hb1 CR
  have SS := fun w h1 h2 => Lib.hid (sameSpokes_any g1 g2 c1 c2 m S w (by omega) h1 h2)
  have SQ := fun w h1 h2 => Lib.hid (samePoints_any g3 g4 c3 c4 m FF w (by omega) h1 h2)
  have hD : (Both (Both (ItC t w.heap.size) (Below w.heap.size w)) (Both (Both (Row g1 (m * 4) (m * 4) (fun j => .int .i64 (S (j / 4) (j % 4)))) (Row g2 (m * 4) (m * 4) (fun j => .int .i64 (S (j / 4) (j % 4))))) (Both (Row g3 (m * 3) (m * 3) (fun j => .int .i64 (FF (j / 3) (j % 3)))) (Row g4 (m * 3) (m * 3) (fun j => .int .i64 (FF (j / 3) (j % 3))))))) w8 := ⟨⟨hI, hB⟩, ⟨⟨r1, r2⟩, ⟨r3, r4⟩⟩⟩
  clear hI hB r1 r2 r3 r4
  go_upto_region 7 with fail
  --CUT1
  refine wp_region_class (Both (Both (ItC t w.heap.size) (Below w.heap.size w)) (Both (Both (Row g1 (m * 4) (m * 4) (fun j => .int .i64 (S (j / 4) (j % 4)))) (Row g2 (m * 4) (m * 4) (fun j => .int .i64 (S (j / 4) (j % 4))))) (Both (Row g3 (m * 3) (m * 3) (fun j => .int .i64 (FF (j / 3) (j % 3)))) (Row g4 (m * 3) (m * 3) (fun j => .int .i64 (FF (j / 3) (j % 3))))))) ⟨⟨hD.l.l.next (Below.refl _ _).drew, hD.l.r.drew⟩, ⟨⟨hD.r.l.l.next (Below.refl _ _).drew, hD.r.l.r.next (Below.refl _ _).drew⟩, ⟨hD.r.r.l.next (Below.refl _ _).drew, hD.r.r.r.next (Below.refl _ _).drew⟩⟩⟩ (by kernel_rfl) (by kernel_rfl) ?_
  refine quiet_item (by rfl) 27 (.tmp 1) rfl w.heap.size 0 rfl [.int .i64 t.kind, .int .i64 t.block, .int .i64 t.fx, .int .i64 t.fy, .int .i64 t.fz, .int .i64 t.tx, .int .i64 t.ty, .int .i64 t.tz, .int .i64 t.plane, .int .i64 t.cx, .int .i64 t.cy, .int .i64 t.cz, .int .i64 t.dir, .bool t.full, .int .i64 t.feed, .bool t.perrev, .int .i64 t.side, .int .i64 t.radius, .int .i64 t.blend, .int .i64 t.n, .int .i64 t.speed, .bool t.on] _ (fun wx hC => hC.l.l.rg) Try.underlying27 rfl (by kernel_rfl) ?_
  refine wpQuiet_step (fun qK9 qH9 => ?_)
  go_simp
  refine ⟨_, fun wx hC => Calls.lays (VP wx).out (fun w' hb => ⟨⟨hC.l.l.next hb, hC.l.r.trans (hb.mono hC.l.r.size)⟩, ⟨⟨hC.r.l.l.next hb, hC.r.l.r.next hb⟩, ⟨hC.r.r.l.next hb, hC.r.r.r.next hb⟩⟩⟩), qH9 _ ?_⟩
  clear qH9 qK9
  refine quiet_item (by rfl) 27 (.tmp 1) rfl w.heap.size 0 rfl [.int .i64 t.kind, .int .i64 t.block, .int .i64 t.fx, .int .i64 t.fy, .int .i64 t.fz, .int .i64 t.tx, .int .i64 t.ty, .int .i64 t.tz, .int .i64 t.plane, .int .i64 t.cx, .int .i64 t.cy, .int .i64 t.cz, .int .i64 t.dir, .bool t.full, .int .i64 t.feed, .bool t.perrev, .int .i64 t.side, .int .i64 t.radius, .int .i64 t.blend, .int .i64 t.n, .int .i64 t.speed, .bool t.on] _ (fun wx hC => hC.l.l.rg) Try.underlying27 rfl (by kernel_rfl) ?_
  --CUT3
  refine wpQuiet_step (fun qK9 qH9 => ?_)
  go_simp
  refine ⟨_, fun wx hC => Calls.lays (VR wx).out (fun w' hb => ⟨⟨hC.l.l.next hb, hC.l.r.trans (hb.mono hC.l.r.size)⟩, ⟨⟨hC.r.l.l.next hb, hC.r.l.r.next hb⟩, ⟨hC.r.r.l.next hb, hC.r.r.r.next hb⟩⟩⟩), qH9 _ ?_⟩
  clear qH9 qK9
  repeat (first | go_big_quiet_skip | (refine wpQuiet_step (fun qK9 qH9 => ?_); go_simp; first | (refine qH9 _ ?_; clear qH9 qK9) | (apply Exists.intro; refine ⟨?_, qH9 _ ?_⟩; (first | (intros; rfl) | (intro wx hC; first | (with_reducible exact Calls.lays (SS wx hC.r.l.l hC.r.l.r).out (fun w' hb => ⟨⟨hC.l.l.next hb, hC.l.r.trans (hb.mono hC.l.r.size)⟩, ⟨⟨hC.r.l.l.next hb, hC.r.l.r.next hb⟩, ⟨hC.r.r.l.next hb, hC.r.r.r.next hb⟩⟩⟩)) | (with_reducible exact Calls.lays (SQ wx hC.r.r.l hC.r.r.r).out (fun w' hb => ⟨⟨hC.l.l.next hb, hC.l.r.trans (hb.mono hC.l.r.size)⟩, ⟨⟨hC.r.l.l.next hb, hC.r.l.r.next hb⟩, ⟨hC.r.r.l.next hb, hC.r.r.r.next hb⟩⟩⟩)))); clear qH9 qK9)))
  refine wpQuiet_nil ?_
  clear hD
  intro wy hD
  --CUT2
  go_wp2_with fail
  go_ret
  exact ⟨by first | rfl | simp, hD.l.r⟩
set_option maxHeartbeats 16000000 in
set_option maxRecDepth 40000 in
theorem raw_line (t : Itm) (w : World) (hv : t.Val) (h3 : ¬ t.kind = 3) : Calls Try.prog 6 #[.agg #[.int .i64 t.kind, .int .i64 t.block, .int .i64 t.fx, .int .i64 t.fy, .int .i64 t.fz, .int .i64 t.tx, .int .i64 t.ty, .int .i64 t.tz, .int .i64 t.plane, .int .i64 t.cx, .int .i64 t.cy, .int .i64 t.cz, .int .i64 t.dir, .bool t.full, .int .i64 t.feed, .bool t.perrev, .int .i64 t.side, .int .i64 t.radius, .int .i64 t.blend, .int .i64 t.n, .int .i64 t.speed, .bool t.on]] w fun e w' => e = .returned (.bool true) ∧ Below w.heap.size w w' := by
  have AW := fun w => Lib.hid (awake_any w)
  have VP := fun w => Lib.hid (ValidP_yes t w hv)
  have VR := fun w => Lib.hid (ValidR_yes t w hv)
  have SP := fun w => Lib.hid (spkP_no t w h3)
  have SR := fun w => Lib.hid (spkR_no t w h3)
  have CP := fun w => Lib.hid (chP_line t w hv h3)
  have CR := fun w => Lib.hid (chR_line t w hv h3)
  clear hv h3
  generalize lnF t = FF at *
  have hI : ItC t w.heap.size (w.alloc (.cells #[.int .i64 t.kind, .int .i64 t.block, .int .i64 t.fx, .int .i64 t.fy, .int .i64 t.fz, .int .i64 t.tx, .int .i64 t.ty, .int .i64 t.tz, .int .i64 t.plane, .int .i64 t.cx, .int .i64 t.cy, .int .i64 t.cz, .int .i64 t.dir, .bool t.full, .int .i64 t.feed, .bool t.perrev, .int .i64 t.side, .int .i64 t.radius, .int .i64 t.blend, .int .i64 t.n, .int .i64 t.speed, .bool t.on] 27)) := ItC.fresh t w _ rfl
  have hB : Below w.heap.size w (w.alloc (.cells #[.int .i64 t.kind, .int .i64 t.block, .int .i64 t.fx, .int .i64 t.fy, .int .i64 t.fz, .int .i64 t.tx, .int .i64 t.ty, .int .i64 t.tz, .int .i64 t.plane, .int .i64 t.cx, .int .i64 t.cy, .int .i64 t.cz, .int .i64 t.dir, .bool t.full, .int .i64 t.feed, .bool t.perrev, .int .i64 t.side, .int .i64 t.radius, .int .i64 t.blend, .int .i64 t.n, .int .i64 t.speed, .bool t.on] 27)) := (Below.refl _ _).alloc (Nat.le_refl _) _
  go_enter Try.func6, Try.ntmps6
  go_upto_region 1 with fail
  refine wp_cls (fun wr => ItC t w.heap.size wr ∧ Below w.heap.size w wr) ⟨hI, hB⟩ ?_
  clear hI hB
  rintro w0 ⟨hI, hB⟩
  go_wp2_with fail
  refine (AW _).out.mono ?_
  rintro e w1 ⟨rfl, hb1⟩
  have hI := hI.next hb1
  have hB := hB.trans (hb1.mono hB.size)
  clear hb1 AW
  go_wp2_with (refine wpList_load_g (by rfl) 27 (.tmp 1) rfl w.heap.size 0 rfl (itL t) _ hI.rg Try.underlying27 rfl (by kernel_rfl) ?_)
  refine (SP _).out.mono ?_
  rintro e w5 ⟨rfl, hb1⟩
  have hI := hI.next hb1
  have hB := hB.trans (hb1.mono hB.size)
  clear hb1 SP
  go_wp2_with (refine wpList_load_g (by rfl) 27 (.tmp 1) rfl w.heap.size 0 rfl (itL t) _ hI.rg Try.underlying27 rfl (by kernel_rfl) ?_)
  refine (SR _).out.mono ?_
  rintro e w6 ⟨rfl, hb1⟩
  have hI := hI.next hb1
  have hB := hB.trans (hb1.mono hB.size)
  clear hb1 SR
  go_wp2_with (refine wpList_load_g (by rfl) 27 (.tmp 1) rfl w.heap.size 0 rfl (itL t) _ hI.rg Try.underlying27 rfl (by kernel_rfl) ?_)
  refine (CP _).out.mono ?_
  rintro e w7 ⟨g3, c3, rfl, -, r3, hb1⟩
  have hI := hI.next hb1
  have hB := hB.trans (hb1.mono hB.size)
  clear hb1 CP
  go_wp2_with (refine wpList_load_g (by rfl) 27 (.tmp 1) rfl w.heap.size 0 rfl (itL t) _ hI.rg Try.underlying27 rfl (by kernel_rfl) ?_)
  refine (CR _).out.mono ?_
  rintro e w8 ⟨g4, c4, rfl, -, r4, hb1⟩
  have hI := hI.next hb1
  have hB := hB.trans (hb1.mono hB.size)
  have r3 := r3.next hb1
  clear hb1 CR
  have SS := fun w => Lib.hid (sameSpokes_nil w)
  have SQ := fun w h1 h2 => Lib.hid (samePoints_any g3 g4 c3 c4 2 FF w (by decide) h1 h2)
  have hD : (Both (Both (ItC t w.heap.size) (Below w.heap.size w)) (Both (Row g3 (2 * 3) (2 * 3) (fun j => .int .i64 (FF (j / 3) (j % 3)))) (Row g4 (2 * 3) (2 * 3) (fun j => .int .i64 (FF (j / 3) (j % 3)))))) w8 := ⟨⟨hI, hB⟩, ⟨r3, r4⟩⟩
  clear hI hB r3 r4
  go_upto_region 7 with fail
  --CUT1
  refine wp_region_class (Both (Both (ItC t w.heap.size) (Below w.heap.size w)) (Both (Row g3 (2 * 3) (2 * 3) (fun j => .int .i64 (FF (j / 3) (j % 3)))) (Row g4 (2 * 3) (2 * 3) (fun j => .int .i64 (FF (j / 3) (j % 3)))))) ⟨⟨hD.l.l.next (Below.refl _ _).drew, hD.l.r.drew⟩, ⟨hD.r.l.next (Below.refl _ _).drew, hD.r.r.next (Below.refl _ _).drew⟩⟩ (by kernel_rfl) (by kernel_rfl) ?_
  refine quiet_item (by rfl) 27 (.tmp 1) rfl w.heap.size 0 rfl [.int .i64 t.kind, .int .i64 t.block, .int .i64 t.fx, .int .i64 t.fy, .int .i64 t.fz, .int .i64 t.tx, .int .i64 t.ty, .int .i64 t.tz, .int .i64 t.plane, .int .i64 t.cx, .int .i64 t.cy, .int .i64 t.cz, .int .i64 t.dir, .bool t.full, .int .i64 t.feed, .bool t.perrev, .int .i64 t.side, .int .i64 t.radius, .int .i64 t.blend, .int .i64 t.n, .int .i64 t.speed, .bool t.on] _ (fun wx hC => hC.l.l.rg) Try.underlying27 rfl (by kernel_rfl) ?_
  refine wpQuiet_step (fun qK9 qH9 => ?_)
  go_simp
  refine ⟨_, fun wx hC => Calls.lays (VP wx).out (fun w' hb => ⟨⟨hC.l.l.next hb, hC.l.r.trans (hb.mono hC.l.r.size)⟩, ⟨hC.r.l.next hb, hC.r.r.next hb⟩⟩), qH9 _ ?_⟩
  clear qH9 qK9
  refine quiet_item (by rfl) 27 (.tmp 1) rfl w.heap.size 0 rfl [.int .i64 t.kind, .int .i64 t.block, .int .i64 t.fx, .int .i64 t.fy, .int .i64 t.fz, .int .i64 t.tx, .int .i64 t.ty, .int .i64 t.tz, .int .i64 t.plane, .int .i64 t.cx, .int .i64 t.cy, .int .i64 t.cz, .int .i64 t.dir, .bool t.full, .int .i64 t.feed, .bool t.perrev, .int .i64 t.side, .int .i64 t.radius, .int .i64 t.blend, .int .i64 t.n, .int .i64 t.speed, .bool t.on] _ (fun wx hC => hC.l.l.rg) Try.underlying27 rfl (by kernel_rfl) ?_
  --CUT3
  refine wpQuiet_step (fun qK9 qH9 => ?_)
  go_simp
  refine ⟨_, fun wx hC => Calls.lays (VR wx).out (fun w' hb => ⟨⟨hC.l.l.next hb, hC.l.r.trans (hb.mono hC.l.r.size)⟩, ⟨hC.r.l.next hb, hC.r.r.next hb⟩⟩), qH9 _ ?_⟩
  clear qH9 qK9
  repeat (first | go_big_quiet_skip | (refine wpQuiet_step (fun qK9 qH9 => ?_); go_simp; first | (refine qH9 _ ?_; clear qH9 qK9) | (apply Exists.intro; refine ⟨?_, qH9 _ ?_⟩; (first | (intros; rfl) | (intro wx hC; first | (with_reducible exact Calls.lays (SS wx).out (fun w' hb => ⟨⟨hC.l.l.next hb, hC.l.r.trans (hb.mono hC.l.r.size)⟩, ⟨hC.r.l.next hb, hC.r.r.next hb⟩⟩)) | (with_reducible exact Calls.lays (SQ wx hC.r.l hC.r.r).out (fun w' hb => ⟨⟨hC.l.l.next hb, hC.l.r.trans (hb.mono hC.l.r.size)⟩, ⟨hC.r.l.next hb, hC.r.r.next hb⟩⟩)))); clear qH9 qK9)))
  refine wpQuiet_nil ?_
  clear hD
  intro wy hD
  --CUT2
  go_wp2_with fail
  go_ret
  exact ⟨by first | rfl | simp, hD.l.r⟩
set_option maxHeartbeats 16000000 in
set_option maxRecDepth 40000 in
theorem raw_bad (t : Itm) (w : World) (hv : ¬ t.Val) : Calls Try.prog 6 #[.agg #[.int .i64 t.kind, .int .i64 t.block, .int .i64 t.fx, .int .i64 t.fy, .int .i64 t.fz, .int .i64 t.tx, .int .i64 t.ty, .int .i64 t.tz, .int .i64 t.plane, .int .i64 t.cx, .int .i64 t.cy, .int .i64 t.cz, .int .i64 t.dir, .bool t.full, .int .i64 t.feed, .bool t.perrev, .int .i64 t.side, .int .i64 t.radius, .int .i64 t.blend, .int .i64 t.n, .int .i64 t.speed, .bool t.on]] w fun e w' => e = .returned (.bool true) ∧ Below w.heap.size w w' := by
  have AW := fun w => Lib.hid (awake_any w)
  have VP := fun w => Lib.hid (ValidP_no t w hv)
  have VR := fun w => Lib.hid (ValidR_no t w hv)
  have SP : ∀ w, Hid (Calls Try.prog 13 #[.agg #[.int .i64 t.kind, .int .i64 t.block, .int .i64 t.fx, .int .i64 t.fy, .int .i64 t.fz, .int .i64 t.tx, .int .i64 t.ty, .int .i64 t.tz, .int .i64 t.plane, .int .i64 t.cx, .int .i64 t.cy, .int .i64 t.cz, .int .i64 t.dir, .bool t.full, .int .i64 t.feed, .bool t.perrev, .int .i64 t.side, .int .i64 t.radius, .int .i64 t.blend, .int .i64 t.n, .int .i64 t.speed, .bool t.on]] w fun e w' => e = .returned (.tuple #[.slice none 0 0, .bool false]) ∧ Below w.heap.size w w') := fun w => Lib.hid (by
    by_cases h3 : t.kind = 3
    · exact spkP_inv t w h3 hv
    · exact spkP_no t w h3)
  have SR : ∀ w, Hid (Calls Try.prog 17 #[.agg #[.int .i64 t.kind, .int .i64 t.block, .int .i64 t.fx, .int .i64 t.fy, .int .i64 t.fz, .int .i64 t.tx, .int .i64 t.ty, .int .i64 t.tz, .int .i64 t.plane, .int .i64 t.cx, .int .i64 t.cy, .int .i64 t.cz, .int .i64 t.dir, .bool t.full, .int .i64 t.feed, .bool t.perrev, .int .i64 t.side, .int .i64 t.radius, .int .i64 t.blend, .int .i64 t.n, .int .i64 t.speed, .bool t.on]] w fun e w' => e = .returned (.tuple #[.slice none 0 0, .bool false]) ∧ Below w.heap.size w w') := fun w => Lib.hid (by
    by_cases h3 : t.kind = 3
    · exact spkR_inv t w h3 hv
    · exact spkR_no t w h3)
  have CP := fun w => Lib.hid (chP_inv t w hv)
  have CR := fun w => Lib.hid (chR_inv t w hv)
  clear hv
  have hI : ItC t w.heap.size (w.alloc (.cells #[.int .i64 t.kind, .int .i64 t.block, .int .i64 t.fx, .int .i64 t.fy, .int .i64 t.fz, .int .i64 t.tx, .int .i64 t.ty, .int .i64 t.tz, .int .i64 t.plane, .int .i64 t.cx, .int .i64 t.cy, .int .i64 t.cz, .int .i64 t.dir, .bool t.full, .int .i64 t.feed, .bool t.perrev, .int .i64 t.side, .int .i64 t.radius, .int .i64 t.blend, .int .i64 t.n, .int .i64 t.speed, .bool t.on] 27)) := ItC.fresh t w _ rfl
  have hB : Below w.heap.size w (w.alloc (.cells #[.int .i64 t.kind, .int .i64 t.block, .int .i64 t.fx, .int .i64 t.fy, .int .i64 t.fz, .int .i64 t.tx, .int .i64 t.ty, .int .i64 t.tz, .int .i64 t.plane, .int .i64 t.cx, .int .i64 t.cy, .int .i64 t.cz, .int .i64 t.dir, .bool t.full, .int .i64 t.feed, .bool t.perrev, .int .i64 t.side, .int .i64 t.radius, .int .i64 t.blend, .int .i64 t.n, .int .i64 t.speed, .bool t.on] 27)) := (Below.refl _ _).alloc (Nat.le_refl _) _
  go_enter Try.func6, Try.ntmps6
  go_upto_region 1 with fail
  refine wp_cls (fun wr => ItC t w.heap.size wr ∧ Below w.heap.size w wr) ⟨hI, hB⟩ ?_
  clear hI hB
  rintro w0 ⟨hI, hB⟩
  go_wp2_with fail
  refine (AW _).out.mono ?_
  rintro e w1 ⟨rfl, hb1⟩
  have hI := hI.next hb1
  have hB := hB.trans (hb1.mono hB.size)
  clear hb1 AW
  go_wp2_with (refine wpList_load_g (by rfl) 27 (.tmp 1) rfl w.heap.size 0 rfl (itL t) _ hI.rg Try.underlying27 rfl (by kernel_rfl) ?_)
  refine (SP _).out.mono ?_
  rintro e w5 ⟨rfl, hb1⟩
  have hI := hI.next hb1
  have hB := hB.trans (hb1.mono hB.size)
  clear hb1 SP
  go_wp2_with (refine wpList_load_g (by rfl) 27 (.tmp 1) rfl w.heap.size 0 rfl (itL t) _ hI.rg Try.underlying27 rfl (by kernel_rfl) ?_)
  refine (SR _).out.mono ?_
  rintro e w6 ⟨rfl, hb1⟩
  have hI := hI.next hb1
  have hB := hB.trans (hb1.mono hB.size)
  clear hb1 SR
  go_wp2_with (refine wpList_load_g (by rfl) 27 (.tmp 1) rfl w.heap.size 0 rfl (itL t) _ hI.rg Try.underlying27 rfl (by kernel_rfl) ?_)
  refine (CP _).out.mono ?_
  rintro e w7 ⟨rfl, hb1⟩
  have hI := hI.next hb1
  have hB := hB.trans (hb1.mono hB.size)
  clear hb1 CP
  go_wp2_with (refine wpList_load_g (by rfl) 27 (.tmp 1) rfl w.heap.size 0 rfl (itL t) _ hI.rg Try.underlying27 rfl (by kernel_rfl) ?_)
  refine (CR _).out.mono ?_
  rintro e w8 ⟨rfl, hb1⟩
  have hI := hI.next hb1
  have hB := hB.trans (hb1.mono hB.size)
  clear hb1 CR
  have SS := fun w => Lib.hid (sameSpokes_nil w)
  have SQ := fun w => Lib.hid (samePoints_nil w)
  have hD : (Both (ItC t w.heap.size) (Below w.heap.size w)) w8 := ⟨hI, hB⟩
  clear hI hB
  go_upto_region 7 with fail
  --CUT1
  refine wp_region_class (Both (ItC t w.heap.size) (Below w.heap.size w)) ⟨hD.l.next (Below.refl _ _).drew, hD.r.drew⟩ (by kernel_rfl) (by kernel_rfl) ?_
  refine quiet_item (by rfl) 27 (.tmp 1) rfl w.heap.size 0 rfl [.int .i64 t.kind, .int .i64 t.block, .int .i64 t.fx, .int .i64 t.fy, .int .i64 t.fz, .int .i64 t.tx, .int .i64 t.ty, .int .i64 t.tz, .int .i64 t.plane, .int .i64 t.cx, .int .i64 t.cy, .int .i64 t.cz, .int .i64 t.dir, .bool t.full, .int .i64 t.feed, .bool t.perrev, .int .i64 t.side, .int .i64 t.radius, .int .i64 t.blend, .int .i64 t.n, .int .i64 t.speed, .bool t.on] _ (fun wx hC => hC.l.rg) Try.underlying27 rfl (by kernel_rfl) ?_
  refine wpQuiet_step (fun qK9 qH9 => ?_)
  go_simp
  refine ⟨_, fun wx hC => Calls.lays (VP wx).out (fun w' hb => ⟨hC.l.next hb, hC.r.trans (hb.mono hC.r.size)⟩), qH9 _ ?_⟩
  clear qH9 qK9
  refine quiet_item (by rfl) 27 (.tmp 1) rfl w.heap.size 0 rfl [.int .i64 t.kind, .int .i64 t.block, .int .i64 t.fx, .int .i64 t.fy, .int .i64 t.fz, .int .i64 t.tx, .int .i64 t.ty, .int .i64 t.tz, .int .i64 t.plane, .int .i64 t.cx, .int .i64 t.cy, .int .i64 t.cz, .int .i64 t.dir, .bool t.full, .int .i64 t.feed, .bool t.perrev, .int .i64 t.side, .int .i64 t.radius, .int .i64 t.blend, .int .i64 t.n, .int .i64 t.speed, .bool t.on] _ (fun wx hC => hC.l.rg) Try.underlying27 rfl (by kernel_rfl) ?_
  --CUT3
  refine wpQuiet_step (fun qK9 qH9 => ?_)
  go_simp
  refine ⟨_, fun wx hC => Calls.lays (VR wx).out (fun w' hb => ⟨hC.l.next hb, hC.r.trans (hb.mono hC.r.size)⟩), qH9 _ ?_⟩
  clear qH9 qK9
  repeat (first | go_big_quiet_skip | (refine wpQuiet_step (fun qK9 qH9 => ?_); go_simp; first | (refine qH9 _ ?_; clear qH9 qK9) | (apply Exists.intro; refine ⟨?_, qH9 _ ?_⟩; (first | (intros; rfl) | (intro wx hC; first | (with_reducible exact Calls.lays (SS wx).out (fun w' hb => ⟨hC.l.next hb, hC.r.trans (hb.mono hC.r.size)⟩)) | (with_reducible exact Calls.lays (SQ wx).out (fun w' hb => ⟨hC.l.next hb, hC.r.trans (hb.mono hC.r.size)⟩)))); clear qH9 qK9)))
  refine wpQuiet_nil ?_
  clear hD
  intro wy hD
  --CUT2
  go_wp2_with fail
  go_ret
  exact ⟨by first | rfl | simp, hD.r⟩
theorem law_raw (t : Itm) (w : World) : Calls Try.prog 6 #[.agg #[.int .i64 t.kind, .int .i64 t.block, .int .i64 t.fx, .int .i64 t.fy, .int .i64 t.fz, .int .i64 t.tx, .int .i64 t.ty, .int .i64 t.tz, .int .i64 t.plane, .int .i64 t.cx, .int .i64 t.cy, .int .i64 t.cz, .int .i64 t.dir, .bool t.full, .int .i64 t.feed, .bool t.perrev, .int .i64 t.side, .int .i64 t.radius, .int .i64 t.blend, .int .i64 t.n, .int .i64 t.speed, .bool t.on]] w fun e w' => e = .returned (.bool true) ∧ Below w.heap.size w w' := by
  by_cases hv : t.Val
  · by_cases h3 : t.kind = 3
    · exact raw_arc t w hv h3
    · exact raw_line t w hv h3
  · exact raw_bad t w hv
end Go.Proofs.Ytkjjoclbjkpdaaa
