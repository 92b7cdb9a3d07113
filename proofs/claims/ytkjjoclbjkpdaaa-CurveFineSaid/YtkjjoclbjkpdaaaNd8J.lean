/- Proved here: Arc of cncmill: an arc as cncmill makes it; ranges as stated. -/
import Derived.Test.YtkjjoclbjkpdaaaNd7J
namespace Go.Proofs.Ytkjjoclbjkpdaaa
open Go.RowKit
set_option linter.unusedVariables false
set_option linter.unusedSimpArgs false
/-- what Arc of cncmill gives -/
def ArcPost (m : Int) (w : World) (e : Ending) (w' : World) : Prop :=
  ∃ (t : Itm) (r s k q : Int), e = .returned (.agg #[.int .i64 t.kind, .int .i64 t.block, .int .i64 t.fx, .int .i64 t.fy, .int .i64 t.fz, .int .i64 t.tx, .int .i64 t.ty, .int .i64 t.tz, .int .i64 t.plane, .int .i64 t.cx, .int .i64 t.cy, .int .i64 t.cz, .int .i64 t.dir, .bool t.full, .int .i64 t.feed, .bool t.perrev, .int .i64 t.side, .int .i64 t.radius, .int .i64 t.blend, .int .i64 t.n, .int .i64 t.speed, .bool t.on]) ∧ t.Made m r s k q ∧ Below w.heap.size w w'
set_option maxHeartbeats 4000000 in
set_option maxRecDepth 40000 in
theorem Arc_any (b0 : Nat) (v : Value) (n : Int) (w : World) (n1 : 1 ≤ n) (n2 : n ≤ 20000) (hb : b0 ≤ w.heap.size) (hv : Ns b0 v w) : Calls Try.prog 11 #[v, .int .i64 n] w (ArcPost (n + 7) w) := by
  have FR := fun (w : World) (hb : b0 ≤ w.heap.size) (hv : Ns b0 v w) => Lib.hid (from_any b0 v w hv hb)
  go_enter Try.func11, Try.ntmps11
  go_upto_region 1 with fail
  have hD := (Below.refl w.heap.size w).alloc (Nat.le_refl _) (.cells zeroI 27)
  refine wp_cls (fun wr => Th w.heap.size wr ∧ Below w.heap.size w wr ∧ w.heap.size < wr.heap.size) ⟨Th.fresh w 27, hD, by simp⟩ ?_
  clear hD
  rintro wr ⟨hRt, hB, hsz⟩
  go_wp2_with fail
  refine (FR _ (by omega) (hv.keep (fun k hk => hB.block k (by omega)))).out.mono ?_
  rintro e w1 ⟨sb, rfl, hS, hb1, hsb⟩
  have hRt := hRt.draw (sb := sb) (Chg.of hb1) (by omega)
  have hB := hB.trans (hb1.mono (by omega))
  have hAc : Ac b0 sb w1 w1 := ⟨hS, Chg.refl _ _ _⟩
  have hz1 := Nat.lt_of_lt_of_le hsz hb1.size
  clear hb1 FR hS
  have NX := fun (n : Int) (w : World) (h1 : 1 ≤ n) (h2 : n ≤ 1000000) (hS : Src b0 sb w) => Lib.hid (next_any b0 sb n w h1 h2 hS)
  go_wp2_with fail
  refine (NX 200 _ (by decide) (by decide) hAc.src).out.mono ?_
  rintro e w2 ⟨r, rfl, r0, r1, hs, hc⟩
  have hAc := hAc.draw hs hc
  have hRt := hRt.draw hc (by omega)
  clear hs hc
  go_wp2_with fail
  refine (NX 200 _ (by decide) (by decide) hAc.src).out.mono ?_
  rintro e w3 ⟨s, rfl, s0, s1, hs, hc⟩
  have hAc := hAc.draw hs hc
  have hRt := hRt.draw hc (by omega)
  clear hs hc
  go_wp2_with fail
  refine (NX 200 _ (by decide) (by decide) hAc.src).out.mono ?_
  rintro e w4 ⟨u, rfl, u0, u1, hs, hc⟩
  have hAc := hAc.draw hs hc
  have hRt := hRt.draw hc (by omega)
  clear hs hc

  have AR := Lib.hid (arc_any b0 sb (r - 100) (s - 100) (u - 100) n w4 hAc.src (by omega) (by omega) (by omega) n1 n2)
  clear NX
  go_wp2_with fail
  have mx : max n 1 = n := by omega
  rewrite [mx]
  --CUT1
  refine AR.out.mono ?_
  rintro e w5 ⟨t, r', s', k, q, rfl, hM, -, -, hs, hc⟩
  have hAc := hAc.draw hs hc
  have hRt := hRt.draw hc (by omega)
  clear hs hc AR
  go_wp2_with (refine wpList_store_mid rfl 27 (.tmp 4) (.tmp 21) rfl w.heap.size 0 (itL t).toArray rfl rfl hRt.th (by kernel_rfl) (one_itL _) ?_)
  refine bodyPost_ret (results_cell rfl _ _ w.heap.size (itL t) _ rfl (World.rangeAt_setCells_same _ _ _ _ hRt.th) Try.underlying27 rfl (by kernel_rfl)) rfl ?_
  refine ⟨t, r', s', k, q, rfl, hM, ?_⟩
  refine below_sets (Nat.le_refl _) _ _ _ (hB.trans ?_)
  have hc := hAc.ch
  exact ⟨hc.os, hc.tape, hc.output, hc.size, fun k hk => hc.block k (by omega) (by omega) (fun e => nomatch e)⟩
end Go.Proofs.Ytkjjoclbjkpdaaa
