/- Proved here: Valid, Spokes and Chords of both for items that are no valid arcs. -/
import Derived.Test.YtkjjoclbjkpdaaaNv2R
import Derived.Test.YtkjjoclbjkpdaaaNv1R
namespace Go.Proofs.Ytkjjoclbjkpdaaa
open Go.RowKit
set_option linter.unusedVariables false
set_option linter.unusedSimpArgs false
set_option maxHeartbeats 4000000 in
set_option maxRecDepth 100000 in
theorem ValidP_false (t : Itm) (w : World) (hk : t.kind = 3) (f1 : In 1048576 t.fx t.fy t.fz) (t1 : In 1048576 t.tx t.ty t.tz) (h : ¬ t.Ok) :
    Calls Try.prog 20 #[.agg #[.int .i64 t.kind, .int .i64 t.block, .int .i64 t.fx, .int .i64 t.fy, .int .i64 t.fz, .int .i64 t.tx, .int .i64 t.ty, .int .i64 t.tz, .int .i64 t.plane, .int .i64 t.cx, .int .i64 t.cy, .int .i64 t.cz, .int .i64 t.dir, .bool t.full, .int .i64 t.feed, .bool t.perrev, .int .i64 t.side, .int .i64 t.radius, .int .i64 t.blend, .int .i64 t.n, .int .i64 t.speed, .bool t.on]] w fun e w' => e = .returned (.bool false) ∧ Below w.heap.size w w' := by
  by_cases pk : PlK t.plane
  · by_cases hd : t.dir = 1 ∨ t.dir = -1
    · cases hc : smB 1048576 t.cx t.cy t.cz with
      | false => exact VPf_cen t w hk f1 t1 pk hd hc
      | true =>
        have ht : t.Pos := ⟨f1, t1, smB_iff.1 hc, pk⟩
        by_cases hx : 64 ≤ t.aU * t.aU + t.aW * t.aW
        · by_cases hy : 64 ≤ t.bU * t.bU + t.bW * t.bW
          · by_cases hn : (max (t.aU * t.aU + t.aW * t.aW) (t.bU * t.bU + t.bW * t.bW) - min (t.aU * t.aU + t.aW * t.aW) (t.bU * t.bU + t.bW * t.bW) - 16) * (max (t.aU * t.aU + t.aW * t.aW) (t.bU * t.bU + t.bW * t.bW) - min (t.aU * t.aU + t.aW * t.aW) (t.bU * t.bU + t.bW * t.bW) - 16) ≤ 64 * min (t.aU * t.aU + t.aW * t.aW) (t.bU * t.bU + t.bW * t.bW)
            · by_cases hf : t.full = true
              · by_cases he : t.aU = t.bU ∧ t.aW = t.bW
                · exact absurd (Itm.Ok.mk ht hk hd hx hy hn (fun _ => he) (fun e => by rw [hf] at e; cases e)) h
                · exact VPf_full t w hk f1 t1 ht hd hx hy hn hf he
              · have hf' : t.full = false := by simpa using hf
                by_cases hcr : t.aU * t.bW - t.aW * t.bU = 0
                · by_cases hdt : t.aU * t.bU + t.aW * t.bW < 0
                  · exact absurd (Itm.Ok.mk ht hk hd hx hy hn (fun e => absurd e hf) (fun _ => Or.inr hdt)) h
                  · exact VPf_part t w hk f1 t1 ht hd hx hy hn hf' hcr hdt
                · exact absurd (Itm.Ok.mk ht hk hd hx hy hn (fun e => absurd e hf) (fun _ => Or.inl hcr)) h
            · exact VPf_near t w hk f1 t1 ht hd hx hy (by omega)
          · exact VPf_y t w hk f1 t1 ht hd hx (by omega)
        · exact VPf_x t w hk f1 t1 ht hd (by omega)
    · exact VPf_dir t w hk f1 t1 pk hd
  · exact VPf_plane t w hk f1 t1 pk
set_option maxHeartbeats 4000000 in
set_option maxRecDepth 100000 in
theorem ValidR_false (t : Itm) (w : World) (hk : t.kind = 3) (f1 : In 1048576 t.fx t.fy t.fz) (t1 : In 1048576 t.tx t.ty t.tz) (h : ¬ t.Ok) :
    Calls Try.prog 21 #[.agg #[.int .i64 t.kind, .int .i64 t.block, .int .i64 t.fx, .int .i64 t.fy, .int .i64 t.fz, .int .i64 t.tx, .int .i64 t.ty, .int .i64 t.tz, .int .i64 t.plane, .int .i64 t.cx, .int .i64 t.cy, .int .i64 t.cz, .int .i64 t.dir, .bool t.full, .int .i64 t.feed, .bool t.perrev, .int .i64 t.side, .int .i64 t.radius, .int .i64 t.blend, .int .i64 t.n, .int .i64 t.speed, .bool t.on]] w fun e w' => e = .returned (.bool false) ∧ Below w.heap.size w w' := by
  by_cases pk : PlK t.plane
  · by_cases hd : t.dir = 1 ∨ t.dir = -1
    · cases hc : smB 1048576 t.cx t.cy t.cz with
      | false => exact VRf_cen t w hk f1 t1 pk hd hc
      | true =>
        have ht : t.Pos := ⟨f1, t1, smB_iff.1 hc, pk⟩
        by_cases hx : 64 ≤ t.aU * t.aU + t.aW * t.aW
        · by_cases hy : 64 ≤ t.bU * t.bU + t.bW * t.bW
          · by_cases hn : (max (t.aU * t.aU + t.aW * t.aW) (t.bU * t.bU + t.bW * t.bW) - min (t.aU * t.aU + t.aW * t.aW) (t.bU * t.bU + t.bW * t.bW) - 16) * (max (t.aU * t.aU + t.aW * t.aW) (t.bU * t.bU + t.bW * t.bW) - min (t.aU * t.aU + t.aW * t.aW) (t.bU * t.bU + t.bW * t.bW) - 16) ≤ 64 * min (t.aU * t.aU + t.aW * t.aW) (t.bU * t.bU + t.bW * t.bW)
            · by_cases hf : t.full = true
              · by_cases he : t.aU = t.bU ∧ t.aW = t.bW
                · exact absurd (Itm.Ok.mk ht hk hd hx hy hn (fun _ => he) (fun e => by rw [hf] at e; cases e)) h
                · exact VRf_full t w hk f1 t1 ht hd hx hy hn hf he
              · have hf' : t.full = false := by simpa using hf
                by_cases hcr : t.aU * t.bW - t.aW * t.bU = 0
                · by_cases hdt : t.aU * t.bU + t.aW * t.bW < 0
                  · exact absurd (Itm.Ok.mk ht hk hd hx hy hn (fun e => absurd e hf) (fun _ => Or.inr hdt)) h
                  · exact VRf_part t w hk f1 t1 ht hd hx hy hn hf' hcr hdt
                · exact absurd (Itm.Ok.mk ht hk hd hx hy hn (fun e => absurd e hf) (fun _ => Or.inl hcr)) h
            · exact VRf_near t w hk f1 t1 ht hd hx hy (by omega)
          · exact VRf_y t w hk f1 t1 ht hd hx (by omega)
        · exact VRf_x t w hk f1 t1 ht hd (by omega)
    · exact VRf_dir t w hk f1 t1 pk hd
  · exact VRf_plane t w hk f1 t1 pk
/-- what an item must be to be valid -/
def Itm.Val (t : Itm) : Prop := (1 ≤ t.kind ∧ t.kind ≤ 6) ∧ In 1048576 t.fx t.fy t.fz ∧ In 1048576 t.tx t.ty t.tz ∧ (t.kind = 3 → t.Ok)
set_option maxHeartbeats 1000000 in
theorem motionR_yes (k : Int) (w : World) (h1 : 1 ≤ k) (h2 : k ≤ 6) : Calls Try.prog 46 #[.int .i64 k] w fun e w' => e = .returned (.bool true) ∧ Below w.heap.size w w' := by
  have d1 : decide (1 ≤ k) = true := decide_eq_true h1
  have d2 : decide (k ≤ 6) = true := decide_eq_true h2
  go_enter Try.func46, Try.ntmps46
  go_wp2_with fail
  go_ret
  exact ⟨by simp [h1, h2], Below.refl _ _⟩
set_option maxHeartbeats 1000000 in
theorem motionR_no (k : Int) (w : World) (h : k < 1 ∨ 6 < k) : Calls Try.prog 46 #[.int .i64 k] w fun e w' => e = .returned (.bool false) ∧ Below w.heap.size w w' := by
  by_cases h1 : 1 ≤ k
  · have h2 : ¬ k ≤ 6 := by omega
    have d1 : decide (1 ≤ k) = true := decide_eq_true h1
    have d2 : decide (k ≤ 6) = false := decide_eq_false h2
    clear h
    go_enter Try.func46, Try.ntmps46
    go_wp2_with fail
    go_ret
    exact ⟨by simp [h1, h2], Below.refl _ _⟩
  · have d1 : decide (1 ≤ k) = false := decide_eq_false h1
    clear h
    go_enter Try.func46, Try.ntmps46
    go_wp2_with fail
    go_ret
    exact ⟨by simp [h1], Below.refl _ _⟩
theorem Row.lit (w : World) (xs : List Int) (T : TypeId) (G : Nat → Value) (hG : ∀ (j : Nat) (x : Int), xs[j]? = some x → G j = .int .i64 x) : Row w.heap.size xs.length xs.length G (w.alloc (.cells (xs.map (Value.int .i64)).toArray T)) := by
  have e : (w.alloc (.cells (xs.map (Value.int .i64)).toArray T)).heap[w.heap.size]? = some (.cells (xs.map (Value.int .i64)).toArray T (0, 0)) := heap_alloc_new w _
  have hc : ∀ j, j < xs.length → (w.alloc (.cells (xs.map (Value.int .i64)).toArray T)).cell? ⟨w.heap.size, j, none⟩ = some (G j) := by
    intro j hj
    rw [cell_of_row _ _ _ _ _ _ e, hG j xs[j] (List.getElem?_eq_getElem hj)]
    simp [hj]
  exact ⟨hc, fun j hj => ⟨_, hc j hj⟩, fun j _ => frozen_of_row _ _ _ _ _ e, by simp⟩
/-- the two points of a straight motion -/
def lnF (t : Itm) (i c : Nat) : Int := cp (if i = 0 then t.fx * 16 else t.tx * 16) (if i = 0 then t.fy * 16 else t.ty * 16) (if i = 0 then t.fz * 16 else t.tz * 16) c
theorem lnF_at (t : Itm) (j : Nat) (x : Int) (h : [t.fx * 16, t.fy * 16, t.fz * 16, t.tx * 16, t.ty * 16, t.tz * 16][j]? = some x) : (fun j => Value.int .i64 (lnF t (j / 3) (j % 3))) j = .int .i64 x := by
  rcases j with _ | _ | _ | _ | _ | _ | j
  all_goals simp at h
  all_goals subst h; rfl
set_option maxHeartbeats 4000000 in
set_option maxRecDepth 40000 in
theorem Val_kP1 (t : Itm) (w : World) (k1 : t.kind < 1) : Calls Try.prog 20 #[.agg #[.int .i64 t.kind, .int .i64 t.block, .int .i64 t.fx, .int .i64 t.fy, .int .i64 t.fz, .int .i64 t.tx, .int .i64 t.ty, .int .i64 t.tz, .int .i64 t.plane, .int .i64 t.cx, .int .i64 t.cy, .int .i64 t.cz, .int .i64 t.dir, .bool t.full, .int .i64 t.feed, .bool t.perrev, .int .i64 t.side, .int .i64 t.radius, .int .i64 t.blend, .int .i64 t.n, .int .i64 t.speed, .bool t.on]] w fun e w' => e = .returned (.bool false) ∧ Below w.heap.size w w' := by
  have d1 : decide (t.kind < 1) = true := decide_eq_true k1
  have hI : ItC t w.heap.size (w.alloc (.cells #[.int .i64 t.kind, .int .i64 t.block, .int .i64 t.fx, .int .i64 t.fy, .int .i64 t.fz, .int .i64 t.tx, .int .i64 t.ty, .int .i64 t.tz, .int .i64 t.plane, .int .i64 t.cx, .int .i64 t.cy, .int .i64 t.cz, .int .i64 t.dir, .bool t.full, .int .i64 t.feed, .bool t.perrev, .int .i64 t.side, .int .i64 t.radius, .int .i64 t.blend, .int .i64 t.n, .int .i64 t.speed, .bool t.on] 27)) := ItC.fresh t w _ rfl
  have hB : Below w.heap.size w (w.alloc (.cells #[.int .i64 t.kind, .int .i64 t.block, .int .i64 t.fx, .int .i64 t.fy, .int .i64 t.fz, .int .i64 t.tx, .int .i64 t.ty, .int .i64 t.tz, .int .i64 t.plane, .int .i64 t.cx, .int .i64 t.cy, .int .i64 t.cz, .int .i64 t.dir, .bool t.full, .int .i64 t.feed, .bool t.perrev, .int .i64 t.side, .int .i64 t.radius, .int .i64 t.blend, .int .i64 t.n, .int .i64 t.speed, .bool t.on] 27)) := (Below.refl _ _).alloc (Nat.le_refl _) _
  go_enter Try.func20, Try.ntmps20
  go_upto_region 1 with fail
  refine wp_cls (fun wr => ItC t w.heap.size wr ∧ Below w.heap.size w wr) ⟨hI, hB⟩ ?_
  clear hI hB
  rintro w0 ⟨hI, hB⟩
  have y0 : w0.cell? ⟨w.heap.size, 0, none⟩ = some (.int .i64 t.kind) := hI.rg 0 (.int .i64 t.kind) rfl
  have y2 : w0.cell? ⟨w.heap.size, 2, none⟩ = some (.int .i64 t.fx) := hI.rg 2 (.int .i64 t.fx) rfl
  have y3 : w0.cell? ⟨w.heap.size, 3, none⟩ = some (.int .i64 t.fy) := hI.rg 3 (.int .i64 t.fy) rfl
  have y4 : w0.cell? ⟨w.heap.size, 4, none⟩ = some (.int .i64 t.fz) := hI.rg 4 (.int .i64 t.fz) rfl
  have y5 : w0.cell? ⟨w.heap.size, 5, none⟩ = some (.int .i64 t.tx) := hI.rg 5 (.int .i64 t.tx) rfl
  have y6 : w0.cell? ⟨w.heap.size, 6, none⟩ = some (.int .i64 t.ty) := hI.rg 6 (.int .i64 t.ty) rfl
  have y7 : w0.cell? ⟨w.heap.size, 7, none⟩ = some (.int .i64 t.tz) := hI.rg 7 (.int .i64 t.tz) rfl
  go_wp2_with fail
  go_ret
  exact ⟨by first | rfl | simp, hB⟩
set_option maxHeartbeats 4000000 in
set_option maxRecDepth 40000 in
theorem Val_kP2 (t : Itm) (w : World) (k1 : 6 < t.kind) : Calls Try.prog 20 #[.agg #[.int .i64 t.kind, .int .i64 t.block, .int .i64 t.fx, .int .i64 t.fy, .int .i64 t.fz, .int .i64 t.tx, .int .i64 t.ty, .int .i64 t.tz, .int .i64 t.plane, .int .i64 t.cx, .int .i64 t.cy, .int .i64 t.cz, .int .i64 t.dir, .bool t.full, .int .i64 t.feed, .bool t.perrev, .int .i64 t.side, .int .i64 t.radius, .int .i64 t.blend, .int .i64 t.n, .int .i64 t.speed, .bool t.on]] w fun e w' => e = .returned (.bool false) ∧ Below w.heap.size w w' := by
  have n1 : ¬ t.kind < 1 := by omega
  have d1 : decide (t.kind < 1) = false := decide_eq_false n1
  have d2 : decide (6 < t.kind) = true := decide_eq_true k1
  have hI : ItC t w.heap.size (w.alloc (.cells #[.int .i64 t.kind, .int .i64 t.block, .int .i64 t.fx, .int .i64 t.fy, .int .i64 t.fz, .int .i64 t.tx, .int .i64 t.ty, .int .i64 t.tz, .int .i64 t.plane, .int .i64 t.cx, .int .i64 t.cy, .int .i64 t.cz, .int .i64 t.dir, .bool t.full, .int .i64 t.feed, .bool t.perrev, .int .i64 t.side, .int .i64 t.radius, .int .i64 t.blend, .int .i64 t.n, .int .i64 t.speed, .bool t.on] 27)) := ItC.fresh t w _ rfl
  have hB : Below w.heap.size w (w.alloc (.cells #[.int .i64 t.kind, .int .i64 t.block, .int .i64 t.fx, .int .i64 t.fy, .int .i64 t.fz, .int .i64 t.tx, .int .i64 t.ty, .int .i64 t.tz, .int .i64 t.plane, .int .i64 t.cx, .int .i64 t.cy, .int .i64 t.cz, .int .i64 t.dir, .bool t.full, .int .i64 t.feed, .bool t.perrev, .int .i64 t.side, .int .i64 t.radius, .int .i64 t.blend, .int .i64 t.n, .int .i64 t.speed, .bool t.on] 27)) := (Below.refl _ _).alloc (Nat.le_refl _) _
  go_enter Try.func20, Try.ntmps20
  go_upto_region 1 with fail
  refine wp_cls (fun wr => ItC t w.heap.size wr ∧ Below w.heap.size w wr) ⟨hI, hB⟩ ?_
  clear hI hB
  rintro w0 ⟨hI, hB⟩
  have y0 : w0.cell? ⟨w.heap.size, 0, none⟩ = some (.int .i64 t.kind) := hI.rg 0 (.int .i64 t.kind) rfl
  have y2 : w0.cell? ⟨w.heap.size, 2, none⟩ = some (.int .i64 t.fx) := hI.rg 2 (.int .i64 t.fx) rfl
  have y3 : w0.cell? ⟨w.heap.size, 3, none⟩ = some (.int .i64 t.fy) := hI.rg 3 (.int .i64 t.fy) rfl
  have y4 : w0.cell? ⟨w.heap.size, 4, none⟩ = some (.int .i64 t.fz) := hI.rg 4 (.int .i64 t.fz) rfl
  have y5 : w0.cell? ⟨w.heap.size, 5, none⟩ = some (.int .i64 t.tx) := hI.rg 5 (.int .i64 t.tx) rfl
  have y6 : w0.cell? ⟨w.heap.size, 6, none⟩ = some (.int .i64 t.ty) := hI.rg 6 (.int .i64 t.ty) rfl
  have y7 : w0.cell? ⟨w.heap.size, 7, none⟩ = some (.int .i64 t.tz) := hI.rg 7 (.int .i64 t.tz) rfl
  go_wp2_with fail
  go_ret
  exact ⟨by first | rfl | simp, hB⟩
set_option maxHeartbeats 4000000 in
set_option maxRecDepth 40000 in
theorem Val_fP (t : Itm) (w : World) (k1 : 1 ≤ t.kind) (k2 : t.kind ≤ 6) (hf : smB 1048576 t.fx t.fy t.fz = false) : Calls Try.prog 20 #[.agg #[.int .i64 t.kind, .int .i64 t.block, .int .i64 t.fx, .int .i64 t.fy, .int .i64 t.fz, .int .i64 t.tx, .int .i64 t.ty, .int .i64 t.tz, .int .i64 t.plane, .int .i64 t.cx, .int .i64 t.cy, .int .i64 t.cz, .int .i64 t.dir, .bool t.full, .int .i64 t.feed, .bool t.perrev, .int .i64 t.side, .int .i64 t.radius, .int .i64 t.blend, .int .i64 t.n, .int .i64 t.speed, .bool t.on]] w fun e w' => e = .returned (.bool false) ∧ Below w.heap.size w w' := by
  have n1 : ¬ t.kind < 1 := by omega
  have n2 : ¬ 6 < t.kind := by omega
  have d1 : decide (t.kind < 1) = false := decide_eq_false n1
  have d2 : decide (6 < t.kind) = false := decide_eq_false n2
  clear k1 k2
  have WF := fun w => Lib.hid (withinP_any t.fx t.fy t.fz w)
  rw [hf] at WF
  clear hf
  have hI : ItC t w.heap.size (w.alloc (.cells #[.int .i64 t.kind, .int .i64 t.block, .int .i64 t.fx, .int .i64 t.fy, .int .i64 t.fz, .int .i64 t.tx, .int .i64 t.ty, .int .i64 t.tz, .int .i64 t.plane, .int .i64 t.cx, .int .i64 t.cy, .int .i64 t.cz, .int .i64 t.dir, .bool t.full, .int .i64 t.feed, .bool t.perrev, .int .i64 t.side, .int .i64 t.radius, .int .i64 t.blend, .int .i64 t.n, .int .i64 t.speed, .bool t.on] 27)) := ItC.fresh t w _ rfl
  have hB : Below w.heap.size w (w.alloc (.cells #[.int .i64 t.kind, .int .i64 t.block, .int .i64 t.fx, .int .i64 t.fy, .int .i64 t.fz, .int .i64 t.tx, .int .i64 t.ty, .int .i64 t.tz, .int .i64 t.plane, .int .i64 t.cx, .int .i64 t.cy, .int .i64 t.cz, .int .i64 t.dir, .bool t.full, .int .i64 t.feed, .bool t.perrev, .int .i64 t.side, .int .i64 t.radius, .int .i64 t.blend, .int .i64 t.n, .int .i64 t.speed, .bool t.on] 27)) := (Below.refl _ _).alloc (Nat.le_refl _) _
  go_enter Try.func20, Try.ntmps20
  go_upto_region 1 with fail
  refine wp_cls (fun wr => ItC t w.heap.size wr ∧ Below w.heap.size w wr) ⟨hI, hB⟩ ?_
  clear hI hB
  rintro w0 ⟨hI, hB⟩
  have y0 : w0.cell? ⟨w.heap.size, 0, none⟩ = some (.int .i64 t.kind) := hI.rg 0 (.int .i64 t.kind) rfl
  have y2 : w0.cell? ⟨w.heap.size, 2, none⟩ = some (.int .i64 t.fx) := hI.rg 2 (.int .i64 t.fx) rfl
  have y3 : w0.cell? ⟨w.heap.size, 3, none⟩ = some (.int .i64 t.fy) := hI.rg 3 (.int .i64 t.fy) rfl
  have y4 : w0.cell? ⟨w.heap.size, 4, none⟩ = some (.int .i64 t.fz) := hI.rg 4 (.int .i64 t.fz) rfl
  have y5 : w0.cell? ⟨w.heap.size, 5, none⟩ = some (.int .i64 t.tx) := hI.rg 5 (.int .i64 t.tx) rfl
  have y6 : w0.cell? ⟨w.heap.size, 6, none⟩ = some (.int .i64 t.ty) := hI.rg 6 (.int .i64 t.ty) rfl
  have y7 : w0.cell? ⟨w.heap.size, 7, none⟩ = some (.int .i64 t.tz) := hI.rg 7 (.int .i64 t.tz) rfl
  go_wp2_with fail
  refine (WF _).out.mono ?_
  rintro e w1 ⟨rfl, hb1⟩
  have hI := hI.next hb1
  have hB := hB.trans (hb1.mono hB.size)
  clear hb1
  clear y0 y2 y3 y4 y5 y6 y7
  have y0 : w1.cell? ⟨w.heap.size, 0, none⟩ = some (.int .i64 t.kind) := hI.rg 0 (.int .i64 t.kind) rfl
  have y2 : w1.cell? ⟨w.heap.size, 2, none⟩ = some (.int .i64 t.fx) := hI.rg 2 (.int .i64 t.fx) rfl
  have y3 : w1.cell? ⟨w.heap.size, 3, none⟩ = some (.int .i64 t.fy) := hI.rg 3 (.int .i64 t.fy) rfl
  have y4 : w1.cell? ⟨w.heap.size, 4, none⟩ = some (.int .i64 t.fz) := hI.rg 4 (.int .i64 t.fz) rfl
  have y5 : w1.cell? ⟨w.heap.size, 5, none⟩ = some (.int .i64 t.tx) := hI.rg 5 (.int .i64 t.tx) rfl
  have y6 : w1.cell? ⟨w.heap.size, 6, none⟩ = some (.int .i64 t.ty) := hI.rg 6 (.int .i64 t.ty) rfl
  have y7 : w1.cell? ⟨w.heap.size, 7, none⟩ = some (.int .i64 t.tz) := hI.rg 7 (.int .i64 t.tz) rfl
  go_wp2_with fail
  go_ret
  exact ⟨by first | rfl | simp, hB⟩
set_option maxHeartbeats 4000000 in
set_option maxRecDepth 40000 in
theorem Val_tP (t : Itm) (w : World) (k1 : 1 ≤ t.kind) (k2 : t.kind ≤ 6) (hf : smB 1048576 t.fx t.fy t.fz = true) (ht : smB 1048576 t.tx t.ty t.tz = false) : Calls Try.prog 20 #[.agg #[.int .i64 t.kind, .int .i64 t.block, .int .i64 t.fx, .int .i64 t.fy, .int .i64 t.fz, .int .i64 t.tx, .int .i64 t.ty, .int .i64 t.tz, .int .i64 t.plane, .int .i64 t.cx, .int .i64 t.cy, .int .i64 t.cz, .int .i64 t.dir, .bool t.full, .int .i64 t.feed, .bool t.perrev, .int .i64 t.side, .int .i64 t.radius, .int .i64 t.blend, .int .i64 t.n, .int .i64 t.speed, .bool t.on]] w fun e w' => e = .returned (.bool false) ∧ Below w.heap.size w w' := by
  have n1 : ¬ t.kind < 1 := by omega
  have n2 : ¬ 6 < t.kind := by omega
  have d1 : decide (t.kind < 1) = false := decide_eq_false n1
  have d2 : decide (6 < t.kind) = false := decide_eq_false n2
  clear k1 k2
  have WF := fun w => Lib.hid (withinP_any t.fx t.fy t.fz w)
  have WT := fun w => Lib.hid (withinP_any t.tx t.ty t.tz w)
  rw [hf] at WF
  rw [ht] at WT
  clear hf ht
  have hI : ItC t w.heap.size (w.alloc (.cells #[.int .i64 t.kind, .int .i64 t.block, .int .i64 t.fx, .int .i64 t.fy, .int .i64 t.fz, .int .i64 t.tx, .int .i64 t.ty, .int .i64 t.tz, .int .i64 t.plane, .int .i64 t.cx, .int .i64 t.cy, .int .i64 t.cz, .int .i64 t.dir, .bool t.full, .int .i64 t.feed, .bool t.perrev, .int .i64 t.side, .int .i64 t.radius, .int .i64 t.blend, .int .i64 t.n, .int .i64 t.speed, .bool t.on] 27)) := ItC.fresh t w _ rfl
  have hB : Below w.heap.size w (w.alloc (.cells #[.int .i64 t.kind, .int .i64 t.block, .int .i64 t.fx, .int .i64 t.fy, .int .i64 t.fz, .int .i64 t.tx, .int .i64 t.ty, .int .i64 t.tz, .int .i64 t.plane, .int .i64 t.cx, .int .i64 t.cy, .int .i64 t.cz, .int .i64 t.dir, .bool t.full, .int .i64 t.feed, .bool t.perrev, .int .i64 t.side, .int .i64 t.radius, .int .i64 t.blend, .int .i64 t.n, .int .i64 t.speed, .bool t.on] 27)) := (Below.refl _ _).alloc (Nat.le_refl _) _
  go_enter Try.func20, Try.ntmps20
  go_upto_region 1 with fail
  refine wp_cls (fun wr => ItC t w.heap.size wr ∧ Below w.heap.size w wr) ⟨hI, hB⟩ ?_
  clear hI hB
  rintro w0 ⟨hI, hB⟩
  have y0 : w0.cell? ⟨w.heap.size, 0, none⟩ = some (.int .i64 t.kind) := hI.rg 0 (.int .i64 t.kind) rfl
  have y2 : w0.cell? ⟨w.heap.size, 2, none⟩ = some (.int .i64 t.fx) := hI.rg 2 (.int .i64 t.fx) rfl
  have y3 : w0.cell? ⟨w.heap.size, 3, none⟩ = some (.int .i64 t.fy) := hI.rg 3 (.int .i64 t.fy) rfl
  have y4 : w0.cell? ⟨w.heap.size, 4, none⟩ = some (.int .i64 t.fz) := hI.rg 4 (.int .i64 t.fz) rfl
  have y5 : w0.cell? ⟨w.heap.size, 5, none⟩ = some (.int .i64 t.tx) := hI.rg 5 (.int .i64 t.tx) rfl
  have y6 : w0.cell? ⟨w.heap.size, 6, none⟩ = some (.int .i64 t.ty) := hI.rg 6 (.int .i64 t.ty) rfl
  have y7 : w0.cell? ⟨w.heap.size, 7, none⟩ = some (.int .i64 t.tz) := hI.rg 7 (.int .i64 t.tz) rfl
  go_wp2_with fail
  refine (WF _).out.mono ?_
  rintro e w1 ⟨rfl, hb1⟩
  have hI := hI.next hb1
  have hB := hB.trans (hb1.mono hB.size)
  clear hb1
  clear y0 y2 y3 y4 y5 y6 y7
  have y0 : w1.cell? ⟨w.heap.size, 0, none⟩ = some (.int .i64 t.kind) := hI.rg 0 (.int .i64 t.kind) rfl
  have y2 : w1.cell? ⟨w.heap.size, 2, none⟩ = some (.int .i64 t.fx) := hI.rg 2 (.int .i64 t.fx) rfl
  have y3 : w1.cell? ⟨w.heap.size, 3, none⟩ = some (.int .i64 t.fy) := hI.rg 3 (.int .i64 t.fy) rfl
  have y4 : w1.cell? ⟨w.heap.size, 4, none⟩ = some (.int .i64 t.fz) := hI.rg 4 (.int .i64 t.fz) rfl
  have y5 : w1.cell? ⟨w.heap.size, 5, none⟩ = some (.int .i64 t.tx) := hI.rg 5 (.int .i64 t.tx) rfl
  have y6 : w1.cell? ⟨w.heap.size, 6, none⟩ = some (.int .i64 t.ty) := hI.rg 6 (.int .i64 t.ty) rfl
  have y7 : w1.cell? ⟨w.heap.size, 7, none⟩ = some (.int .i64 t.tz) := hI.rg 7 (.int .i64 t.tz) rfl
  go_wp2_with fail
  refine (WT _).out.mono ?_
  rintro e w2 ⟨rfl, hb1⟩
  have hI := hI.next hb1
  have hB := hB.trans (hb1.mono hB.size)
  clear hb1
  clear y0 y2 y3 y4 y5 y6 y7
  have y0 : w2.cell? ⟨w.heap.size, 0, none⟩ = some (.int .i64 t.kind) := hI.rg 0 (.int .i64 t.kind) rfl
  have y2 : w2.cell? ⟨w.heap.size, 2, none⟩ = some (.int .i64 t.fx) := hI.rg 2 (.int .i64 t.fx) rfl
  have y3 : w2.cell? ⟨w.heap.size, 3, none⟩ = some (.int .i64 t.fy) := hI.rg 3 (.int .i64 t.fy) rfl
  have y4 : w2.cell? ⟨w.heap.size, 4, none⟩ = some (.int .i64 t.fz) := hI.rg 4 (.int .i64 t.fz) rfl
  have y5 : w2.cell? ⟨w.heap.size, 5, none⟩ = some (.int .i64 t.tx) := hI.rg 5 (.int .i64 t.tx) rfl
  have y6 : w2.cell? ⟨w.heap.size, 6, none⟩ = some (.int .i64 t.ty) := hI.rg 6 (.int .i64 t.ty) rfl
  have y7 : w2.cell? ⟨w.heap.size, 7, none⟩ = some (.int .i64 t.tz) := hI.rg 7 (.int .i64 t.tz) rfl
  go_wp2_with fail
  go_ret
  exact ⟨by first | rfl | simp, hB⟩
set_option maxHeartbeats 4000000 in
set_option maxRecDepth 40000 in
theorem Val_lP (t : Itm) (w : World) (k1 : 1 ≤ t.kind) (k2 : t.kind ≤ 6) (hf : smB 1048576 t.fx t.fy t.fz = true) (ht : smB 1048576 t.tx t.ty t.tz = true) (k3 : ¬ t.kind = 3) : Calls Try.prog 20 #[.agg #[.int .i64 t.kind, .int .i64 t.block, .int .i64 t.fx, .int .i64 t.fy, .int .i64 t.fz, .int .i64 t.tx, .int .i64 t.ty, .int .i64 t.tz, .int .i64 t.plane, .int .i64 t.cx, .int .i64 t.cy, .int .i64 t.cz, .int .i64 t.dir, .bool t.full, .int .i64 t.feed, .bool t.perrev, .int .i64 t.side, .int .i64 t.radius, .int .i64 t.blend, .int .i64 t.n, .int .i64 t.speed, .bool t.on]] w fun e w' => e = .returned (.bool true) ∧ Below w.heap.size w w' := by
  have n1 : ¬ t.kind < 1 := by omega
  have n2 : ¬ 6 < t.kind := by omega
  have d1 : decide (t.kind < 1) = false := decide_eq_false n1
  have d2 : decide (6 < t.kind) = false := decide_eq_false n2
  clear k1 k2
  have WF := fun w => Lib.hid (withinP_any t.fx t.fy t.fz w)
  have WT := fun w => Lib.hid (withinP_any t.tx t.ty t.tz w)
  rw [hf] at WF
  rw [ht] at WT
  clear hf ht
  have hI : ItC t w.heap.size (w.alloc (.cells #[.int .i64 t.kind, .int .i64 t.block, .int .i64 t.fx, .int .i64 t.fy, .int .i64 t.fz, .int .i64 t.tx, .int .i64 t.ty, .int .i64 t.tz, .int .i64 t.plane, .int .i64 t.cx, .int .i64 t.cy, .int .i64 t.cz, .int .i64 t.dir, .bool t.full, .int .i64 t.feed, .bool t.perrev, .int .i64 t.side, .int .i64 t.radius, .int .i64 t.blend, .int .i64 t.n, .int .i64 t.speed, .bool t.on] 27)) := ItC.fresh t w _ rfl
  have hB : Below w.heap.size w (w.alloc (.cells #[.int .i64 t.kind, .int .i64 t.block, .int .i64 t.fx, .int .i64 t.fy, .int .i64 t.fz, .int .i64 t.tx, .int .i64 t.ty, .int .i64 t.tz, .int .i64 t.plane, .int .i64 t.cx, .int .i64 t.cy, .int .i64 t.cz, .int .i64 t.dir, .bool t.full, .int .i64 t.feed, .bool t.perrev, .int .i64 t.side, .int .i64 t.radius, .int .i64 t.blend, .int .i64 t.n, .int .i64 t.speed, .bool t.on] 27)) := (Below.refl _ _).alloc (Nat.le_refl _) _
  go_enter Try.func20, Try.ntmps20
  go_upto_region 1 with fail
  refine wp_cls (fun wr => ItC t w.heap.size wr ∧ Below w.heap.size w wr) ⟨hI, hB⟩ ?_
  clear hI hB
  rintro w0 ⟨hI, hB⟩
  have y0 : w0.cell? ⟨w.heap.size, 0, none⟩ = some (.int .i64 t.kind) := hI.rg 0 (.int .i64 t.kind) rfl
  have y2 : w0.cell? ⟨w.heap.size, 2, none⟩ = some (.int .i64 t.fx) := hI.rg 2 (.int .i64 t.fx) rfl
  have y3 : w0.cell? ⟨w.heap.size, 3, none⟩ = some (.int .i64 t.fy) := hI.rg 3 (.int .i64 t.fy) rfl
  have y4 : w0.cell? ⟨w.heap.size, 4, none⟩ = some (.int .i64 t.fz) := hI.rg 4 (.int .i64 t.fz) rfl
  have y5 : w0.cell? ⟨w.heap.size, 5, none⟩ = some (.int .i64 t.tx) := hI.rg 5 (.int .i64 t.tx) rfl
  have y6 : w0.cell? ⟨w.heap.size, 6, none⟩ = some (.int .i64 t.ty) := hI.rg 6 (.int .i64 t.ty) rfl
  have y7 : w0.cell? ⟨w.heap.size, 7, none⟩ = some (.int .i64 t.tz) := hI.rg 7 (.int .i64 t.tz) rfl
  go_wp2_with fail
  refine (WF _).out.mono ?_
  rintro e w1 ⟨rfl, hb1⟩
  have hI := hI.next hb1
  have hB := hB.trans (hb1.mono hB.size)
  clear hb1
  clear y0 y2 y3 y4 y5 y6 y7
  have y0 : w1.cell? ⟨w.heap.size, 0, none⟩ = some (.int .i64 t.kind) := hI.rg 0 (.int .i64 t.kind) rfl
  have y2 : w1.cell? ⟨w.heap.size, 2, none⟩ = some (.int .i64 t.fx) := hI.rg 2 (.int .i64 t.fx) rfl
  have y3 : w1.cell? ⟨w.heap.size, 3, none⟩ = some (.int .i64 t.fy) := hI.rg 3 (.int .i64 t.fy) rfl
  have y4 : w1.cell? ⟨w.heap.size, 4, none⟩ = some (.int .i64 t.fz) := hI.rg 4 (.int .i64 t.fz) rfl
  have y5 : w1.cell? ⟨w.heap.size, 5, none⟩ = some (.int .i64 t.tx) := hI.rg 5 (.int .i64 t.tx) rfl
  have y6 : w1.cell? ⟨w.heap.size, 6, none⟩ = some (.int .i64 t.ty) := hI.rg 6 (.int .i64 t.ty) rfl
  have y7 : w1.cell? ⟨w.heap.size, 7, none⟩ = some (.int .i64 t.tz) := hI.rg 7 (.int .i64 t.tz) rfl
  go_wp2_with fail
  refine (WT _).out.mono ?_
  rintro e w2 ⟨rfl, hb1⟩
  have hI := hI.next hb1
  have hB := hB.trans (hb1.mono hB.size)
  clear hb1
  clear y0 y2 y3 y4 y5 y6 y7
  have y0 : w2.cell? ⟨w.heap.size, 0, none⟩ = some (.int .i64 t.kind) := hI.rg 0 (.int .i64 t.kind) rfl
  have y2 : w2.cell? ⟨w.heap.size, 2, none⟩ = some (.int .i64 t.fx) := hI.rg 2 (.int .i64 t.fx) rfl
  have y3 : w2.cell? ⟨w.heap.size, 3, none⟩ = some (.int .i64 t.fy) := hI.rg 3 (.int .i64 t.fy) rfl
  have y4 : w2.cell? ⟨w.heap.size, 4, none⟩ = some (.int .i64 t.fz) := hI.rg 4 (.int .i64 t.fz) rfl
  have y5 : w2.cell? ⟨w.heap.size, 5, none⟩ = some (.int .i64 t.tx) := hI.rg 5 (.int .i64 t.tx) rfl
  have y6 : w2.cell? ⟨w.heap.size, 6, none⟩ = some (.int .i64 t.ty) := hI.rg 6 (.int .i64 t.ty) rfl
  have y7 : w2.cell? ⟨w.heap.size, 7, none⟩ = some (.int .i64 t.tz) := hI.rg 7 (.int .i64 t.tz) rfl
  go_wp2_with fail
  go_ret
  exact ⟨by first | rfl | simp, hB⟩
theorem ValidP_yes (t : Itm) (w : World) (h : t.Val) : Calls Try.prog 20 #[.agg #[.int .i64 t.kind, .int .i64 t.block, .int .i64 t.fx, .int .i64 t.fy, .int .i64 t.fz, .int .i64 t.tx, .int .i64 t.ty, .int .i64 t.tz, .int .i64 t.plane, .int .i64 t.cx, .int .i64 t.cy, .int .i64 t.cz, .int .i64 t.dir, .bool t.full, .int .i64 t.feed, .bool t.perrev, .int .i64 t.side, .int .i64 t.radius, .int .i64 t.blend, .int .i64 t.n, .int .i64 t.speed, .bool t.on]] w fun e w' => e = .returned (.bool true) ∧ Below w.heap.size w w' := by
  obtain ⟨⟨k1, k2⟩, hf, ht, ho⟩ := h
  by_cases h3 : t.kind = 3
  · exact ValidP_true t w (ho h3)
  · exact Val_lP t w k1 k2 (smB_iff.2 hf) (smB_iff.2 ht) h3
theorem ValidP_no (t : Itm) (w : World) (h : ¬ t.Val) : Calls Try.prog 20 #[.agg #[.int .i64 t.kind, .int .i64 t.block, .int .i64 t.fx, .int .i64 t.fy, .int .i64 t.fz, .int .i64 t.tx, .int .i64 t.ty, .int .i64 t.tz, .int .i64 t.plane, .int .i64 t.cx, .int .i64 t.cy, .int .i64 t.cz, .int .i64 t.dir, .bool t.full, .int .i64 t.feed, .bool t.perrev, .int .i64 t.side, .int .i64 t.radius, .int .i64 t.blend, .int .i64 t.n, .int .i64 t.speed, .bool t.on]] w fun e w' => e = .returned (.bool false) ∧ Below w.heap.size w w' := by
  by_cases k1 : 1 ≤ t.kind
  · by_cases k2 : t.kind ≤ 6
    · cases hf : smB 1048576 t.fx t.fy t.fz with
      | false => exact Val_fP t w k1 k2 hf
      | true =>
        cases ht : smB 1048576 t.tx t.ty t.tz with
        | false => exact Val_tP t w k1 k2 hf ht
        | true =>
          by_cases h3 : t.kind = 3
          · exact ValidP_false t w h3 (smB_iff.1 hf) (smB_iff.1 ht) (fun ho => h ⟨⟨k1, k2⟩, smB_iff.1 hf, smB_iff.1 ht, fun _ => ho⟩)
          · exact absurd ⟨⟨k1, k2⟩, smB_iff.1 hf, smB_iff.1 ht, fun e => absurd e h3⟩ h
    · exact Val_kP2 t w (by omega)
  · exact Val_kP1 t w (by omega)
set_option maxHeartbeats 4000000 in
set_option maxRecDepth 40000 in
theorem Val_kR (t : Itm) (w : World) (k1 : t.kind < 1 ∨ 6 < t.kind) : Calls Try.prog 21 #[.agg #[.int .i64 t.kind, .int .i64 t.block, .int .i64 t.fx, .int .i64 t.fy, .int .i64 t.fz, .int .i64 t.tx, .int .i64 t.ty, .int .i64 t.tz, .int .i64 t.plane, .int .i64 t.cx, .int .i64 t.cy, .int .i64 t.cz, .int .i64 t.dir, .bool t.full, .int .i64 t.feed, .bool t.perrev, .int .i64 t.side, .int .i64 t.radius, .int .i64 t.blend, .int .i64 t.n, .int .i64 t.speed, .bool t.on]] w fun e w' => e = .returned (.bool false) ∧ Below w.heap.size w w' := by
  have MO := fun w => Lib.hid (motionR_no t.kind w k1)
  clear k1
  have hI : ItC t w.heap.size (w.alloc (.cells #[.int .i64 t.kind, .int .i64 t.block, .int .i64 t.fx, .int .i64 t.fy, .int .i64 t.fz, .int .i64 t.tx, .int .i64 t.ty, .int .i64 t.tz, .int .i64 t.plane, .int .i64 t.cx, .int .i64 t.cy, .int .i64 t.cz, .int .i64 t.dir, .bool t.full, .int .i64 t.feed, .bool t.perrev, .int .i64 t.side, .int .i64 t.radius, .int .i64 t.blend, .int .i64 t.n, .int .i64 t.speed, .bool t.on] 27)) := ItC.fresh t w _ rfl
  have hB : Below w.heap.size w (w.alloc (.cells #[.int .i64 t.kind, .int .i64 t.block, .int .i64 t.fx, .int .i64 t.fy, .int .i64 t.fz, .int .i64 t.tx, .int .i64 t.ty, .int .i64 t.tz, .int .i64 t.plane, .int .i64 t.cx, .int .i64 t.cy, .int .i64 t.cz, .int .i64 t.dir, .bool t.full, .int .i64 t.feed, .bool t.perrev, .int .i64 t.side, .int .i64 t.radius, .int .i64 t.blend, .int .i64 t.n, .int .i64 t.speed, .bool t.on] 27)) := (Below.refl _ _).alloc (Nat.le_refl _) _
  go_enter Try.func21, Try.ntmps21
  go_upto_region 1 with fail
  refine wp_cls (fun wr => ItC t w.heap.size wr ∧ Below w.heap.size w wr) ⟨hI, hB⟩ ?_
  clear hI hB
  rintro w0 ⟨hI, hB⟩
  have y0 : w0.cell? ⟨w.heap.size, 0, none⟩ = some (.int .i64 t.kind) := hI.rg 0 (.int .i64 t.kind) rfl
  have y2 : w0.cell? ⟨w.heap.size, 2, none⟩ = some (.int .i64 t.fx) := hI.rg 2 (.int .i64 t.fx) rfl
  have y3 : w0.cell? ⟨w.heap.size, 3, none⟩ = some (.int .i64 t.fy) := hI.rg 3 (.int .i64 t.fy) rfl
  have y4 : w0.cell? ⟨w.heap.size, 4, none⟩ = some (.int .i64 t.fz) := hI.rg 4 (.int .i64 t.fz) rfl
  have y5 : w0.cell? ⟨w.heap.size, 5, none⟩ = some (.int .i64 t.tx) := hI.rg 5 (.int .i64 t.tx) rfl
  have y6 : w0.cell? ⟨w.heap.size, 6, none⟩ = some (.int .i64 t.ty) := hI.rg 6 (.int .i64 t.ty) rfl
  have y7 : w0.cell? ⟨w.heap.size, 7, none⟩ = some (.int .i64 t.tz) := hI.rg 7 (.int .i64 t.tz) rfl
  go_wp2_with fail
  refine (MO _).out.mono ?_
  rintro e w1 ⟨rfl, hb1⟩
  have hI := hI.next hb1
  have hB := hB.trans (hb1.mono hB.size)
  clear hb1
  clear y0 y2 y3 y4 y5 y6 y7
  have y0 : w1.cell? ⟨w.heap.size, 0, none⟩ = some (.int .i64 t.kind) := hI.rg 0 (.int .i64 t.kind) rfl
  have y2 : w1.cell? ⟨w.heap.size, 2, none⟩ = some (.int .i64 t.fx) := hI.rg 2 (.int .i64 t.fx) rfl
  have y3 : w1.cell? ⟨w.heap.size, 3, none⟩ = some (.int .i64 t.fy) := hI.rg 3 (.int .i64 t.fy) rfl
  have y4 : w1.cell? ⟨w.heap.size, 4, none⟩ = some (.int .i64 t.fz) := hI.rg 4 (.int .i64 t.fz) rfl
  have y5 : w1.cell? ⟨w.heap.size, 5, none⟩ = some (.int .i64 t.tx) := hI.rg 5 (.int .i64 t.tx) rfl
  have y6 : w1.cell? ⟨w.heap.size, 6, none⟩ = some (.int .i64 t.ty) := hI.rg 6 (.int .i64 t.ty) rfl
  have y7 : w1.cell? ⟨w.heap.size, 7, none⟩ = some (.int .i64 t.tz) := hI.rg 7 (.int .i64 t.tz) rfl
  go_wp2_with fail
  go_ret
  exact ⟨by first | rfl | simp, hB⟩
set_option maxHeartbeats 4000000 in
set_option maxRecDepth 40000 in
theorem Val_fR (t : Itm) (w : World) (k1 : 1 ≤ t.kind) (k2 : t.kind ≤ 6) (hf : smB 1048576 t.fx t.fy t.fz = false) : Calls Try.prog 21 #[.agg #[.int .i64 t.kind, .int .i64 t.block, .int .i64 t.fx, .int .i64 t.fy, .int .i64 t.fz, .int .i64 t.tx, .int .i64 t.ty, .int .i64 t.tz, .int .i64 t.plane, .int .i64 t.cx, .int .i64 t.cy, .int .i64 t.cz, .int .i64 t.dir, .bool t.full, .int .i64 t.feed, .bool t.perrev, .int .i64 t.side, .int .i64 t.radius, .int .i64 t.blend, .int .i64 t.n, .int .i64 t.speed, .bool t.on]] w fun e w' => e = .returned (.bool false) ∧ Below w.heap.size w w' := by
  have n1 : ¬ t.kind < 1 := by omega
  have n2 : ¬ 6 < t.kind := by omega
  have d1 : decide (t.kind < 1) = false := decide_eq_false n1
  have d2 : decide (6 < t.kind) = false := decide_eq_false n2
  have MO := fun w => Lib.hid (motionR_yes t.kind w k1 k2)
  clear k1 k2 n1 n2 d1 d2
  have WF := fun w => Lib.hid (withinR_any t.fx t.fy t.fz w)
  rw [hf] at WF
  clear hf
  have hI : ItC t w.heap.size (w.alloc (.cells #[.int .i64 t.kind, .int .i64 t.block, .int .i64 t.fx, .int .i64 t.fy, .int .i64 t.fz, .int .i64 t.tx, .int .i64 t.ty, .int .i64 t.tz, .int .i64 t.plane, .int .i64 t.cx, .int .i64 t.cy, .int .i64 t.cz, .int .i64 t.dir, .bool t.full, .int .i64 t.feed, .bool t.perrev, .int .i64 t.side, .int .i64 t.radius, .int .i64 t.blend, .int .i64 t.n, .int .i64 t.speed, .bool t.on] 27)) := ItC.fresh t w _ rfl
  have hB : Below w.heap.size w (w.alloc (.cells #[.int .i64 t.kind, .int .i64 t.block, .int .i64 t.fx, .int .i64 t.fy, .int .i64 t.fz, .int .i64 t.tx, .int .i64 t.ty, .int .i64 t.tz, .int .i64 t.plane, .int .i64 t.cx, .int .i64 t.cy, .int .i64 t.cz, .int .i64 t.dir, .bool t.full, .int .i64 t.feed, .bool t.perrev, .int .i64 t.side, .int .i64 t.radius, .int .i64 t.blend, .int .i64 t.n, .int .i64 t.speed, .bool t.on] 27)) := (Below.refl _ _).alloc (Nat.le_refl _) _
  go_enter Try.func21, Try.ntmps21
  go_upto_region 1 with fail
  refine wp_cls (fun wr => ItC t w.heap.size wr ∧ Below w.heap.size w wr) ⟨hI, hB⟩ ?_
  clear hI hB
  rintro w0 ⟨hI, hB⟩
  have y0 : w0.cell? ⟨w.heap.size, 0, none⟩ = some (.int .i64 t.kind) := hI.rg 0 (.int .i64 t.kind) rfl
  have y2 : w0.cell? ⟨w.heap.size, 2, none⟩ = some (.int .i64 t.fx) := hI.rg 2 (.int .i64 t.fx) rfl
  have y3 : w0.cell? ⟨w.heap.size, 3, none⟩ = some (.int .i64 t.fy) := hI.rg 3 (.int .i64 t.fy) rfl
  have y4 : w0.cell? ⟨w.heap.size, 4, none⟩ = some (.int .i64 t.fz) := hI.rg 4 (.int .i64 t.fz) rfl
  have y5 : w0.cell? ⟨w.heap.size, 5, none⟩ = some (.int .i64 t.tx) := hI.rg 5 (.int .i64 t.tx) rfl
  have y6 : w0.cell? ⟨w.heap.size, 6, none⟩ = some (.int .i64 t.ty) := hI.rg 6 (.int .i64 t.ty) rfl
  have y7 : w0.cell? ⟨w.heap.size, 7, none⟩ = some (.int .i64 t.tz) := hI.rg 7 (.int .i64 t.tz) rfl
  go_wp2_with fail
  refine (MO _).out.mono ?_
  rintro e w1 ⟨rfl, hb1⟩
  have hI := hI.next hb1
  have hB := hB.trans (hb1.mono hB.size)
  clear hb1
  clear y0 y2 y3 y4 y5 y6 y7
  have y0 : w1.cell? ⟨w.heap.size, 0, none⟩ = some (.int .i64 t.kind) := hI.rg 0 (.int .i64 t.kind) rfl
  have y2 : w1.cell? ⟨w.heap.size, 2, none⟩ = some (.int .i64 t.fx) := hI.rg 2 (.int .i64 t.fx) rfl
  have y3 : w1.cell? ⟨w.heap.size, 3, none⟩ = some (.int .i64 t.fy) := hI.rg 3 (.int .i64 t.fy) rfl
  have y4 : w1.cell? ⟨w.heap.size, 4, none⟩ = some (.int .i64 t.fz) := hI.rg 4 (.int .i64 t.fz) rfl
  have y5 : w1.cell? ⟨w.heap.size, 5, none⟩ = some (.int .i64 t.tx) := hI.rg 5 (.int .i64 t.tx) rfl
  have y6 : w1.cell? ⟨w.heap.size, 6, none⟩ = some (.int .i64 t.ty) := hI.rg 6 (.int .i64 t.ty) rfl
  have y7 : w1.cell? ⟨w.heap.size, 7, none⟩ = some (.int .i64 t.tz) := hI.rg 7 (.int .i64 t.tz) rfl
  go_wp2_with fail
  refine (WF _).out.mono ?_
  rintro e w2 ⟨rfl, hb1⟩
  have hI := hI.next hb1
  have hB := hB.trans (hb1.mono hB.size)
  clear hb1
  clear y0 y2 y3 y4 y5 y6 y7
  have y0 : w2.cell? ⟨w.heap.size, 0, none⟩ = some (.int .i64 t.kind) := hI.rg 0 (.int .i64 t.kind) rfl
  have y2 : w2.cell? ⟨w.heap.size, 2, none⟩ = some (.int .i64 t.fx) := hI.rg 2 (.int .i64 t.fx) rfl
  have y3 : w2.cell? ⟨w.heap.size, 3, none⟩ = some (.int .i64 t.fy) := hI.rg 3 (.int .i64 t.fy) rfl
  have y4 : w2.cell? ⟨w.heap.size, 4, none⟩ = some (.int .i64 t.fz) := hI.rg 4 (.int .i64 t.fz) rfl
  have y5 : w2.cell? ⟨w.heap.size, 5, none⟩ = some (.int .i64 t.tx) := hI.rg 5 (.int .i64 t.tx) rfl
  have y6 : w2.cell? ⟨w.heap.size, 6, none⟩ = some (.int .i64 t.ty) := hI.rg 6 (.int .i64 t.ty) rfl
  have y7 : w2.cell? ⟨w.heap.size, 7, none⟩ = some (.int .i64 t.tz) := hI.rg 7 (.int .i64 t.tz) rfl
  go_wp2_with fail
  go_ret
  exact ⟨by first | rfl | simp, hB⟩
set_option maxHeartbeats 4000000 in
set_option maxRecDepth 40000 in
theorem Val_tR (t : Itm) (w : World) (k1 : 1 ≤ t.kind) (k2 : t.kind ≤ 6) (hf : smB 1048576 t.fx t.fy t.fz = true) (ht : smB 1048576 t.tx t.ty t.tz = false) : Calls Try.prog 21 #[.agg #[.int .i64 t.kind, .int .i64 t.block, .int .i64 t.fx, .int .i64 t.fy, .int .i64 t.fz, .int .i64 t.tx, .int .i64 t.ty, .int .i64 t.tz, .int .i64 t.plane, .int .i64 t.cx, .int .i64 t.cy, .int .i64 t.cz, .int .i64 t.dir, .bool t.full, .int .i64 t.feed, .bool t.perrev, .int .i64 t.side, .int .i64 t.radius, .int .i64 t.blend, .int .i64 t.n, .int .i64 t.speed, .bool t.on]] w fun e w' => e = .returned (.bool false) ∧ Below w.heap.size w w' := by
  have n1 : ¬ t.kind < 1 := by omega
  have n2 : ¬ 6 < t.kind := by omega
  have d1 : decide (t.kind < 1) = false := decide_eq_false n1
  have d2 : decide (6 < t.kind) = false := decide_eq_false n2
  have MO := fun w => Lib.hid (motionR_yes t.kind w k1 k2)
  clear k1 k2 n1 n2 d1 d2
  have WF := fun w => Lib.hid (withinR_any t.fx t.fy t.fz w)
  have WT := fun w => Lib.hid (withinR_any t.tx t.ty t.tz w)
  rw [hf] at WF
  rw [ht] at WT
  clear hf ht
  have hI : ItC t w.heap.size (w.alloc (.cells #[.int .i64 t.kind, .int .i64 t.block, .int .i64 t.fx, .int .i64 t.fy, .int .i64 t.fz, .int .i64 t.tx, .int .i64 t.ty, .int .i64 t.tz, .int .i64 t.plane, .int .i64 t.cx, .int .i64 t.cy, .int .i64 t.cz, .int .i64 t.dir, .bool t.full, .int .i64 t.feed, .bool t.perrev, .int .i64 t.side, .int .i64 t.radius, .int .i64 t.blend, .int .i64 t.n, .int .i64 t.speed, .bool t.on] 27)) := ItC.fresh t w _ rfl
  have hB : Below w.heap.size w (w.alloc (.cells #[.int .i64 t.kind, .int .i64 t.block, .int .i64 t.fx, .int .i64 t.fy, .int .i64 t.fz, .int .i64 t.tx, .int .i64 t.ty, .int .i64 t.tz, .int .i64 t.plane, .int .i64 t.cx, .int .i64 t.cy, .int .i64 t.cz, .int .i64 t.dir, .bool t.full, .int .i64 t.feed, .bool t.perrev, .int .i64 t.side, .int .i64 t.radius, .int .i64 t.blend, .int .i64 t.n, .int .i64 t.speed, .bool t.on] 27)) := (Below.refl _ _).alloc (Nat.le_refl _) _
  go_enter Try.func21, Try.ntmps21
  go_upto_region 1 with fail
  refine wp_cls (fun wr => ItC t w.heap.size wr ∧ Below w.heap.size w wr) ⟨hI, hB⟩ ?_
  clear hI hB
  rintro w0 ⟨hI, hB⟩
  have y0 : w0.cell? ⟨w.heap.size, 0, none⟩ = some (.int .i64 t.kind) := hI.rg 0 (.int .i64 t.kind) rfl
  have y2 : w0.cell? ⟨w.heap.size, 2, none⟩ = some (.int .i64 t.fx) := hI.rg 2 (.int .i64 t.fx) rfl
  have y3 : w0.cell? ⟨w.heap.size, 3, none⟩ = some (.int .i64 t.fy) := hI.rg 3 (.int .i64 t.fy) rfl
  have y4 : w0.cell? ⟨w.heap.size, 4, none⟩ = some (.int .i64 t.fz) := hI.rg 4 (.int .i64 t.fz) rfl
  have y5 : w0.cell? ⟨w.heap.size, 5, none⟩ = some (.int .i64 t.tx) := hI.rg 5 (.int .i64 t.tx) rfl
  have y6 : w0.cell? ⟨w.heap.size, 6, none⟩ = some (.int .i64 t.ty) := hI.rg 6 (.int .i64 t.ty) rfl
  have y7 : w0.cell? ⟨w.heap.size, 7, none⟩ = some (.int .i64 t.tz) := hI.rg 7 (.int .i64 t.tz) rfl
  go_wp2_with fail
  refine (MO _).out.mono ?_
  rintro e w1 ⟨rfl, hb1⟩
  have hI := hI.next hb1
  have hB := hB.trans (hb1.mono hB.size)
  clear hb1
  clear y0 y2 y3 y4 y5 y6 y7
  have y0 : w1.cell? ⟨w.heap.size, 0, none⟩ = some (.int .i64 t.kind) := hI.rg 0 (.int .i64 t.kind) rfl
  have y2 : w1.cell? ⟨w.heap.size, 2, none⟩ = some (.int .i64 t.fx) := hI.rg 2 (.int .i64 t.fx) rfl
  have y3 : w1.cell? ⟨w.heap.size, 3, none⟩ = some (.int .i64 t.fy) := hI.rg 3 (.int .i64 t.fy) rfl
  have y4 : w1.cell? ⟨w.heap.size, 4, none⟩ = some (.int .i64 t.fz) := hI.rg 4 (.int .i64 t.fz) rfl
  have y5 : w1.cell? ⟨w.heap.size, 5, none⟩ = some (.int .i64 t.tx) := hI.rg 5 (.int .i64 t.tx) rfl
  have y6 : w1.cell? ⟨w.heap.size, 6, none⟩ = some (.int .i64 t.ty) := hI.rg 6 (.int .i64 t.ty) rfl
  have y7 : w1.cell? ⟨w.heap.size, 7, none⟩ = some (.int .i64 t.tz) := hI.rg 7 (.int .i64 t.tz) rfl
  go_wp2_with fail
  refine (WF _).out.mono ?_
  rintro e w2 ⟨rfl, hb1⟩
  have hI := hI.next hb1
  have hB := hB.trans (hb1.mono hB.size)
  clear hb1
  clear y0 y2 y3 y4 y5 y6 y7
  have y0 : w2.cell? ⟨w.heap.size, 0, none⟩ = some (.int .i64 t.kind) := hI.rg 0 (.int .i64 t.kind) rfl
  have y2 : w2.cell? ⟨w.heap.size, 2, none⟩ = some (.int .i64 t.fx) := hI.rg 2 (.int .i64 t.fx) rfl
  have y3 : w2.cell? ⟨w.heap.size, 3, none⟩ = some (.int .i64 t.fy) := hI.rg 3 (.int .i64 t.fy) rfl
  have y4 : w2.cell? ⟨w.heap.size, 4, none⟩ = some (.int .i64 t.fz) := hI.rg 4 (.int .i64 t.fz) rfl
  have y5 : w2.cell? ⟨w.heap.size, 5, none⟩ = some (.int .i64 t.tx) := hI.rg 5 (.int .i64 t.tx) rfl
  have y6 : w2.cell? ⟨w.heap.size, 6, none⟩ = some (.int .i64 t.ty) := hI.rg 6 (.int .i64 t.ty) rfl
  have y7 : w2.cell? ⟨w.heap.size, 7, none⟩ = some (.int .i64 t.tz) := hI.rg 7 (.int .i64 t.tz) rfl
  go_wp2_with fail
  refine (WT _).out.mono ?_
  rintro e w3 ⟨rfl, hb1⟩
  have hI := hI.next hb1
  have hB := hB.trans (hb1.mono hB.size)
  clear hb1
  clear y0 y2 y3 y4 y5 y6 y7
  have y0 : w3.cell? ⟨w.heap.size, 0, none⟩ = some (.int .i64 t.kind) := hI.rg 0 (.int .i64 t.kind) rfl
  have y2 : w3.cell? ⟨w.heap.size, 2, none⟩ = some (.int .i64 t.fx) := hI.rg 2 (.int .i64 t.fx) rfl
  have y3 : w3.cell? ⟨w.heap.size, 3, none⟩ = some (.int .i64 t.fy) := hI.rg 3 (.int .i64 t.fy) rfl
  have y4 : w3.cell? ⟨w.heap.size, 4, none⟩ = some (.int .i64 t.fz) := hI.rg 4 (.int .i64 t.fz) rfl
  have y5 : w3.cell? ⟨w.heap.size, 5, none⟩ = some (.int .i64 t.tx) := hI.rg 5 (.int .i64 t.tx) rfl
  have y6 : w3.cell? ⟨w.heap.size, 6, none⟩ = some (.int .i64 t.ty) := hI.rg 6 (.int .i64 t.ty) rfl
  have y7 : w3.cell? ⟨w.heap.size, 7, none⟩ = some (.int .i64 t.tz) := hI.rg 7 (.int .i64 t.tz) rfl
  go_wp2_with fail
  go_ret
  exact ⟨by first | rfl | simp, hB⟩
set_option maxHeartbeats 4000000 in
set_option maxRecDepth 40000 in
theorem Val_lR (t : Itm) (w : World) (k1 : 1 ≤ t.kind) (k2 : t.kind ≤ 6) (hf : smB 1048576 t.fx t.fy t.fz = true) (ht : smB 1048576 t.tx t.ty t.tz = true) (k3 : ¬ t.kind = 3) : Calls Try.prog 21 #[.agg #[.int .i64 t.kind, .int .i64 t.block, .int .i64 t.fx, .int .i64 t.fy, .int .i64 t.fz, .int .i64 t.tx, .int .i64 t.ty, .int .i64 t.tz, .int .i64 t.plane, .int .i64 t.cx, .int .i64 t.cy, .int .i64 t.cz, .int .i64 t.dir, .bool t.full, .int .i64 t.feed, .bool t.perrev, .int .i64 t.side, .int .i64 t.radius, .int .i64 t.blend, .int .i64 t.n, .int .i64 t.speed, .bool t.on]] w fun e w' => e = .returned (.bool true) ∧ Below w.heap.size w w' := by
  have n1 : ¬ t.kind < 1 := by omega
  have n2 : ¬ 6 < t.kind := by omega
  have d1 : decide (t.kind < 1) = false := decide_eq_false n1
  have d2 : decide (6 < t.kind) = false := decide_eq_false n2
  have MO := fun w => Lib.hid (motionR_yes t.kind w k1 k2)
  clear k1 k2 n1 n2 d1 d2
  have WF := fun w => Lib.hid (withinR_any t.fx t.fy t.fz w)
  have WT := fun w => Lib.hid (withinR_any t.tx t.ty t.tz w)
  rw [hf] at WF
  rw [ht] at WT
  clear hf ht
  have hI : ItC t w.heap.size (w.alloc (.cells #[.int .i64 t.kind, .int .i64 t.block, .int .i64 t.fx, .int .i64 t.fy, .int .i64 t.fz, .int .i64 t.tx, .int .i64 t.ty, .int .i64 t.tz, .int .i64 t.plane, .int .i64 t.cx, .int .i64 t.cy, .int .i64 t.cz, .int .i64 t.dir, .bool t.full, .int .i64 t.feed, .bool t.perrev, .int .i64 t.side, .int .i64 t.radius, .int .i64 t.blend, .int .i64 t.n, .int .i64 t.speed, .bool t.on] 27)) := ItC.fresh t w _ rfl
  have hB : Below w.heap.size w (w.alloc (.cells #[.int .i64 t.kind, .int .i64 t.block, .int .i64 t.fx, .int .i64 t.fy, .int .i64 t.fz, .int .i64 t.tx, .int .i64 t.ty, .int .i64 t.tz, .int .i64 t.plane, .int .i64 t.cx, .int .i64 t.cy, .int .i64 t.cz, .int .i64 t.dir, .bool t.full, .int .i64 t.feed, .bool t.perrev, .int .i64 t.side, .int .i64 t.radius, .int .i64 t.blend, .int .i64 t.n, .int .i64 t.speed, .bool t.on] 27)) := (Below.refl _ _).alloc (Nat.le_refl _) _
  go_enter Try.func21, Try.ntmps21
  go_upto_region 1 with fail
  refine wp_cls (fun wr => ItC t w.heap.size wr ∧ Below w.heap.size w wr) ⟨hI, hB⟩ ?_
  clear hI hB
  rintro w0 ⟨hI, hB⟩
  have y0 : w0.cell? ⟨w.heap.size, 0, none⟩ = some (.int .i64 t.kind) := hI.rg 0 (.int .i64 t.kind) rfl
  have y2 : w0.cell? ⟨w.heap.size, 2, none⟩ = some (.int .i64 t.fx) := hI.rg 2 (.int .i64 t.fx) rfl
  have y3 : w0.cell? ⟨w.heap.size, 3, none⟩ = some (.int .i64 t.fy) := hI.rg 3 (.int .i64 t.fy) rfl
  have y4 : w0.cell? ⟨w.heap.size, 4, none⟩ = some (.int .i64 t.fz) := hI.rg 4 (.int .i64 t.fz) rfl
  have y5 : w0.cell? ⟨w.heap.size, 5, none⟩ = some (.int .i64 t.tx) := hI.rg 5 (.int .i64 t.tx) rfl
  have y6 : w0.cell? ⟨w.heap.size, 6, none⟩ = some (.int .i64 t.ty) := hI.rg 6 (.int .i64 t.ty) rfl
  have y7 : w0.cell? ⟨w.heap.size, 7, none⟩ = some (.int .i64 t.tz) := hI.rg 7 (.int .i64 t.tz) rfl
  go_wp2_with fail
  refine (MO _).out.mono ?_
  rintro e w1 ⟨rfl, hb1⟩
  have hI := hI.next hb1
  have hB := hB.trans (hb1.mono hB.size)
  clear hb1
  clear y0 y2 y3 y4 y5 y6 y7
  have y0 : w1.cell? ⟨w.heap.size, 0, none⟩ = some (.int .i64 t.kind) := hI.rg 0 (.int .i64 t.kind) rfl
  have y2 : w1.cell? ⟨w.heap.size, 2, none⟩ = some (.int .i64 t.fx) := hI.rg 2 (.int .i64 t.fx) rfl
  have y3 : w1.cell? ⟨w.heap.size, 3, none⟩ = some (.int .i64 t.fy) := hI.rg 3 (.int .i64 t.fy) rfl
  have y4 : w1.cell? ⟨w.heap.size, 4, none⟩ = some (.int .i64 t.fz) := hI.rg 4 (.int .i64 t.fz) rfl
  have y5 : w1.cell? ⟨w.heap.size, 5, none⟩ = some (.int .i64 t.tx) := hI.rg 5 (.int .i64 t.tx) rfl
  have y6 : w1.cell? ⟨w.heap.size, 6, none⟩ = some (.int .i64 t.ty) := hI.rg 6 (.int .i64 t.ty) rfl
  have y7 : w1.cell? ⟨w.heap.size, 7, none⟩ = some (.int .i64 t.tz) := hI.rg 7 (.int .i64 t.tz) rfl
  go_wp2_with fail
  refine (WF _).out.mono ?_
  rintro e w2 ⟨rfl, hb1⟩
  have hI := hI.next hb1
  have hB := hB.trans (hb1.mono hB.size)
  clear hb1
  clear y0 y2 y3 y4 y5 y6 y7
  have y0 : w2.cell? ⟨w.heap.size, 0, none⟩ = some (.int .i64 t.kind) := hI.rg 0 (.int .i64 t.kind) rfl
  have y2 : w2.cell? ⟨w.heap.size, 2, none⟩ = some (.int .i64 t.fx) := hI.rg 2 (.int .i64 t.fx) rfl
  have y3 : w2.cell? ⟨w.heap.size, 3, none⟩ = some (.int .i64 t.fy) := hI.rg 3 (.int .i64 t.fy) rfl
  have y4 : w2.cell? ⟨w.heap.size, 4, none⟩ = some (.int .i64 t.fz) := hI.rg 4 (.int .i64 t.fz) rfl
  have y5 : w2.cell? ⟨w.heap.size, 5, none⟩ = some (.int .i64 t.tx) := hI.rg 5 (.int .i64 t.tx) rfl
  have y6 : w2.cell? ⟨w.heap.size, 6, none⟩ = some (.int .i64 t.ty) := hI.rg 6 (.int .i64 t.ty) rfl
  have y7 : w2.cell? ⟨w.heap.size, 7, none⟩ = some (.int .i64 t.tz) := hI.rg 7 (.int .i64 t.tz) rfl
  go_wp2_with fail
  refine (WT _).out.mono ?_
  rintro e w3 ⟨rfl, hb1⟩
  have hI := hI.next hb1
  have hB := hB.trans (hb1.mono hB.size)
  clear hb1
  clear y0 y2 y3 y4 y5 y6 y7
  have y0 : w3.cell? ⟨w.heap.size, 0, none⟩ = some (.int .i64 t.kind) := hI.rg 0 (.int .i64 t.kind) rfl
  have y2 : w3.cell? ⟨w.heap.size, 2, none⟩ = some (.int .i64 t.fx) := hI.rg 2 (.int .i64 t.fx) rfl
  have y3 : w3.cell? ⟨w.heap.size, 3, none⟩ = some (.int .i64 t.fy) := hI.rg 3 (.int .i64 t.fy) rfl
  have y4 : w3.cell? ⟨w.heap.size, 4, none⟩ = some (.int .i64 t.fz) := hI.rg 4 (.int .i64 t.fz) rfl
  have y5 : w3.cell? ⟨w.heap.size, 5, none⟩ = some (.int .i64 t.tx) := hI.rg 5 (.int .i64 t.tx) rfl
  have y6 : w3.cell? ⟨w.heap.size, 6, none⟩ = some (.int .i64 t.ty) := hI.rg 6 (.int .i64 t.ty) rfl
  have y7 : w3.cell? ⟨w.heap.size, 7, none⟩ = some (.int .i64 t.tz) := hI.rg 7 (.int .i64 t.tz) rfl
  go_wp2_with fail
  go_ret
  exact ⟨by first | rfl | simp, hB⟩
theorem ValidR_yes (t : Itm) (w : World) (h : t.Val) : Calls Try.prog 21 #[.agg #[.int .i64 t.kind, .int .i64 t.block, .int .i64 t.fx, .int .i64 t.fy, .int .i64 t.fz, .int .i64 t.tx, .int .i64 t.ty, .int .i64 t.tz, .int .i64 t.plane, .int .i64 t.cx, .int .i64 t.cy, .int .i64 t.cz, .int .i64 t.dir, .bool t.full, .int .i64 t.feed, .bool t.perrev, .int .i64 t.side, .int .i64 t.radius, .int .i64 t.blend, .int .i64 t.n, .int .i64 t.speed, .bool t.on]] w fun e w' => e = .returned (.bool true) ∧ Below w.heap.size w w' := by
  obtain ⟨⟨k1, k2⟩, hf, ht, ho⟩ := h
  by_cases h3 : t.kind = 3
  · exact ValidR_true t w (ho h3)
  · exact Val_lR t w k1 k2 (smB_iff.2 hf) (smB_iff.2 ht) h3
theorem ValidR_no (t : Itm) (w : World) (h : ¬ t.Val) : Calls Try.prog 21 #[.agg #[.int .i64 t.kind, .int .i64 t.block, .int .i64 t.fx, .int .i64 t.fy, .int .i64 t.fz, .int .i64 t.tx, .int .i64 t.ty, .int .i64 t.tz, .int .i64 t.plane, .int .i64 t.cx, .int .i64 t.cy, .int .i64 t.cz, .int .i64 t.dir, .bool t.full, .int .i64 t.feed, .bool t.perrev, .int .i64 t.side, .int .i64 t.radius, .int .i64 t.blend, .int .i64 t.n, .int .i64 t.speed, .bool t.on]] w fun e w' => e = .returned (.bool false) ∧ Below w.heap.size w w' := by
  by_cases k1 : 1 ≤ t.kind
  · by_cases k2 : t.kind ≤ 6
    · cases hf : smB 1048576 t.fx t.fy t.fz with
      | false => exact Val_fR t w k1 k2 hf
      | true =>
        cases ht : smB 1048576 t.tx t.ty t.tz with
        | false => exact Val_tR t w k1 k2 hf ht
        | true =>
          by_cases h3 : t.kind = 3
          · exact ValidR_false t w h3 (smB_iff.1 hf) (smB_iff.1 ht) (fun ho => h ⟨⟨k1, k2⟩, smB_iff.1 hf, smB_iff.1 ht, fun _ => ho⟩)
          · exact absurd ⟨⟨k1, k2⟩, smB_iff.1 hf, smB_iff.1 ht, fun e => absurd e h3⟩ h
    · exact Val_kR t w (Or.inr (by omega))
  · exact Val_kR t w (Or.inl (by omega))
set_option maxHeartbeats 4000000 in
set_option maxRecDepth 40000 in
theorem spkP_no (t : Itm) (w : World) (h : ¬ t.kind = 3) : Calls Try.prog 13 #[.agg #[.int .i64 t.kind, .int .i64 t.block, .int .i64 t.fx, .int .i64 t.fy, .int .i64 t.fz, .int .i64 t.tx, .int .i64 t.ty, .int .i64 t.tz, .int .i64 t.plane, .int .i64 t.cx, .int .i64 t.cy, .int .i64 t.cz, .int .i64 t.dir, .bool t.full, .int .i64 t.feed, .bool t.perrev, .int .i64 t.side, .int .i64 t.radius, .int .i64 t.blend, .int .i64 t.n, .int .i64 t.speed, .bool t.on]] w fun e w' => e = .returned (.tuple #[.slice none 0 0, .bool false]) ∧ Below w.heap.size w w' := by
  have hI : ItC t w.heap.size (w.alloc (.cells #[.int .i64 t.kind, .int .i64 t.block, .int .i64 t.fx, .int .i64 t.fy, .int .i64 t.fz, .int .i64 t.tx, .int .i64 t.ty, .int .i64 t.tz, .int .i64 t.plane, .int .i64 t.cx, .int .i64 t.cy, .int .i64 t.cz, .int .i64 t.dir, .bool t.full, .int .i64 t.feed, .bool t.perrev, .int .i64 t.side, .int .i64 t.radius, .int .i64 t.blend, .int .i64 t.n, .int .i64 t.speed, .bool t.on] 27)) := ItC.fresh t w _ rfl
  have hB : Below w.heap.size w (w.alloc (.cells #[.int .i64 t.kind, .int .i64 t.block, .int .i64 t.fx, .int .i64 t.fy, .int .i64 t.fz, .int .i64 t.tx, .int .i64 t.ty, .int .i64 t.tz, .int .i64 t.plane, .int .i64 t.cx, .int .i64 t.cy, .int .i64 t.cz, .int .i64 t.dir, .bool t.full, .int .i64 t.feed, .bool t.perrev, .int .i64 t.side, .int .i64 t.radius, .int .i64 t.blend, .int .i64 t.n, .int .i64 t.speed, .bool t.on] 27)) := (Below.refl _ _).alloc (Nat.le_refl _) _

  go_enter Try.func13, Try.ntmps13
  go_upto_region 1 with fail
  refine wp_cls (fun wr => ItC t w.heap.size wr ∧ Below w.heap.size w wr) ⟨hI, hB⟩ ?_
  clear hI hB
  rintro w0 ⟨hI, hB⟩
  have y0 : w0.cell? ⟨w.heap.size, 0, none⟩ = some (.int .i64 t.kind) := hI.rg 0 (.int .i64 t.kind) rfl
  have y2 : w0.cell? ⟨w.heap.size, 2, none⟩ = some (.int .i64 t.fx) := hI.rg 2 (.int .i64 t.fx) rfl
  have y3 : w0.cell? ⟨w.heap.size, 3, none⟩ = some (.int .i64 t.fy) := hI.rg 3 (.int .i64 t.fy) rfl
  have y4 : w0.cell? ⟨w.heap.size, 4, none⟩ = some (.int .i64 t.fz) := hI.rg 4 (.int .i64 t.fz) rfl
  have y5 : w0.cell? ⟨w.heap.size, 5, none⟩ = some (.int .i64 t.tx) := hI.rg 5 (.int .i64 t.tx) rfl
  have y6 : w0.cell? ⟨w.heap.size, 6, none⟩ = some (.int .i64 t.ty) := hI.rg 6 (.int .i64 t.ty) rfl
  have y7 : w0.cell? ⟨w.heap.size, 7, none⟩ = some (.int .i64 t.tz) := hI.rg 7 (.int .i64 t.tz) rfl

  go_wp2_with fail
  go_ret2
  exact ⟨rfl, hB⟩
set_option maxHeartbeats 4000000 in
set_option maxRecDepth 40000 in
theorem spkP_inv (t : Itm) (w : World) (h : t.kind = 3) (hv : ¬ t.Val) : Calls Try.prog 13 #[.agg #[.int .i64 t.kind, .int .i64 t.block, .int .i64 t.fx, .int .i64 t.fy, .int .i64 t.fz, .int .i64 t.tx, .int .i64 t.ty, .int .i64 t.tz, .int .i64 t.plane, .int .i64 t.cx, .int .i64 t.cy, .int .i64 t.cz, .int .i64 t.dir, .bool t.full, .int .i64 t.feed, .bool t.perrev, .int .i64 t.side, .int .i64 t.radius, .int .i64 t.blend, .int .i64 t.n, .int .i64 t.speed, .bool t.on]] w fun e w' => e = .returned (.tuple #[.slice none 0 0, .bool false]) ∧ Below w.heap.size w w' := by
  have VL := fun w => Lib.hid (ValidP_no t w hv)
  have HK := Lib.hid h
  clear h hv
  have hI : ItC t w.heap.size (w.alloc (.cells #[.int .i64 t.kind, .int .i64 t.block, .int .i64 t.fx, .int .i64 t.fy, .int .i64 t.fz, .int .i64 t.tx, .int .i64 t.ty, .int .i64 t.tz, .int .i64 t.plane, .int .i64 t.cx, .int .i64 t.cy, .int .i64 t.cz, .int .i64 t.dir, .bool t.full, .int .i64 t.feed, .bool t.perrev, .int .i64 t.side, .int .i64 t.radius, .int .i64 t.blend, .int .i64 t.n, .int .i64 t.speed, .bool t.on] 27)) := ItC.fresh t w _ rfl
  have hB : Below w.heap.size w (w.alloc (.cells #[.int .i64 t.kind, .int .i64 t.block, .int .i64 t.fx, .int .i64 t.fy, .int .i64 t.fz, .int .i64 t.tx, .int .i64 t.ty, .int .i64 t.tz, .int .i64 t.plane, .int .i64 t.cx, .int .i64 t.cy, .int .i64 t.cz, .int .i64 t.dir, .bool t.full, .int .i64 t.feed, .bool t.perrev, .int .i64 t.side, .int .i64 t.radius, .int .i64 t.blend, .int .i64 t.n, .int .i64 t.speed, .bool t.on] 27)) := (Below.refl _ _).alloc (Nat.le_refl _) _

  go_enter Try.func13, Try.ntmps13
  go_upto_region 1 with fail
  refine wp_cls (fun wr => ItC t w.heap.size wr ∧ Below w.heap.size w wr) ⟨hI, hB⟩ ?_
  clear hI hB
  rintro w0 ⟨hI, hB⟩

  have yk : w0.cell? ⟨w.heap.size, 0, none⟩ = some (.int .i64 3) := HK.out ▸ (hI.rg 0 (.int .i64 t.kind) rfl : w0.cell? ⟨w.heap.size, 0, none⟩ = some (.int .i64 t.kind))
  go_wp2_with (refine wpList_load_g (by rfl) 27 (.tmp 1) rfl w.heap.size 0 rfl (itL t) _ hI.rg Try.underlying27 rfl (by kernel_rfl) ?_)
  refine (VL _).out.mono ?_
  rintro e w1 ⟨rfl, hb1⟩
  have hI := hI.next hb1
  have hB := hB.trans (hb1.mono hB.size)
  clear hb1

  go_wp2_with fail
  go_ret2
  exact ⟨rfl, hB⟩
set_option maxHeartbeats 4000000 in
set_option maxRecDepth 40000 in
theorem chP_inv (t : Itm) (w : World) (hv : ¬ t.Val) : Calls Try.prog 18 #[.agg #[.int .i64 t.kind, .int .i64 t.block, .int .i64 t.fx, .int .i64 t.fy, .int .i64 t.fz, .int .i64 t.tx, .int .i64 t.ty, .int .i64 t.tz, .int .i64 t.plane, .int .i64 t.cx, .int .i64 t.cy, .int .i64 t.cz, .int .i64 t.dir, .bool t.full, .int .i64 t.feed, .bool t.perrev, .int .i64 t.side, .int .i64 t.radius, .int .i64 t.blend, .int .i64 t.n, .int .i64 t.speed, .bool t.on]] w fun e w' => e = .returned (.tuple #[.slice none 0 0, .bool false]) ∧ Below w.heap.size w w' := by
  have VL := fun w => Lib.hid (ValidP_no t w hv)
  clear hv
  have hI : ItC t w.heap.size (w.alloc (.cells #[.int .i64 t.kind, .int .i64 t.block, .int .i64 t.fx, .int .i64 t.fy, .int .i64 t.fz, .int .i64 t.tx, .int .i64 t.ty, .int .i64 t.tz, .int .i64 t.plane, .int .i64 t.cx, .int .i64 t.cy, .int .i64 t.cz, .int .i64 t.dir, .bool t.full, .int .i64 t.feed, .bool t.perrev, .int .i64 t.side, .int .i64 t.radius, .int .i64 t.blend, .int .i64 t.n, .int .i64 t.speed, .bool t.on] 27)) := ItC.fresh t w _ rfl
  have hB : Below w.heap.size w (w.alloc (.cells #[.int .i64 t.kind, .int .i64 t.block, .int .i64 t.fx, .int .i64 t.fy, .int .i64 t.fz, .int .i64 t.tx, .int .i64 t.ty, .int .i64 t.tz, .int .i64 t.plane, .int .i64 t.cx, .int .i64 t.cy, .int .i64 t.cz, .int .i64 t.dir, .bool t.full, .int .i64 t.feed, .bool t.perrev, .int .i64 t.side, .int .i64 t.radius, .int .i64 t.blend, .int .i64 t.n, .int .i64 t.speed, .bool t.on] 27)) := (Below.refl _ _).alloc (Nat.le_refl _) _

  go_enter Try.func18, Try.ntmps18
  go_upto_region 1 with fail
  refine wp_cls (fun wr => ItC t w.heap.size wr ∧ Below w.heap.size w wr) ⟨hI, hB⟩ ?_
  clear hI hB
  rintro w0 ⟨hI, hB⟩

  go_wp2_with (refine wpList_load_g (by rfl) 27 (.tmp 1) rfl w.heap.size 0 rfl (itL t) _ hI.rg Try.underlying27 rfl (by kernel_rfl) ?_)
  refine (VL _).out.mono ?_
  rintro e w1 ⟨rfl, hb1⟩
  have hI := hI.next hb1
  have hB := hB.trans (hb1.mono hB.size)
  clear hb1

  go_wp2_with fail
  go_ret2
  exact ⟨rfl, hB⟩
structure ClP (t : Itm) (b : Nat) (w0 : World) (A : Act) (L : Nat → Bool) (a : Act) (w : World) : Prop where
  off : OffOf [22, 23, 24, 25, 26, 27, 28, 2, 3] A a
  be : Below w0.heap.size w0 w
  it : ItC t b w
  k0 : L 0 = true → a.tmps[22]? = some (.pointer (some ⟨b, 2, none⟩))
  k1 : L 1 = true → a.tmps[23]? = some (.agg #[.int .i64 (t.fx), .int .i64 (t.fy), .int .i64 (t.fz)])
  k2 : L 2 = true → a.tmps[24]? = some (.agg #[.int .i64 (t.fx * 16), .int .i64 (t.fy * 16), .int .i64 (t.fz * 16)])
  k3 : L 3 = true → a.tmps[25]? = some (.pointer (some ⟨b, 5, none⟩))
  k4 : L 4 = true → a.tmps[26]? = some (.agg #[.int .i64 (t.tx), .int .i64 (t.ty), .int .i64 (t.tz)])
  k5 : L 5 = true → a.tmps[27]? = some (.agg #[.int .i64 (t.tx * 16), .int .i64 (t.ty * 16), .int .i64 (t.tz * 16)])
  k6 : L 6 = true → ∃ (h : Nat), a.tmps[28]? = some (.slice (some ⟨h, 0, none⟩) 2 2) ∧ Row h 6 6 (fun j => .int .i64 (lnF t (j / 3) (j % 3))) w ∧ w0.heap.size ≤ h
  k7 : L 7 = true → ∃ (h : Nat), a.tmps[2]? = some (.slice (some ⟨h, 0, none⟩) 2 2) ∧ Row h 6 6 (fun j => .int .i64 (lnF t (j / 3) (j % 3))) w ∧ w0.heap.size ≤ h
  k8 : L 8 = true → a.tmps[3]? = some (.bool true)
set_option maxHeartbeats 8000000 in
set_option maxRecDepth 40000 in
theorem chP_line (t : Itm) (w : World) (hv : t.Val) (h3 : ¬ t.kind = 3) : Calls Try.prog 18 #[.agg #[.int .i64 t.kind, .int .i64 t.block, .int .i64 t.fx, .int .i64 t.fy, .int .i64 t.fz, .int .i64 t.tx, .int .i64 t.ty, .int .i64 t.tz, .int .i64 t.plane, .int .i64 t.cx, .int .i64 t.cy, .int .i64 t.cz, .int .i64 t.dir, .bool t.full, .int .i64 t.feed, .bool t.perrev, .int .i64 t.side, .int .i64 t.radius, .int .i64 t.blend, .int .i64 t.n, .int .i64 t.speed, .bool t.on]] w (ChordsPost 2 (lnF t) w) := by
  have VL := fun w => Lib.hid (ValidP_yes t w hv)
  have SL := fun w => Lib.hid (spkP_no t w h3)
  obtain ⟨hk, ⟨⟨f1, f2⟩, ⟨f3, f4⟩, f5, f6⟩, ⟨⟨t1, t2⟩, ⟨t3, t4⟩, t5, t6⟩, -⟩ := hv
  clear hk h3
  have SF := fun w => Lib.hid (scaledP_any t.fx t.fy t.fz w ⟨by omega, by omega⟩ ⟨by omega, by omega⟩ ⟨by omega, by omega⟩)
  have ST := fun w => Lib.hid (scaledP_any t.tx t.ty t.tz w ⟨by omega, by omega⟩ ⟨by omega, by omega⟩ ⟨by omega, by omega⟩)
  clear f1 f2 f3 f4 f5 f6 t1 t2 t3 t4 t5 t6
  have hI : ItC t w.heap.size (w.alloc (.cells #[.int .i64 t.kind, .int .i64 t.block, .int .i64 t.fx, .int .i64 t.fy, .int .i64 t.fz, .int .i64 t.tx, .int .i64 t.ty, .int .i64 t.tz, .int .i64 t.plane, .int .i64 t.cx, .int .i64 t.cy, .int .i64 t.cz, .int .i64 t.dir, .bool t.full, .int .i64 t.feed, .bool t.perrev, .int .i64 t.side, .int .i64 t.radius, .int .i64 t.blend, .int .i64 t.n, .int .i64 t.speed, .bool t.on] 27)) := ItC.fresh t w _ rfl
  have hB : Below w.heap.size w (w.alloc (.cells #[.int .i64 t.kind, .int .i64 t.block, .int .i64 t.fx, .int .i64 t.fy, .int .i64 t.fz, .int .i64 t.tx, .int .i64 t.ty, .int .i64 t.tz, .int .i64 t.plane, .int .i64 t.cx, .int .i64 t.cy, .int .i64 t.cz, .int .i64 t.dir, .bool t.full, .int .i64 t.feed, .bool t.perrev, .int .i64 t.side, .int .i64 t.radius, .int .i64 t.blend, .int .i64 t.n, .int .i64 t.speed, .bool t.on] 27)) := (Below.refl _ _).alloc (Nat.le_refl _) _

  go_enter Try.func18, Try.ntmps18
  go_upto_region 1 with fail
  refine wp_cls (fun wr => ItC t w.heap.size wr ∧ Below w.heap.size w wr) ⟨hI, hB⟩ ?_
  clear hI hB
  rintro w0 ⟨hI, hB⟩

  go_wp2_with (refine wpList_load_g (by rfl) 27 (.tmp 1) rfl w.heap.size 0 rfl (itL t) _ hI.rg Try.underlying27 rfl (by kernel_rfl) ?_)
  refine (VL _).out.mono ?_
  rintro e w1 ⟨rfl, hb1⟩
  have hI := hI.next hb1
  have hB := hB.trans (hb1.mono hB.size)
  clear hb1

  go_wp2_with (refine wpList_load_g (by rfl) 27 (.tmp 1) rfl w.heap.size 0 rfl (itL t) _ hI.rg Try.underlying27 rfl (by kernel_rfl) ?_)
  refine (SL _).out.mono ?_
  rintro e w2 ⟨rfl, hb1⟩
  have hI := hI.next hb1
  have hB := hB.trans (hb1.mono hB.size)
  clear hb1

  go_upto_region 5 with fail
  generalize hA : (Act.mk _ _) = A
  have hsz : A.tmps.size = 67 := by rw [← hA]; rfl
  have hA1 : A.tmps[1]? = some (.pointer (some ⟨w.heap.size, 0, none⟩)) := by rw [← hA]; rfl
  have HA := Lib.hid hA
  clear hA
  refine wp_region_inv (fun L aa wx => ClP t w.heap.size w A L aa wx) (by kernel_rfl) (by kernel_rfl) ?_ ?_ ?_
  · have hD := (Below.refl w2.heap.size w2).drew
    exact (by constructor <;> first | exact OffOf.refl _ _ | exact hB.drew | exact hI.next hD | (intro h; exact nomatch h) | (intro h _; exact nomatch h))
  · intro i o ho L aa wx h' hLi hdeps K hK'
    match i, ho, hLi, hK' with
    | 0, ho, hLi, hK' =>
      cases ho
      have ea := (h'.off.off 1 (by decide)).trans hA1
      go_simp
      exact hK' _ _ { off := h'.off.put (by decide) _, be := h'.be, it := h'.it, k0 := fun _ => put_at _ (by have := h'.off.size; omega), k1 := fun q => put_ne _ (by decide) (h'.k1 (by simpa using q)), k2 := fun q => put_ne _ (by decide) (h'.k2 (by simpa using q)), k3 := fun q => put_ne _ (by decide) (h'.k3 (by simpa using q)), k4 := fun q => put_ne _ (by decide) (h'.k4 (by simpa using q)), k5 := fun q => put_ne _ (by decide) (h'.k5 (by simpa using q)), k6 := fun q => (h'.k6 (by simpa using q)).imp fun _ g => ⟨put_ne _ (by decide) (g.1), g.2.1, g.2.2⟩, k7 := fun q => (h'.k7 (by simpa using q)).imp fun _ g => ⟨put_ne _ (by decide) (g.1), g.2.1, g.2.2⟩, k8 := fun q => put_ne _ (by decide) (h'.k8 (by simpa using q)) }
    | 1, ho, hLi, hK' =>
      cases ho
      have ea := h'.k0 (hdeps ⟨0, .data⟩ (by simp) (by rfl))
      have y2 : wx.cell? ⟨w.heap.size, 2, none⟩ = some (.int .i64 t.fx) := h'.it.rg 2 (.int .i64 t.fx) rfl
      have y3 : wx.cell? ⟨w.heap.size, 3, none⟩ = some (.int .i64 t.fy) := h'.it.rg 3 (.int .i64 t.fy) rfl
      have y4 : wx.cell? ⟨w.heap.size, 4, none⟩ = some (.int .i64 t.fz) := h'.it.rg 4 (.int .i64 t.fz) rfl
      go_simp
      exact hK' _ _ { off := h'.off.put (by decide) _, be := h'.be, it := h'.it, k0 := fun q => put_ne _ (by decide) (h'.k0 (by simpa using q)), k1 := fun _ => put_at _ (by have := h'.off.size; omega), k2 := fun q => put_ne _ (by decide) (h'.k2 (by simpa using q)), k3 := fun q => put_ne _ (by decide) (h'.k3 (by simpa using q)), k4 := fun q => put_ne _ (by decide) (h'.k4 (by simpa using q)), k5 := fun q => put_ne _ (by decide) (h'.k5 (by simpa using q)), k6 := fun q => (h'.k6 (by simpa using q)).imp fun _ g => ⟨put_ne _ (by decide) (g.1), g.2.1, g.2.2⟩, k7 := fun q => (h'.k7 (by simpa using q)).imp fun _ g => ⟨put_ne _ (by decide) (g.1), g.2.1, g.2.2⟩, k8 := fun q => put_ne _ (by decide) (h'.k8 (by simpa using q)) }
    | 2, ho, hLi, hK' =>
      cases ho
      have ea := h'.k1 (hdeps ⟨1, .data⟩ (by simp) (by rfl))
      go_simp
      refine (SF wx).out.mono ?_
      rintro e w2 ⟨rfl, hb⟩
      exact hK' _ _ { off := h'.off.put (by decide) _, be := h'.be.trans (hb.mono h'.be.size), it := h'.it.next hb, k0 := fun q => put_ne _ (by decide) (h'.k0 (by simpa using q)), k1 := fun q => put_ne _ (by decide) (h'.k1 (by simpa using q)), k2 := fun _ => put_at _ (by have := h'.off.size; omega), k3 := fun q => put_ne _ (by decide) (h'.k3 (by simpa using q)), k4 := fun q => put_ne _ (by decide) (h'.k4 (by simpa using q)), k5 := fun q => put_ne _ (by decide) (h'.k5 (by simpa using q)), k6 := fun q => (h'.k6 (by simpa using q)).imp fun _ g => ⟨put_ne _ (by decide) (g.1), (g.2.1).next hb, g.2.2⟩, k7 := fun q => (h'.k7 (by simpa using q)).imp fun _ g => ⟨put_ne _ (by decide) (g.1), (g.2.1).next hb, g.2.2⟩, k8 := fun q => put_ne _ (by decide) (h'.k8 (by simpa using q)) }
    | 3, ho, hLi, hK' =>
      cases ho
      have ea := (h'.off.off 1 (by decide)).trans hA1
      go_simp
      exact hK' _ _ { off := h'.off.put (by decide) _, be := h'.be, it := h'.it, k0 := fun q => put_ne _ (by decide) (h'.k0 (by simpa using q)), k1 := fun q => put_ne _ (by decide) (h'.k1 (by simpa using q)), k2 := fun q => put_ne _ (by decide) (h'.k2 (by simpa using q)), k3 := fun _ => put_at _ (by have := h'.off.size; omega), k4 := fun q => put_ne _ (by decide) (h'.k4 (by simpa using q)), k5 := fun q => put_ne _ (by decide) (h'.k5 (by simpa using q)), k6 := fun q => (h'.k6 (by simpa using q)).imp fun _ g => ⟨put_ne _ (by decide) (g.1), g.2.1, g.2.2⟩, k7 := fun q => (h'.k7 (by simpa using q)).imp fun _ g => ⟨put_ne _ (by decide) (g.1), g.2.1, g.2.2⟩, k8 := fun q => put_ne _ (by decide) (h'.k8 (by simpa using q)) }
    | 4, ho, hLi, hK' =>
      cases ho
      have ea := h'.k3 (hdeps ⟨3, .data⟩ (by simp) (by rfl))
      have y5 : wx.cell? ⟨w.heap.size, 5, none⟩ = some (.int .i64 t.tx) := h'.it.rg 5 (.int .i64 t.tx) rfl
      have y6 : wx.cell? ⟨w.heap.size, 6, none⟩ = some (.int .i64 t.ty) := h'.it.rg 6 (.int .i64 t.ty) rfl
      have y7 : wx.cell? ⟨w.heap.size, 7, none⟩ = some (.int .i64 t.tz) := h'.it.rg 7 (.int .i64 t.tz) rfl
      go_simp
      exact hK' _ _ { off := h'.off.put (by decide) _, be := h'.be, it := h'.it, k0 := fun q => put_ne _ (by decide) (h'.k0 (by simpa using q)), k1 := fun q => put_ne _ (by decide) (h'.k1 (by simpa using q)), k2 := fun q => put_ne _ (by decide) (h'.k2 (by simpa using q)), k3 := fun q => put_ne _ (by decide) (h'.k3 (by simpa using q)), k4 := fun _ => put_at _ (by have := h'.off.size; omega), k5 := fun q => put_ne _ (by decide) (h'.k5 (by simpa using q)), k6 := fun q => (h'.k6 (by simpa using q)).imp fun _ g => ⟨put_ne _ (by decide) (g.1), g.2.1, g.2.2⟩, k7 := fun q => (h'.k7 (by simpa using q)).imp fun _ g => ⟨put_ne _ (by decide) (g.1), g.2.1, g.2.2⟩, k8 := fun q => put_ne _ (by decide) (h'.k8 (by simpa using q)) }
    | 5, ho, hLi, hK' =>
      cases ho
      have ea := h'.k4 (hdeps ⟨4, .data⟩ (by simp) (by rfl))
      go_simp
      refine (ST wx).out.mono ?_
      rintro e w2 ⟨rfl, hb⟩
      exact hK' _ _ { off := h'.off.put (by decide) _, be := h'.be.trans (hb.mono h'.be.size), it := h'.it.next hb, k0 := fun q => put_ne _ (by decide) (h'.k0 (by simpa using q)), k1 := fun q => put_ne _ (by decide) (h'.k1 (by simpa using q)), k2 := fun q => put_ne _ (by decide) (h'.k2 (by simpa using q)), k3 := fun q => put_ne _ (by decide) (h'.k3 (by simpa using q)), k4 := fun q => put_ne _ (by decide) (h'.k4 (by simpa using q)), k5 := fun _ => put_at _ (by have := h'.off.size; omega), k6 := fun q => (h'.k6 (by simpa using q)).imp fun _ g => ⟨put_ne _ (by decide) (g.1), (g.2.1).next hb, g.2.2⟩, k7 := fun q => (h'.k7 (by simpa using q)).imp fun _ g => ⟨put_ne _ (by decide) (g.1), (g.2.1).next hb, g.2.2⟩, k8 := fun q => put_ne _ (by decide) (h'.k8 (by simpa using q)) }
    | 6, ho, hLi, hK' =>
      cases ho
      have ea := h'.k2 (hdeps ⟨2, .data⟩ (by simp) (by rfl))
      have eb := h'.k5 (hdeps ⟨5, .data⟩ (by simp) (by rfl))
      have hb := (Below.refl wx.heap.size wx).alloc (Nat.le_refl _) (.cells #[.int .i64 (t.fx * 16), .int .i64 (t.fy * 16), .int .i64 (t.fz * 16), .int .i64 (t.tx * 16), .int .i64 (t.ty * 16), .int .i64 (t.tz * 16)] 47)
      have hrow := Row.lit wx [t.fx * 16, t.fy * 16, t.fz * 16, t.tx * 16, t.ty * 16, t.tz * 16] 47 (fun j => .int .i64 (lnF t (j / 3) (j % 3))) (lnF_at t)
      have hbz := h'.be.size
      go_simp
      exact hK' _ _ { off := h'.off.put (by decide) _, be := h'.be.trans (hb.mono h'.be.size), it := h'.it.next hb, k0 := fun q => put_ne _ (by decide) (h'.k0 (by simpa using q)), k1 := fun q => put_ne _ (by decide) (h'.k1 (by simpa using q)), k2 := fun q => put_ne _ (by decide) (h'.k2 (by simpa using q)), k3 := fun q => put_ne _ (by decide) (h'.k3 (by simpa using q)), k4 := fun q => put_ne _ (by decide) (h'.k4 (by simpa using q)), k5 := fun q => put_ne _ (by decide) (h'.k5 (by simpa using q)), k6 := fun _ => ⟨wx.heap.size, put_at _ (by have := h'.off.size; omega), hrow, hbz⟩, k7 := fun q => (h'.k7 (by simpa using q)).imp fun _ g => ⟨put_ne _ (by decide) (g.1), (g.2.1).next hb, g.2.2⟩, k8 := fun q => put_ne _ (by decide) (h'.k8 (by simpa using q)) }
    | 7, ho, hLi, hK' =>
      cases ho
      obtain ⟨h6, ea, q60, q61⟩ := h'.k6 (hdeps ⟨6, .data⟩ (by simp) (by rfl))
      go_simp
      exact hK' _ _ { off := h'.off.put (by decide) _, be := h'.be, it := h'.it, k0 := fun q => put_ne _ (by decide) (h'.k0 (by simpa using q)), k1 := fun q => put_ne _ (by decide) (h'.k1 (by simpa using q)), k2 := fun q => put_ne _ (by decide) (h'.k2 (by simpa using q)), k3 := fun q => put_ne _ (by decide) (h'.k3 (by simpa using q)), k4 := fun q => put_ne _ (by decide) (h'.k4 (by simpa using q)), k5 := fun q => put_ne _ (by decide) (h'.k5 (by simpa using q)), k6 := fun q => (h'.k6 (by simpa using q)).imp fun _ g => ⟨put_ne _ (by decide) (g.1), g.2.1, g.2.2⟩, k7 := fun _ => ⟨h6, put_at _ (by have := h'.off.size; omega), q60, q61⟩, k8 := fun q => put_ne _ (by decide) (h'.k8 (by simpa using q)) }
    | 8, ho, hLi, hK' =>
      cases ho
      go_simp
      exact hK' _ _ { off := h'.off.put (by decide) _, be := h'.be, it := h'.it, k0 := fun q => put_ne _ (by decide) (h'.k0 (by simpa using q)), k1 := fun q => put_ne _ (by decide) (h'.k1 (by simpa using q)), k2 := fun q => put_ne _ (by decide) (h'.k2 (by simpa using q)), k3 := fun q => put_ne _ (by decide) (h'.k3 (by simpa using q)), k4 := fun q => put_ne _ (by decide) (h'.k4 (by simpa using q)), k5 := fun q => put_ne _ (by decide) (h'.k5 (by simpa using q)), k6 := fun q => (h'.k6 (by simpa using q)).imp fun _ g => ⟨put_ne _ (by decide) (g.1), g.2.1, g.2.2⟩, k7 := fun q => (h'.k7 (by simpa using q)).imp fun _ g => ⟨put_ne _ (by decide) (g.1), g.2.1, g.2.2⟩, k8 := fun _ => put_at _ (by have := h'.off.size; omega) }
    | i + 9, ho, hLi, hK' => cases ho
  · intro L aa wx h' hall
    have z_0 := h'.k0 (hall 0 (by decide))
    have z_1 := h'.k1 (hall 1 (by decide))
    have z_2 := h'.k2 (hall 2 (by decide))
    have z_3 := h'.k3 (hall 3 (by decide))
    have z_4 := h'.k4 (hall 4 (by decide))
    have z_5 := h'.k5 (hall 5 (by decide))
    obtain ⟨h_6, z_6, hL_6, hh_6⟩ := h'.k6 (hall 6 (by decide))
    obtain ⟨h_7, z_7, hL_7, hh_7⟩ := h'.k7 (hall 7 (by decide))
    have z_8 := h'.k8 (hall 8 (by decide))
    have hfr := h'.off.rebuild (fun d' => if d' = 22 then .pointer (some ⟨w.heap.size, 2, none⟩) else if d' = 23 then .agg #[.int .i64 (t.fx), .int .i64 (t.fy), .int .i64 (t.fz)] else if d' = 24 then .agg #[.int .i64 (t.fx * 16), .int .i64 (t.fy * 16), .int .i64 (t.fz * 16)] else if d' = 25 then .pointer (some ⟨w.heap.size, 5, none⟩) else if d' = 26 then .agg #[.int .i64 (t.tx), .int .i64 (t.ty), .int .i64 (t.tz)] else if d' = 27 then .agg #[.int .i64 (t.tx * 16), .int .i64 (t.ty * 16), .int .i64 (t.tz * 16)] else if d' = 28 then .slice (some ⟨h_6, 0, none⟩) 2 2 else if d' = 2 then .slice (some ⟨h_7, 0, none⟩) 2 2 else if d' = 3 then .bool true else undef) (by
      intro d' hd'
      simp only [List.mem_cons, List.not_mem_nil, or_false] at hd'
      rcases hd' with rfl | rfl | rfl | rfl | rfl | rfl | rfl | rfl | rfl
      · exact z_0
      · exact z_1
      · exact z_2
      · exact z_3
      · exact z_4
      · exact z_5
      · exact z_6
      · exact z_7
      · exact z_8
      )
    simp only [List.foldl_cons, List.foldl_nil] at hfr
    rw [← HA.out] at hfr
    have hB := h'.be
    rw [hfr]
    clear hfr h' hall HA hsz hA1 z_0 z_1 z_2 z_3 z_4 z_5 z_6 z_7 z_8
    simp [Act.put]
    go_wp2_with fail
    go_ret2
    exact ⟨h_7, 2, rfl, hh_7, hL_7, hB⟩
set_option maxHeartbeats 4000000 in
set_option maxRecDepth 40000 in
theorem spkR_no (t : Itm) (w : World) (h : ¬ t.kind = 3) : Calls Try.prog 17 #[.agg #[.int .i64 t.kind, .int .i64 t.block, .int .i64 t.fx, .int .i64 t.fy, .int .i64 t.fz, .int .i64 t.tx, .int .i64 t.ty, .int .i64 t.tz, .int .i64 t.plane, .int .i64 t.cx, .int .i64 t.cy, .int .i64 t.cz, .int .i64 t.dir, .bool t.full, .int .i64 t.feed, .bool t.perrev, .int .i64 t.side, .int .i64 t.radius, .int .i64 t.blend, .int .i64 t.n, .int .i64 t.speed, .bool t.on]] w fun e w' => e = .returned (.tuple #[.slice none 0 0, .bool false]) ∧ Below w.heap.size w w' := by
  have hI : ItC t w.heap.size (w.alloc (.cells #[.int .i64 t.kind, .int .i64 t.block, .int .i64 t.fx, .int .i64 t.fy, .int .i64 t.fz, .int .i64 t.tx, .int .i64 t.ty, .int .i64 t.tz, .int .i64 t.plane, .int .i64 t.cx, .int .i64 t.cy, .int .i64 t.cz, .int .i64 t.dir, .bool t.full, .int .i64 t.feed, .bool t.perrev, .int .i64 t.side, .int .i64 t.radius, .int .i64 t.blend, .int .i64 t.n, .int .i64 t.speed, .bool t.on] 27)) := ItC.fresh t w _ rfl
  have hB : Below w.heap.size w (w.alloc (.cells #[.int .i64 t.kind, .int .i64 t.block, .int .i64 t.fx, .int .i64 t.fy, .int .i64 t.fz, .int .i64 t.tx, .int .i64 t.ty, .int .i64 t.tz, .int .i64 t.plane, .int .i64 t.cx, .int .i64 t.cy, .int .i64 t.cz, .int .i64 t.dir, .bool t.full, .int .i64 t.feed, .bool t.perrev, .int .i64 t.side, .int .i64 t.radius, .int .i64 t.blend, .int .i64 t.n, .int .i64 t.speed, .bool t.on] 27)) := (Below.refl _ _).alloc (Nat.le_refl _) _

  go_enter Try.func17, Try.ntmps17
  go_upto_region 1 with fail
  refine wp_cls (fun wr => ItC t w.heap.size wr ∧ Below w.heap.size w wr) ⟨hI, hB⟩ ?_
  clear hI hB
  rintro w0 ⟨hI, hB⟩
  have y0 : w0.cell? ⟨w.heap.size, 0, none⟩ = some (.int .i64 t.kind) := hI.rg 0 (.int .i64 t.kind) rfl
  have y2 : w0.cell? ⟨w.heap.size, 2, none⟩ = some (.int .i64 t.fx) := hI.rg 2 (.int .i64 t.fx) rfl
  have y3 : w0.cell? ⟨w.heap.size, 3, none⟩ = some (.int .i64 t.fy) := hI.rg 3 (.int .i64 t.fy) rfl
  have y4 : w0.cell? ⟨w.heap.size, 4, none⟩ = some (.int .i64 t.fz) := hI.rg 4 (.int .i64 t.fz) rfl
  have y5 : w0.cell? ⟨w.heap.size, 5, none⟩ = some (.int .i64 t.tx) := hI.rg 5 (.int .i64 t.tx) rfl
  have y6 : w0.cell? ⟨w.heap.size, 6, none⟩ = some (.int .i64 t.ty) := hI.rg 6 (.int .i64 t.ty) rfl
  have y7 : w0.cell? ⟨w.heap.size, 7, none⟩ = some (.int .i64 t.tz) := hI.rg 7 (.int .i64 t.tz) rfl

  go_wp2_with fail
  go_ret2
  exact ⟨rfl, hB⟩
set_option maxHeartbeats 4000000 in
set_option maxRecDepth 40000 in
theorem spkR_inv (t : Itm) (w : World) (h : t.kind = 3) (hv : ¬ t.Val) : Calls Try.prog 17 #[.agg #[.int .i64 t.kind, .int .i64 t.block, .int .i64 t.fx, .int .i64 t.fy, .int .i64 t.fz, .int .i64 t.tx, .int .i64 t.ty, .int .i64 t.tz, .int .i64 t.plane, .int .i64 t.cx, .int .i64 t.cy, .int .i64 t.cz, .int .i64 t.dir, .bool t.full, .int .i64 t.feed, .bool t.perrev, .int .i64 t.side, .int .i64 t.radius, .int .i64 t.blend, .int .i64 t.n, .int .i64 t.speed, .bool t.on]] w fun e w' => e = .returned (.tuple #[.slice none 0 0, .bool false]) ∧ Below w.heap.size w w' := by
  have VL := fun w => Lib.hid (ValidR_no t w hv)
  have HK := Lib.hid h
  clear h hv
  have hI : ItC t w.heap.size (w.alloc (.cells #[.int .i64 t.kind, .int .i64 t.block, .int .i64 t.fx, .int .i64 t.fy, .int .i64 t.fz, .int .i64 t.tx, .int .i64 t.ty, .int .i64 t.tz, .int .i64 t.plane, .int .i64 t.cx, .int .i64 t.cy, .int .i64 t.cz, .int .i64 t.dir, .bool t.full, .int .i64 t.feed, .bool t.perrev, .int .i64 t.side, .int .i64 t.radius, .int .i64 t.blend, .int .i64 t.n, .int .i64 t.speed, .bool t.on] 27)) := ItC.fresh t w _ rfl
  have hB : Below w.heap.size w (w.alloc (.cells #[.int .i64 t.kind, .int .i64 t.block, .int .i64 t.fx, .int .i64 t.fy, .int .i64 t.fz, .int .i64 t.tx, .int .i64 t.ty, .int .i64 t.tz, .int .i64 t.plane, .int .i64 t.cx, .int .i64 t.cy, .int .i64 t.cz, .int .i64 t.dir, .bool t.full, .int .i64 t.feed, .bool t.perrev, .int .i64 t.side, .int .i64 t.radius, .int .i64 t.blend, .int .i64 t.n, .int .i64 t.speed, .bool t.on] 27)) := (Below.refl _ _).alloc (Nat.le_refl _) _

  go_enter Try.func17, Try.ntmps17
  go_upto_region 1 with fail
  refine wp_cls (fun wr => ItC t w.heap.size wr ∧ Below w.heap.size w wr) ⟨hI, hB⟩ ?_
  clear hI hB
  rintro w0 ⟨hI, hB⟩

  have yk : w0.cell? ⟨w.heap.size, 0, none⟩ = some (.int .i64 3) := HK.out ▸ (hI.rg 0 (.int .i64 t.kind) rfl : w0.cell? ⟨w.heap.size, 0, none⟩ = some (.int .i64 t.kind))
  go_wp2_with (refine wpList_load_g (by rfl) 27 (.tmp 1) rfl w.heap.size 0 rfl (itL t) _ hI.rg Try.underlying27 rfl (by kernel_rfl) ?_)
  refine (VL _).out.mono ?_
  rintro e w1 ⟨rfl, hb1⟩
  have hI := hI.next hb1
  have hB := hB.trans (hb1.mono hB.size)
  clear hb1

  go_wp2_with fail
  go_ret2
  exact ⟨rfl, hB⟩
set_option maxHeartbeats 4000000 in
set_option maxRecDepth 40000 in
theorem chR_inv (t : Itm) (w : World) (hv : ¬ t.Val) : Calls Try.prog 19 #[.agg #[.int .i64 t.kind, .int .i64 t.block, .int .i64 t.fx, .int .i64 t.fy, .int .i64 t.fz, .int .i64 t.tx, .int .i64 t.ty, .int .i64 t.tz, .int .i64 t.plane, .int .i64 t.cx, .int .i64 t.cy, .int .i64 t.cz, .int .i64 t.dir, .bool t.full, .int .i64 t.feed, .bool t.perrev, .int .i64 t.side, .int .i64 t.radius, .int .i64 t.blend, .int .i64 t.n, .int .i64 t.speed, .bool t.on]] w fun e w' => e = .returned (.tuple #[.slice none 0 0, .bool false]) ∧ Below w.heap.size w w' := by
  have VL := fun w => Lib.hid (ValidR_no t w hv)
  clear hv
  have hI : ItC t w.heap.size (w.alloc (.cells #[.int .i64 t.kind, .int .i64 t.block, .int .i64 t.fx, .int .i64 t.fy, .int .i64 t.fz, .int .i64 t.tx, .int .i64 t.ty, .int .i64 t.tz, .int .i64 t.plane, .int .i64 t.cx, .int .i64 t.cy, .int .i64 t.cz, .int .i64 t.dir, .bool t.full, .int .i64 t.feed, .bool t.perrev, .int .i64 t.side, .int .i64 t.radius, .int .i64 t.blend, .int .i64 t.n, .int .i64 t.speed, .bool t.on] 27)) := ItC.fresh t w _ rfl
  have hB : Below w.heap.size w (w.alloc (.cells #[.int .i64 t.kind, .int .i64 t.block, .int .i64 t.fx, .int .i64 t.fy, .int .i64 t.fz, .int .i64 t.tx, .int .i64 t.ty, .int .i64 t.tz, .int .i64 t.plane, .int .i64 t.cx, .int .i64 t.cy, .int .i64 t.cz, .int .i64 t.dir, .bool t.full, .int .i64 t.feed, .bool t.perrev, .int .i64 t.side, .int .i64 t.radius, .int .i64 t.blend, .int .i64 t.n, .int .i64 t.speed, .bool t.on] 27)) := (Below.refl _ _).alloc (Nat.le_refl _) _

  go_enter Try.func19, Try.ntmps19
  go_upto_region 1 with fail
  refine wp_cls (fun wr => ItC t w.heap.size wr ∧ Below w.heap.size w wr) ⟨hI, hB⟩ ?_
  clear hI hB
  rintro w0 ⟨hI, hB⟩

  go_wp2_with (refine wpList_load_g (by rfl) 27 (.tmp 1) rfl w.heap.size 0 rfl (itL t) _ hI.rg Try.underlying27 rfl (by kernel_rfl) ?_)
  refine (VL _).out.mono ?_
  rintro e w1 ⟨rfl, hb1⟩
  have hI := hI.next hb1
  have hB := hB.trans (hb1.mono hB.size)
  clear hb1

  go_wp2_with fail
  go_ret2
  exact ⟨rfl, hB⟩
structure ClR (t : Itm) (b : Nat) (w0 : World) (A : Act) (L : Nat → Bool) (a : Act) (w : World) : Prop where
  off : OffOf [22, 23, 24, 25, 26, 27, 28, 2, 3] A a
  be : Below w0.heap.size w0 w
  it : ItC t b w
  k0 : L 0 = true → a.tmps[22]? = some (.pointer (some ⟨b, 2, none⟩))
  k1 : L 1 = true → a.tmps[23]? = some (.agg #[.int .i64 (t.fx), .int .i64 (t.fy), .int .i64 (t.fz)])
  k2 : L 2 = true → a.tmps[24]? = some (.agg #[.int .i64 (t.fx * 16), .int .i64 (t.fy * 16), .int .i64 (t.fz * 16)])
  k3 : L 3 = true → a.tmps[25]? = some (.pointer (some ⟨b, 5, none⟩))
  k4 : L 4 = true → a.tmps[26]? = some (.agg #[.int .i64 (t.tx), .int .i64 (t.ty), .int .i64 (t.tz)])
  k5 : L 5 = true → a.tmps[27]? = some (.agg #[.int .i64 (t.tx * 16), .int .i64 (t.ty * 16), .int .i64 (t.tz * 16)])
  k6 : L 6 = true → ∃ (h : Nat), a.tmps[28]? = some (.slice (some ⟨h, 0, none⟩) 2 2) ∧ Row h 6 6 (fun j => .int .i64 (lnF t (j / 3) (j % 3))) w ∧ w0.heap.size ≤ h
  k7 : L 7 = true → ∃ (h : Nat), a.tmps[2]? = some (.slice (some ⟨h, 0, none⟩) 2 2) ∧ Row h 6 6 (fun j => .int .i64 (lnF t (j / 3) (j % 3))) w ∧ w0.heap.size ≤ h
  k8 : L 8 = true → a.tmps[3]? = some (.bool true)
set_option maxHeartbeats 8000000 in
set_option maxRecDepth 40000 in
theorem chR_line (t : Itm) (w : World) (hv : t.Val) (h3 : ¬ t.kind = 3) : Calls Try.prog 19 #[.agg #[.int .i64 t.kind, .int .i64 t.block, .int .i64 t.fx, .int .i64 t.fy, .int .i64 t.fz, .int .i64 t.tx, .int .i64 t.ty, .int .i64 t.tz, .int .i64 t.plane, .int .i64 t.cx, .int .i64 t.cy, .int .i64 t.cz, .int .i64 t.dir, .bool t.full, .int .i64 t.feed, .bool t.perrev, .int .i64 t.side, .int .i64 t.radius, .int .i64 t.blend, .int .i64 t.n, .int .i64 t.speed, .bool t.on]] w (ChordsPost 2 (lnF t) w) := by
  have VL := fun w => Lib.hid (ValidR_yes t w hv)
  have SL := fun w => Lib.hid (spkR_no t w h3)
  obtain ⟨hk, ⟨⟨f1, f2⟩, ⟨f3, f4⟩, f5, f6⟩, ⟨⟨t1, t2⟩, ⟨t3, t4⟩, t5, t6⟩, -⟩ := hv
  clear hk h3
  have SF := fun w => Lib.hid (fineR_any t.fx t.fy t.fz w ⟨by omega, by omega⟩ ⟨by omega, by omega⟩ ⟨by omega, by omega⟩)
  have ST := fun w => Lib.hid (fineR_any t.tx t.ty t.tz w ⟨by omega, by omega⟩ ⟨by omega, by omega⟩ ⟨by omega, by omega⟩)
  clear f1 f2 f3 f4 f5 f6 t1 t2 t3 t4 t5 t6
  have hI : ItC t w.heap.size (w.alloc (.cells #[.int .i64 t.kind, .int .i64 t.block, .int .i64 t.fx, .int .i64 t.fy, .int .i64 t.fz, .int .i64 t.tx, .int .i64 t.ty, .int .i64 t.tz, .int .i64 t.plane, .int .i64 t.cx, .int .i64 t.cy, .int .i64 t.cz, .int .i64 t.dir, .bool t.full, .int .i64 t.feed, .bool t.perrev, .int .i64 t.side, .int .i64 t.radius, .int .i64 t.blend, .int .i64 t.n, .int .i64 t.speed, .bool t.on] 27)) := ItC.fresh t w _ rfl
  have hB : Below w.heap.size w (w.alloc (.cells #[.int .i64 t.kind, .int .i64 t.block, .int .i64 t.fx, .int .i64 t.fy, .int .i64 t.fz, .int .i64 t.tx, .int .i64 t.ty, .int .i64 t.tz, .int .i64 t.plane, .int .i64 t.cx, .int .i64 t.cy, .int .i64 t.cz, .int .i64 t.dir, .bool t.full, .int .i64 t.feed, .bool t.perrev, .int .i64 t.side, .int .i64 t.radius, .int .i64 t.blend, .int .i64 t.n, .int .i64 t.speed, .bool t.on] 27)) := (Below.refl _ _).alloc (Nat.le_refl _) _

  go_enter Try.func19, Try.ntmps19
  go_upto_region 1 with fail
  refine wp_cls (fun wr => ItC t w.heap.size wr ∧ Below w.heap.size w wr) ⟨hI, hB⟩ ?_
  clear hI hB
  rintro w0 ⟨hI, hB⟩

  go_wp2_with (refine wpList_load_g (by rfl) 27 (.tmp 1) rfl w.heap.size 0 rfl (itL t) _ hI.rg Try.underlying27 rfl (by kernel_rfl) ?_)
  refine (VL _).out.mono ?_
  rintro e w1 ⟨rfl, hb1⟩
  have hI := hI.next hb1
  have hB := hB.trans (hb1.mono hB.size)
  clear hb1

  go_wp2_with (refine wpList_load_g (by rfl) 27 (.tmp 1) rfl w.heap.size 0 rfl (itL t) _ hI.rg Try.underlying27 rfl (by kernel_rfl) ?_)
  refine (SL _).out.mono ?_
  rintro e w2 ⟨rfl, hb1⟩
  have hI := hI.next hb1
  have hB := hB.trans (hb1.mono hB.size)
  clear hb1

  go_upto_region 5 with fail
  generalize hA : (Act.mk _ _) = A
  have hsz : A.tmps.size = 63 := by rw [← hA]; rfl
  have hA1 : A.tmps[1]? = some (.pointer (some ⟨w.heap.size, 0, none⟩)) := by rw [← hA]; rfl
  have HA := Lib.hid hA
  clear hA
  refine wp_region_inv (fun L aa wx => ClR t w.heap.size w A L aa wx) (by kernel_rfl) (by kernel_rfl) ?_ ?_ ?_
  · have hD := (Below.refl w2.heap.size w2).drew
    exact (by constructor <;> first | exact OffOf.refl _ _ | exact hB.drew | exact hI.next hD | (intro h; exact nomatch h) | (intro h _; exact nomatch h))
  · intro i o ho L aa wx h' hLi hdeps K hK'
    match i, ho, hLi, hK' with
    | 0, ho, hLi, hK' =>
      cases ho
      have ea := (h'.off.off 1 (by decide)).trans hA1
      go_simp
      exact hK' _ _ { off := h'.off.put (by decide) _, be := h'.be, it := h'.it, k0 := fun _ => put_at _ (by have := h'.off.size; omega), k1 := fun q => put_ne _ (by decide) (h'.k1 (by simpa using q)), k2 := fun q => put_ne _ (by decide) (h'.k2 (by simpa using q)), k3 := fun q => put_ne _ (by decide) (h'.k3 (by simpa using q)), k4 := fun q => put_ne _ (by decide) (h'.k4 (by simpa using q)), k5 := fun q => put_ne _ (by decide) (h'.k5 (by simpa using q)), k6 := fun q => (h'.k6 (by simpa using q)).imp fun _ g => ⟨put_ne _ (by decide) (g.1), g.2.1, g.2.2⟩, k7 := fun q => (h'.k7 (by simpa using q)).imp fun _ g => ⟨put_ne _ (by decide) (g.1), g.2.1, g.2.2⟩, k8 := fun q => put_ne _ (by decide) (h'.k8 (by simpa using q)) }
    | 1, ho, hLi, hK' =>
      cases ho
      have ea := h'.k0 (hdeps ⟨0, .data⟩ (by simp) (by rfl))
      have y2 : wx.cell? ⟨w.heap.size, 2, none⟩ = some (.int .i64 t.fx) := h'.it.rg 2 (.int .i64 t.fx) rfl
      have y3 : wx.cell? ⟨w.heap.size, 3, none⟩ = some (.int .i64 t.fy) := h'.it.rg 3 (.int .i64 t.fy) rfl
      have y4 : wx.cell? ⟨w.heap.size, 4, none⟩ = some (.int .i64 t.fz) := h'.it.rg 4 (.int .i64 t.fz) rfl
      go_simp
      exact hK' _ _ { off := h'.off.put (by decide) _, be := h'.be, it := h'.it, k0 := fun q => put_ne _ (by decide) (h'.k0 (by simpa using q)), k1 := fun _ => put_at _ (by have := h'.off.size; omega), k2 := fun q => put_ne _ (by decide) (h'.k2 (by simpa using q)), k3 := fun q => put_ne _ (by decide) (h'.k3 (by simpa using q)), k4 := fun q => put_ne _ (by decide) (h'.k4 (by simpa using q)), k5 := fun q => put_ne _ (by decide) (h'.k5 (by simpa using q)), k6 := fun q => (h'.k6 (by simpa using q)).imp fun _ g => ⟨put_ne _ (by decide) (g.1), g.2.1, g.2.2⟩, k7 := fun q => (h'.k7 (by simpa using q)).imp fun _ g => ⟨put_ne _ (by decide) (g.1), g.2.1, g.2.2⟩, k8 := fun q => put_ne _ (by decide) (h'.k8 (by simpa using q)) }
    | 2, ho, hLi, hK' =>
      cases ho
      have ea := h'.k1 (hdeps ⟨1, .data⟩ (by simp) (by rfl))
      go_simp
      refine (SF wx).out.mono ?_
      rintro e w2 ⟨rfl, hb⟩
      exact hK' _ _ { off := h'.off.put (by decide) _, be := h'.be.trans (hb.mono h'.be.size), it := h'.it.next hb, k0 := fun q => put_ne _ (by decide) (h'.k0 (by simpa using q)), k1 := fun q => put_ne _ (by decide) (h'.k1 (by simpa using q)), k2 := fun _ => put_at _ (by have := h'.off.size; omega), k3 := fun q => put_ne _ (by decide) (h'.k3 (by simpa using q)), k4 := fun q => put_ne _ (by decide) (h'.k4 (by simpa using q)), k5 := fun q => put_ne _ (by decide) (h'.k5 (by simpa using q)), k6 := fun q => (h'.k6 (by simpa using q)).imp fun _ g => ⟨put_ne _ (by decide) (g.1), (g.2.1).next hb, g.2.2⟩, k7 := fun q => (h'.k7 (by simpa using q)).imp fun _ g => ⟨put_ne _ (by decide) (g.1), (g.2.1).next hb, g.2.2⟩, k8 := fun q => put_ne _ (by decide) (h'.k8 (by simpa using q)) }
    | 3, ho, hLi, hK' =>
      cases ho
      have ea := (h'.off.off 1 (by decide)).trans hA1
      go_simp
      exact hK' _ _ { off := h'.off.put (by decide) _, be := h'.be, it := h'.it, k0 := fun q => put_ne _ (by decide) (h'.k0 (by simpa using q)), k1 := fun q => put_ne _ (by decide) (h'.k1 (by simpa using q)), k2 := fun q => put_ne _ (by decide) (h'.k2 (by simpa using q)), k3 := fun _ => put_at _ (by have := h'.off.size; omega), k4 := fun q => put_ne _ (by decide) (h'.k4 (by simpa using q)), k5 := fun q => put_ne _ (by decide) (h'.k5 (by simpa using q)), k6 := fun q => (h'.k6 (by simpa using q)).imp fun _ g => ⟨put_ne _ (by decide) (g.1), g.2.1, g.2.2⟩, k7 := fun q => (h'.k7 (by simpa using q)).imp fun _ g => ⟨put_ne _ (by decide) (g.1), g.2.1, g.2.2⟩, k8 := fun q => put_ne _ (by decide) (h'.k8 (by simpa using q)) }
    | 4, ho, hLi, hK' =>
      cases ho
      have ea := h'.k3 (hdeps ⟨3, .data⟩ (by simp) (by rfl))
      have y5 : wx.cell? ⟨w.heap.size, 5, none⟩ = some (.int .i64 t.tx) := h'.it.rg 5 (.int .i64 t.tx) rfl
      have y6 : wx.cell? ⟨w.heap.size, 6, none⟩ = some (.int .i64 t.ty) := h'.it.rg 6 (.int .i64 t.ty) rfl
      have y7 : wx.cell? ⟨w.heap.size, 7, none⟩ = some (.int .i64 t.tz) := h'.it.rg 7 (.int .i64 t.tz) rfl
      go_simp
      exact hK' _ _ { off := h'.off.put (by decide) _, be := h'.be, it := h'.it, k0 := fun q => put_ne _ (by decide) (h'.k0 (by simpa using q)), k1 := fun q => put_ne _ (by decide) (h'.k1 (by simpa using q)), k2 := fun q => put_ne _ (by decide) (h'.k2 (by simpa using q)), k3 := fun q => put_ne _ (by decide) (h'.k3 (by simpa using q)), k4 := fun _ => put_at _ (by have := h'.off.size; omega), k5 := fun q => put_ne _ (by decide) (h'.k5 (by simpa using q)), k6 := fun q => (h'.k6 (by simpa using q)).imp fun _ g => ⟨put_ne _ (by decide) (g.1), g.2.1, g.2.2⟩, k7 := fun q => (h'.k7 (by simpa using q)).imp fun _ g => ⟨put_ne _ (by decide) (g.1), g.2.1, g.2.2⟩, k8 := fun q => put_ne _ (by decide) (h'.k8 (by simpa using q)) }
    | 5, ho, hLi, hK' =>
      cases ho
      have ea := h'.k4 (hdeps ⟨4, .data⟩ (by simp) (by rfl))
      go_simp
      refine (ST wx).out.mono ?_
      rintro e w2 ⟨rfl, hb⟩
      exact hK' _ _ { off := h'.off.put (by decide) _, be := h'.be.trans (hb.mono h'.be.size), it := h'.it.next hb, k0 := fun q => put_ne _ (by decide) (h'.k0 (by simpa using q)), k1 := fun q => put_ne _ (by decide) (h'.k1 (by simpa using q)), k2 := fun q => put_ne _ (by decide) (h'.k2 (by simpa using q)), k3 := fun q => put_ne _ (by decide) (h'.k3 (by simpa using q)), k4 := fun q => put_ne _ (by decide) (h'.k4 (by simpa using q)), k5 := fun _ => put_at _ (by have := h'.off.size; omega), k6 := fun q => (h'.k6 (by simpa using q)).imp fun _ g => ⟨put_ne _ (by decide) (g.1), (g.2.1).next hb, g.2.2⟩, k7 := fun q => (h'.k7 (by simpa using q)).imp fun _ g => ⟨put_ne _ (by decide) (g.1), (g.2.1).next hb, g.2.2⟩, k8 := fun q => put_ne _ (by decide) (h'.k8 (by simpa using q)) }
    | 6, ho, hLi, hK' =>
      cases ho
      have ea := h'.k2 (hdeps ⟨2, .data⟩ (by simp) (by rfl))
      have eb := h'.k5 (hdeps ⟨5, .data⟩ (by simp) (by rfl))
      have hb := (Below.refl wx.heap.size wx).alloc (Nat.le_refl _) (.cells #[.int .i64 (t.fx * 16), .int .i64 (t.fy * 16), .int .i64 (t.fz * 16), .int .i64 (t.tx * 16), .int .i64 (t.ty * 16), .int .i64 (t.tz * 16)] 47)
      have hrow := Row.lit wx [t.fx * 16, t.fy * 16, t.fz * 16, t.tx * 16, t.ty * 16, t.tz * 16] 47 (fun j => .int .i64 (lnF t (j / 3) (j % 3))) (lnF_at t)
      have hbz := h'.be.size
      go_simp
      exact hK' _ _ { off := h'.off.put (by decide) _, be := h'.be.trans (hb.mono h'.be.size), it := h'.it.next hb, k0 := fun q => put_ne _ (by decide) (h'.k0 (by simpa using q)), k1 := fun q => put_ne _ (by decide) (h'.k1 (by simpa using q)), k2 := fun q => put_ne _ (by decide) (h'.k2 (by simpa using q)), k3 := fun q => put_ne _ (by decide) (h'.k3 (by simpa using q)), k4 := fun q => put_ne _ (by decide) (h'.k4 (by simpa using q)), k5 := fun q => put_ne _ (by decide) (h'.k5 (by simpa using q)), k6 := fun _ => ⟨wx.heap.size, put_at _ (by have := h'.off.size; omega), hrow, hbz⟩, k7 := fun q => (h'.k7 (by simpa using q)).imp fun _ g => ⟨put_ne _ (by decide) (g.1), (g.2.1).next hb, g.2.2⟩, k8 := fun q => put_ne _ (by decide) (h'.k8 (by simpa using q)) }
    | 7, ho, hLi, hK' =>
      cases ho
      obtain ⟨h6, ea, q60, q61⟩ := h'.k6 (hdeps ⟨6, .data⟩ (by simp) (by rfl))
      go_simp
      exact hK' _ _ { off := h'.off.put (by decide) _, be := h'.be, it := h'.it, k0 := fun q => put_ne _ (by decide) (h'.k0 (by simpa using q)), k1 := fun q => put_ne _ (by decide) (h'.k1 (by simpa using q)), k2 := fun q => put_ne _ (by decide) (h'.k2 (by simpa using q)), k3 := fun q => put_ne _ (by decide) (h'.k3 (by simpa using q)), k4 := fun q => put_ne _ (by decide) (h'.k4 (by simpa using q)), k5 := fun q => put_ne _ (by decide) (h'.k5 (by simpa using q)), k6 := fun q => (h'.k6 (by simpa using q)).imp fun _ g => ⟨put_ne _ (by decide) (g.1), g.2.1, g.2.2⟩, k7 := fun _ => ⟨h6, put_at _ (by have := h'.off.size; omega), q60, q61⟩, k8 := fun q => put_ne _ (by decide) (h'.k8 (by simpa using q)) }
    | 8, ho, hLi, hK' =>
      cases ho
      go_simp
      exact hK' _ _ { off := h'.off.put (by decide) _, be := h'.be, it := h'.it, k0 := fun q => put_ne _ (by decide) (h'.k0 (by simpa using q)), k1 := fun q => put_ne _ (by decide) (h'.k1 (by simpa using q)), k2 := fun q => put_ne _ (by decide) (h'.k2 (by simpa using q)), k3 := fun q => put_ne _ (by decide) (h'.k3 (by simpa using q)), k4 := fun q => put_ne _ (by decide) (h'.k4 (by simpa using q)), k5 := fun q => put_ne _ (by decide) (h'.k5 (by simpa using q)), k6 := fun q => (h'.k6 (by simpa using q)).imp fun _ g => ⟨put_ne _ (by decide) (g.1), g.2.1, g.2.2⟩, k7 := fun q => (h'.k7 (by simpa using q)).imp fun _ g => ⟨put_ne _ (by decide) (g.1), g.2.1, g.2.2⟩, k8 := fun _ => put_at _ (by have := h'.off.size; omega) }
    | i + 9, ho, hLi, hK' => cases ho
  · intro L aa wx h' hall
    have z_0 := h'.k0 (hall 0 (by decide))
    have z_1 := h'.k1 (hall 1 (by decide))
    have z_2 := h'.k2 (hall 2 (by decide))
    have z_3 := h'.k3 (hall 3 (by decide))
    have z_4 := h'.k4 (hall 4 (by decide))
    have z_5 := h'.k5 (hall 5 (by decide))
    obtain ⟨h_6, z_6, hL_6, hh_6⟩ := h'.k6 (hall 6 (by decide))
    obtain ⟨h_7, z_7, hL_7, hh_7⟩ := h'.k7 (hall 7 (by decide))
    have z_8 := h'.k8 (hall 8 (by decide))
    have hfr := h'.off.rebuild (fun d' => if d' = 22 then .pointer (some ⟨w.heap.size, 2, none⟩) else if d' = 23 then .agg #[.int .i64 (t.fx), .int .i64 (t.fy), .int .i64 (t.fz)] else if d' = 24 then .agg #[.int .i64 (t.fx * 16), .int .i64 (t.fy * 16), .int .i64 (t.fz * 16)] else if d' = 25 then .pointer (some ⟨w.heap.size, 5, none⟩) else if d' = 26 then .agg #[.int .i64 (t.tx), .int .i64 (t.ty), .int .i64 (t.tz)] else if d' = 27 then .agg #[.int .i64 (t.tx * 16), .int .i64 (t.ty * 16), .int .i64 (t.tz * 16)] else if d' = 28 then .slice (some ⟨h_6, 0, none⟩) 2 2 else if d' = 2 then .slice (some ⟨h_7, 0, none⟩) 2 2 else if d' = 3 then .bool true else undef) (by
      intro d' hd'
      simp only [List.mem_cons, List.not_mem_nil, or_false] at hd'
      rcases hd' with rfl | rfl | rfl | rfl | rfl | rfl | rfl | rfl | rfl
      · exact z_0
      · exact z_1
      · exact z_2
      · exact z_3
      · exact z_4
      · exact z_5
      · exact z_6
      · exact z_7
      · exact z_8
      )
    simp only [List.foldl_cons, List.foldl_nil] at hfr
    rw [← HA.out] at hfr
    have hB := h'.be
    rw [hfr]
    clear hfr h' hall HA hsz hA1 z_0 z_1 z_2 z_3 z_4 z_5 z_6 z_7 z_8
    simp [Act.put]
    go_wp2_with fail
    go_ret2
    exact ⟨h_7, 2, rfl, hh_7, hL_7, hB⟩
end Go.Proofs.Ytkjjoclbjkpdaaa
