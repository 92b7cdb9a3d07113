/- Proved here: rows of spokes and of points by their cells; Chords of the program for a valid arc; ranges as stated. · Chords of the program for a valid arc; ranges as stated. · Chords of the reference for a valid arc; ranges as stated. -/
import Derived.Test.YtkjjoclbjkpdaaaNb6R
import Derived.OwnWalk
namespace Go.Proofs.Ytkjjoclbjkpdaaa
open Go.RowKit
set_option linter.unusedVariables false
set_option linter.unusedSimpArgs false
def spk0 : Spk := ⟨0, 0, 0, 0⟩
def spq (s : Spk) (c : Nat) : Int := cq s.u s.w s.r s.h c
/-- the c-th component of the i-th spoke -/
def spF (l : List Spk) (i c : Nat) : Int := spq (l.getD i spk0) c
theorem flat_at : ∀ (l : List Spk) (j : Nat), j < l.length * 4 → (l.flatMap spc)[j]? = some (.int .i64 (spF l (j / 4) (j % 4)))
  | [], j, h => absurd h (by simp)
  | s :: l, j, h => by
    rw [List.flatMap_cons]
    by_cases hj : j < 4
    · rw [List.getElem?_append_left (by simpa [spc] using hj)]
      have : j = 0 ∨ j = 1 ∨ j = 2 ∨ j = 3 := by omega
      rcases this with rfl | rfl | rfl | rfl <;> rfl
    · obtain ⟨k, rfl⟩ : ∃ k, j = k + 4 := ⟨j - 4, by omega⟩
      rw [List.getElem?_append_right (by simp [spc])]
      have e : k + 4 - (spc s).length = k := by simp [spc]
      rw [e, flat_at l k (by rw [List.length_cons] at h; omega), show (k + 4) / 4 = k / 4 + 1 by omega, show (k + 4) % 4 = k % 4 by omega]
      rfl
/-- a row of spokes that the call owns, by its cells -/
theorem row_spokes {w : World} {B : Nat} {v : Value} {l : List Spk} (h : w.ownsRow B 34 4 v l.length (l.flatMap spc)) (hl : 0 < l.length) :
    ∃ g cap, v = .slice (some ⟨g, 0, none⟩) l.length cap ∧ B ≤ g ∧ Row g (l.length * 4) (l.length * 4) (fun j => .int .i64 (spF l (j / 4) (j % 4))) w := by
  obtain ⟨g, cap, rfl, hb, hg⟩ := h.form hl
  have hc : ∀ j, j < l.length * 4 → w.cell? ⟨g, j, none⟩ = some (.int .i64 (spF l (j / 4) (j % 4))) := fun j hj => (h.cellAt j hj).trans (flat_at l j hj)
  exact ⟨g, cap, rfl, hb, hc, fun j hj => ⟨_, hc j hj⟩, fun j _ => h.frozenAt j, hg⟩
theorem Row.spoke {g L i : Nat} {F : Nat → Nat → Int} {w : World} (h : Row g (L * 4) (L * 4) (fun j => .int .i64 (F (j / 4) (j % 4))) w) (hi : i < L) :
    w.cell? ⟨g, i * 4, none⟩ = some (.int .i64 (F i 0)) ∧ w.cell? ⟨g, i * 4 + 1, none⟩ = some (.int .i64 (F i 1)) ∧ w.cell? ⟨g, i * 4 + 2, none⟩ = some (.int .i64 (F i 2)) ∧ w.cell? ⟨g, i * 4 + 3, none⟩ = some (.int .i64 (F i 3)) := by
  have h0 := h.cell (i * 4) (by omega)
  have h1 := h.cell (i * 4 + 1) (by omega)
  have h2 := h.cell (i * 4 + 2) (by omega)
  have h3 := h.cell (i * 4 + 3) (by omega)
  simp only [show i * 4 / 4 = i by omega, show i * 4 % 4 = 0 by omega, show (i * 4 + 1) / 4 = i by omega, show (i * 4 + 1) % 4 = 1 by omega, show (i * 4 + 2) / 4 = i by omega, show (i * 4 + 2) % 4 = 2 by omega, show (i * 4 + 3) / 4 = i by omega, show (i * 4 + 3) % 4 = 3 by omega] at h0 h1 h2 h3
  exact ⟨h0, h1, h2, h3⟩
/-- the c-th component of the i-th chord point of an arc -/
def chF (k cU cW : Int) (S : Nat → Nat → Int) (i c : Nat) : Int := cp (spX k (cU + S i 0) (cW + S i 1) (S i 3)) (spY k (cU + S i 0) (cW + S i 1) (S i 3)) (spZ k (cU + S i 0) (cW + S i 1) (S i 3)) c
def ChordsPost (L : Nat) (F : Nat → Nat → Int) (w : World) (e : Ending) (w' : World) : Prop :=
  ∃ g cap, e = .returned (.tuple #[.slice (some ⟨g, 0, none⟩) L cap, .bool true]) ∧ w.heap.size ≤ g ∧ Row g (L * 3) (L * 3) (fun j => .int .i64 (F (j / 3) (j % 3))) w' ∧ Below w.heap.size w w'
theorem infoPt : (Try.prog.info? 47).map (fun i => (i.zero, i.size, i.bytes)) = some (some (.agg #[.int .i64 0, .int .i64 0, .int .i64 0]), 3, 24) := by kernel_rfl
theorem Row.made3 {w : World} {B e : Nat} {L cap : Nat} {g : Nat} {xs : List Value} (h : w.ownsRow B e 3 (.slice (some ⟨g, 0, none⟩) L cap) L xs) (G : Nat → Value) : Row g (L * 3) 0 G w := by
  have hl := h.lt g rfl
  refine ⟨fun j hj => absurd hj (by omega), fun j hj => ?_, fun j _ => h.frozenAt j, hl.2⟩
  rw [h.cellAt j (by omega)]
  have : j < xs.length := by rw [h.1]; omega
  exact ⟨xs[j], List.getElem?_eq_getElem this⟩
/-- all spokes of an arc lie in bounds -/
theorem Itm.Arc.spokes_gd {t : Itm} {lo hi hl hh : Int} (h : t.Arc lo hi hl hh) : ∀ s ∈ t.spokes, Gd lo hi hl hh s := by
  intro s hs
  rcases List.mem_cons.1 hs with rfl | hs
  · exact h.ga
  · exact pcs_gd h.bnd h.dir 16 t.full _ _ h.ga h.gb s hs
theorem Itm.spokes_len (t : Itm) : 2 ≤ t.spokes.length ∧ t.spokes.length ≤ 65537 := by
  have := pcs_len t.dir 16 t.full t.A t.B
  unfold Itm.spokes
  rw [List.length_cons]
  omega
theorem Itm.Arc.spF_bd {t : Itm} {lo hi hl hh : Int} (h : t.Arc lo hi hl hh) (i : Nat) (hi' : i < t.spokes.length) : (-47453134 ≤ spF t.spokes i 0 ∧ spF t.spokes i 0 ≤ 47453134) ∧ (-47453134 ≤ spF t.spokes i 1 ∧ spF t.spokes i 1 ≤ 47453134) ∧ (-47453134 ≤ spF t.spokes i 3 ∧ spF t.spokes i 3 ≤ 47453134) := by
  have g := (h.spokes_gd (t.spokes.getD i spk0) (by rw [List.getD_eq_getElem?_getD, List.getElem?_eq_getElem hi']; exact List.getElem_mem hi')).sp h.bnd
  obtain ⟨s1, s2, s3, s4, s5, s6, s7, s8⟩ := g
  unfold spF
  generalize t.spokes.getD i spk0 = s at *
  exact ⟨⟨s1, s2⟩, ⟨s3, s4⟩, s7, s8⟩
end Go.Proofs.Ytkjjoclbjkpdaaa
namespace Go.Proofs.Ytkjjoclbjkpdaaa
open Go.RowKit
set_option linter.unusedVariables false
set_option linter.unusedSimpArgs false
/-- behind Spokes: the plane, the spokes, and the points so far -/
structure ChI (t : Itm) (n gs go i : Nat) (S F : Nat → Nat → Int) (w0 w : World) : Prop where
  bx : Lf w0.heap.size (w0.heap.size + 1) [(⟨w0.heap.size, 8, none⟩, .int .i64 t.plane)] w0 w
  rs : Row gs (n * 4) (n * 4) (fun j => .int .i64 (S (j / 4) (j % 4))) w
  ro : Row go (n * 3) (i * 3) (fun j => .int .i64 (F (j / 3) (j % 3))) w
theorem ChI.next {t : Itm} {n gs go i : Nat} {S F : Nat → Nat → Int} {w0 w w' : World} (h : ChI t n gs go i S F w0 w) (hb : Below w.heap.size w w') : ChI t n gs go i S F w0 w' :=
  ⟨h.bx.next hb, h.rs.next hb, h.ro.next hb⟩
theorem ChI.store {t : Itm} {n gs go i : Nat} {S F : Nat → Nat → Int} {w0 w : World} (h : ChI t n gs go i S F w0 w) (hi : i < n) (h1 : w0.heap.size < go) (h2 : gs ≠ go) (x y z : Int) (hx : F i 0 = x) (hy : F i 1 = y) (hz : F i 2 = z) :
    ChI t n gs go (i + 1) S F w0 (((w.setCell ⟨go, i * 3, none⟩ (.int .i64 x)).setCell ⟨go, i * 3 + 1, none⟩ (.int .i64 y)).setCell ⟨go, i * 3 + 2, none⟩ (.int .i64 z)) := by
  have hne : ∀ p ∈ ([(⟨w0.heap.size, 8, none⟩, .int .i64 t.plane)] : List (Addr × Value)), p.1.block ≠ go := by simp; omega
  refine ⟨((h.bx.wr go _ _ (by omega) hne).wr go _ _ (by omega) hne).wr go _ _ (by omega) hne, ((h.rs.other h2 _ _).other h2 _ _).other h2 _ _, ?_⟩
  have e0 : (fun j => Value.int .i64 (F (j / 3) (j % 3))) (i * 3) = .int .i64 x := by
    show Value.int .i64 (F (i * 3 / 3) (i * 3 % 3)) = _
    rw [show i * 3 / 3 = i by omega, show i * 3 % 3 = 0 by omega, hx]
  have e1 : (fun j => Value.int .i64 (F (j / 3) (j % 3))) (i * 3 + 1) = .int .i64 y := by
    show Value.int .i64 (F ((i * 3 + 1) / 3) ((i * 3 + 1) % 3)) = _
    rw [show (i * 3 + 1) / 3 = i by omega, show (i * 3 + 1) % 3 = 1 by omega, hy]
  have e2 : (fun j => Value.int .i64 (F (j / 3) (j % 3))) (i * 3 + 2) = .int .i64 z := by
    show Value.int .i64 (F ((i * 3 + 2) / 3) ((i * 3 + 2) % 3)) = _
    rw [show (i * 3 + 2) / 3 = i by omega, show (i * 3 + 2) % 3 = 2 by omega, hz]
  exact (((h.ro.step _ (by omega) e0).step _ (by omega) e1).step _ (by omega) e2).cast (by omega)
structure ChC (t : Itm) (n gs : Nat) (S : Nat → Nat → Int) (w0 w : World) : Prop where
  bx : Lf w0.heap.size (w0.heap.size + 1) [(⟨w0.heap.size, 8, none⟩, .int .i64 t.plane), (⟨w0.heap.size, 9, none⟩, .int .i64 t.cx), (⟨w0.heap.size, 10, none⟩, .int .i64 t.cy), (⟨w0.heap.size, 11, none⟩, .int .i64 t.cz)] w0 w
  rs : Row gs (n * 4) (n * 4) (fun j => .int .i64 (S (j / 4) (j % 4))) w
theorem ChC.next {t : Itm} {n gs : Nat} {S : Nat → Nat → Int} {w0 w w' : World} (h : ChC t n gs S w0 w) (hb : Below w.heap.size w w') : ChC t n gs S w0 w' := ⟨h.bx.next hb, h.rs.next hb⟩
set_option maxHeartbeats 8000000 in
set_option maxRecDepth 40000 in
theorem chordsP_any (t : Itm) (lo hi hl hh : Int) (w : World) (ha : t.Arc lo hi hl hh) (VP : ∀ w, Hid (Calls Try.prog 20 #[.agg #[.int .i64 t.kind, .int .i64 t.block, .int .i64 t.fx, .int .i64 t.fy, .int .i64 t.fz, .int .i64 t.tx, .int .i64 t.ty, .int .i64 t.tz, .int .i64 t.plane, .int .i64 t.cx, .int .i64 t.cy, .int .i64 t.cz, .int .i64 t.dir, .bool t.full, .int .i64 t.feed, .bool t.perrev, .int .i64 t.side, .int .i64 t.radius, .int .i64 t.blend, .int .i64 t.n, .int .i64 t.speed, .bool t.on]] w fun e w' => e = .returned (.bool true) ∧ Below w.heap.size w w')) :
    Calls Try.prog 18 #[.agg #[.int .i64 t.kind, .int .i64 t.block, .int .i64 t.fx, .int .i64 t.fy, .int .i64 t.fz, .int .i64 t.tx, .int .i64 t.ty, .int .i64 t.tz, .int .i64 t.plane, .int .i64 t.cx, .int .i64 t.cy, .int .i64 t.cz, .int .i64 t.dir, .bool t.full, .int .i64 t.feed, .bool t.perrev, .int .i64 t.side, .int .i64 t.radius, .int .i64 t.blend, .int .i64 t.n, .int .i64 t.speed, .bool t.on]] w (ChordsPost t.spokes.length (chF t.plane (plU t.plane t.cx t.cy t.cz * 16) (plW t.plane t.cx t.cy t.cz * 16) (spF t.spokes)) w) := by
  have SP := fun w => Lib.hid (spokesP_any t lo hi hl hh w ha VP)
  have bd := ha.spF_bd
  have hn := t.spokes_len
  obtain ⟨⟨hf, ht, ⟨⟨cx1, cx2⟩, ⟨cy1, cy2⟩, cz1, cz2⟩, hk⟩, -, -, -, -, -⟩ := ha
  have SCc := fun w => Lib.hid (scaledP_any t.cx t.cy t.cz w ⟨by omega, by omega⟩ ⟨by omega, by omega⟩ ⟨by omega, by omega⟩)
  have PLc := fun w => Lib.hid (planeP_any t.plane (t.cx * 16) (t.cy * 16) (t.cz * 16) w hk)
  have SPC := fun (u v h : Int) w => Lib.hid (spaceP_any t.plane u v h w hk)
  rw [plU_sc, plW_sc, plH_sc] at PLc
  obtain ⟨b9, b10⟩ := plU_bd (k := t.plane) ⟨cx1, cx2⟩ ⟨cy1, cy2⟩ ⟨cz1, cz2⟩
  obtain ⟨b11, b12⟩ := plW_bd (k := t.plane) ⟨cx1, cx2⟩ ⟨cy1, cy2⟩ ⟨cz1, cz2⟩
  clear cx1 cx2 cy1 cy2 cz1 cz2 hk hf ht
  generalize plU t.plane t.cx t.cy t.cz = cU at *
  generalize plW t.plane t.cx t.cy t.cz = cW at *
  generalize plH t.plane t.cx t.cy t.cz = cH at *
  obtain ⟨FF, hFF⟩ : ∃ FF, chF t.plane (cU * 16) (cW * 16) (spF t.spokes) = FF := ⟨_, rfl⟩
  have HF : ∀ i, Hid (FF i 0 = spX t.plane (cU * 16 + spF t.spokes i 0) (cW * 16 + spF t.spokes i 1) (spF t.spokes i 3) ∧ FF i 1 = spY t.plane (cU * 16 + spF t.spokes i 0) (cW * 16 + spF t.spokes i 1) (spF t.spokes i 3) ∧ FF i 2 = spZ t.plane (cU * 16 + spF t.spokes i 0) (cW * 16 + spF t.spokes i 1) (spF t.spokes i 3)) := by
    intro i; rw [← hFF]; exact ⟨rfl, rfl, rfl⟩
  rw [hFF]
  clear hFF
  have RS : ∀ (w : World) (v : Value) (B : Nat), w.ownsRow B 34 4 v t.spokes.length (t.spokes.flatMap spc) → ∃ g cap, v = .slice (some ⟨g, 0, none⟩) t.spokes.length cap ∧ B ≤ g ∧ Row g (t.spokes.length * 4) (t.spokes.length * 4) (fun j => .int .i64 (spF t.spokes (j / 4) (j % 4))) w := fun w v B h => row_spokes h (by omega)
  unfold SpokesPost at SP
  generalize spF t.spokes = S at *
  generalize t.spokes.flatMap spc = xs at *
  generalize t.spokes.length = n at *
  obtain ⟨i0, hi, hz0, hz1, hz2⟩ := info_parts infoPt
  have hI : ItC t w.heap.size (w.alloc (.cells #[.int .i64 t.kind, .int .i64 t.block, .int .i64 t.fx, .int .i64 t.fy, .int .i64 t.fz, .int .i64 t.tx, .int .i64 t.ty, .int .i64 t.tz, .int .i64 t.plane, .int .i64 t.cx, .int .i64 t.cy, .int .i64 t.cz, .int .i64 t.dir, .bool t.full, .int .i64 t.feed, .bool t.perrev, .int .i64 t.side, .int .i64 t.radius, .int .i64 t.blend, .int .i64 t.n, .int .i64 t.speed, .bool t.on] 27)) := ItC.fresh t w _ rfl
  have hT : Lf w.heap.size (w.heap.size + 1) [(⟨w.heap.size, 8, none⟩, .int .i64 t.plane), (⟨w.heap.size, 9, none⟩, .int .i64 t.cx), (⟨w.heap.size, 10, none⟩, .int .i64 t.cy), (⟨w.heap.size, 11, none⟩, .int .i64 t.cz)] w (w.alloc (.cells #[.int .i64 t.kind, .int .i64 t.block, .int .i64 t.fx, .int .i64 t.fy, .int .i64 t.fz, .int .i64 t.tx, .int .i64 t.ty, .int .i64 t.tz, .int .i64 t.plane, .int .i64 t.cx, .int .i64 t.cy, .int .i64 t.cz, .int .i64 t.dir, .bool t.full, .int .i64 t.feed, .bool t.perrev, .int .i64 t.side, .int .i64 t.radius, .int .i64 t.blend, .int .i64 t.n, .int .i64 t.speed, .bool t.on] 27)) := ⟨by simp [List.forall_mem_cons, go_sem], by simp [List.forall_mem_cons, go_sem], by simp [List.forall_mem_cons] <;> omega, by simp, by (repeat (first | exact Below.refl _ _ | refine Below.alloc ?_ (by simp <;> omega) _)), by omega⟩
  go_enter Try.func18, Try.ntmps18
  go_upto_region 1 with fail
  refine wp_cls (fun wr => ItC t w.heap.size wr ∧ Lf w.heap.size (w.heap.size + 1) [(⟨w.heap.size, 8, none⟩, .int .i64 t.plane), (⟨w.heap.size, 9, none⟩, .int .i64 t.cx), (⟨w.heap.size, 10, none⟩, .int .i64 t.cy), (⟨w.heap.size, 11, none⟩, .int .i64 t.cz)] w wr) ⟨hI, hT⟩ ?_
  clear hT hI
  rintro w0 ⟨hI, hT⟩
  go_wp2_with (refine wpList_load_g (by rfl) 27 (.tmp 1) rfl w.heap.size 0 rfl (itL t) _ hI.rg Try.underlying27 rfl (by kernel_rfl) ?_)
  refine (VP _).out.mono ?_
  rintro e w1 ⟨rfl, hb1⟩
  have hI := hI.next hb1
  have hT := hT.next hb1
  clear hb1 VP
  go_wp2_with (refine wpList_load_g (by rfl) 27 (.tmp 1) rfl w.heap.size 0 rfl (itL t) _ hI.rg Try.underlying27 rfl (by kernel_rfl) ?_)
  clear hI
  refine (SP _).out.mono ?_
  rintro e w2 ⟨v, rfl, hO, hb1⟩
  have hlw := hT.lt
  have hT := hT.next hb1
  clear hb1 SP
  obtain ⟨gs, cap, rfl, hgs, hR⟩ := RS _ _ _ hO
  clear hO RS
  go_upto_region 6 with fail
  (refine wp_region_class (ChC t n gs S w) (ChC.mk (hT.next (Below.refl _ _).drew) (hR.next (Below.refl _ _).drew)) (by kernel_rfl) (by kernel_rfl) ?_; repeat (refine wpQuiet_step (fun qK9 qH9 => ?_); go_simp; first | (refine qH9 _ ?_; clear qH9 qK9) | (apply Exists.intro; refine ⟨?_, qH9 _ ?_⟩; (first | (intros; rfl) | (first | (intro wx hC; ((have qk9 := ((hC.bx)).cells; simp only [List.forall_mem_cons, List.not_mem_nil, false_implies, implies_true, and_true] at qk9; repeat (obtain ⟨qk8, qk9⟩ := qk9)); go_simp; first | done | rfl)) | (intro wx hC; with_reducible exact Calls.lays (SCc wx).out (fun _ => hC.next)) | (intro wx hC; with_reducible exact Calls.lays (PLc wx).out (fun _ => hC.next)))); clear qH9 qK9)))
  refine wpQuiet_nil ?_
  clear hT hR SCc PLc
  intro w3 hT
  have hBe := hT.bx.be.size
  have hl3 := hT.rs.lt
  go_wp2_with (at_make; refine wpList_make_full _ rfl _ _ 38 rfl w.heap.size 47 i0 (.agg #[.int .i64 0, .int .i64 0, .int .i64 0]) 3 Try.underlying38 hi hz0 hz1 .i64 .i64 _ _ n rfl rfl (by omega) (by omega) (by rw [hz2]; omega) (by unfold maxLen; omega) hBe ?_; intro w7 hown hgrow)
  have hgo : w.heap.size < w3.heap.size := by omega
  have hT := hT.next ((Below.refl w3.heap.size w3).grown hgrow (Nat.le_refl _) (by simp))
  have hRo := Row.made3 hown (fun j => .int .i64 (FF (j / 3) (j % 3)))
  obtain ⟨go, hgoe⟩ : ∃ g, w3.heap.size = g := ⟨_, rfl⟩
  rewrite [hgoe] at hRo hgo hl3
  rewrite [hgoe]
  clear hown hgrow hgoe
  have hC : ChI t n gs go 0 S FF w w7 := ⟨hT.bx.sub (by simp), hT.rs, hRo⟩
  clear hT hRo hBe
  have hne : gs ≠ go := by omega
  go_wp2_with fail
  go_loopw [44] (fun q wr => ∃ i : Nat, i ≤ n ∧ q = .int .i64 (i : Int) ∧ ChI t n gs go i S FF w wr) (fun q _ => n - (intOf q).toNat)
  case atStart => exact ⟨0, Nat.zero_le _, rfl, hC⟩
  case round =>
  clear hC
  obtain ⟨i, hin, rfl, hC⟩ := hrel
  by_cases hi : i < n
  · have hdec : decide ((i : Int) < (n : Int)) = true := decide_eq_true (by omega)
    have hlt : (i : Int) < (n : Int) := by omega
    have hi0 : (0 : Int) ≤ (i : Int) := by omega
    obtain ⟨⟨s1, s2⟩, ⟨s3, s4⟩, s5, s6⟩ := bd i hi
    obtain ⟨yc0, yc1, yc2, yc3⟩ := hC.rs.spoke hi
    have HFi := HF i
    clear bd HF
    have yp := hC.bx.cells
    simp only [List.forall_mem_cons, List.not_mem_nil, false_implies, implies_true, and_true] at yp
    generalize S i 0 = su at *
    generalize S i 1 = sw at *
    generalize S i 2 = sr at *
    generalize S i 3 = sh at *
    obtain ⟨gq, hgq⟩ : ∃ g, wr.heap.size = g := ⟨_, rfl⟩
    have hV := hC.bx.pushg gq #[.int .i64 su, .int .i64 sw, .int .i64 sr, .int .i64 sh] 34 hgq
    have hC := hC.next ((Below.refl _ _).alloc (Nat.le_refl _) (.cells #[.int .i64 su, .int .i64 sw, .int .i64 sr, .int .i64 sh] 34))
    go_upto_region 11 with fail
    try rewrite [hgq]
    refine wp_cls (fun wx => ChI t n gs go i S FF w wx ∧ Lf w.heap.size (gq + 1) [(⟨gq, 0, none⟩, .int .i64 su), (⟨gq, 1, none⟩, .int .i64 sw), (⟨gq, 2, none⟩, .int .i64 sr), (⟨gq, 3, none⟩, .int .i64 sh), (⟨w.heap.size, 8, none⟩, .int .i64 t.plane)] w wx) ⟨hC, hV⟩ ?_
    clear hC hV hgq yc0 yc1 yc2 yc3 yp
    rintro wx ⟨hC, hV⟩
    have kc := hV.cells
    have kf := hV.frz
    simp only [List.forall_mem_cons, List.not_mem_nil, false_implies, implies_true, and_true] at kc kf
    obtain ⟨yc0, yc1, yc2, yc3, yc4⟩ := kc
    obtain ⟨yf0, yf1, yf2, yf3, yf4⟩ := kf
    go_wp2_with fail
    refine (SPC _ _ _ _).out.mono ?_
    rintro e w8 ⟨rfl, hb1⟩
    have hC := hC.next hb1
    clear hb1 hV yc0 yf0 yc1 yf1 yc2 yf2 yc3 yf3 yc4 yf4
    obtain ⟨u0, yu0⟩ := hC.ro.ex (i * 3) (by omega)
    obtain ⟨u1, yu1⟩ := hC.ro.ex (i * 3 + 1) (by omega)
    obtain ⟨u2, yu2⟩ := hC.ro.ex (i * 3 + 2) (by omega)
    have yf0 := hC.ro.frz (i * 3) (by omega)
    have yf1 := hC.ro.frz (i * 3 + 1) (by omega)
    have yf2 := hC.ro.frz (i * 3 + 2) (by omega)
    go_wp2_with fail
    go_roundw
    case rel => exact ⟨i + 1, by omega, by go_num, hC.store hi hgo hne _ _ _ HFi.out.1 HFi.out.2.1 HFi.out.2.2⟩
    case measure => simp [intOf]; omega
  · have hdec : decide ((i : Int) < (n : Int)) = false := decide_eq_false (by omega)
    have hlt : ¬ (i : Int) < (n : Int) := by omega
    go_wp2_with fail
    obtain rfl : i = n := by omega
    go_ret2
    exact ⟨go, _, rfl, by omega, hC.ro, hC.bx.be⟩
end Go.Proofs.Ytkjjoclbjkpdaaa
namespace Go.Proofs.Ytkjjoclbjkpdaaa
open Go.RowKit
set_option linter.unusedVariables false
set_option linter.unusedSimpArgs false
/-- the first m values of a function -/
def rowL (G : Nat → Value) (m : Nat) : List Value := (List.range m).map G
theorem rowL_at (G : Nat → Value) {j m : Nat} (h : j < m) : (rowL G m)[j]? = some (G j) := by
  unfold rowL; rw [List.getElem?_map, List.getElem?_range h]; rfl
theorem rowL_step (G : Nat → Value) (i : Nat) {a b c : Value} (h0 : G (i * 3) = a) (h1 : G (i * 3 + 1) = b) (h2 : G (i * 3 + 2) = c) : rowL G (i * 3) ++ [a, b, c] = rowL G ((i + 1) * 3) := by
  unfold rowL
  rw [show (i + 1) * 3 = i * 3 + 1 + 1 + 1 by omega, List.range_succ, List.range_succ, List.range_succ]
  simp [h0, h1, h2]
/-- behind Spokes: the plane, the spokes, and the row of the points so far -/
structure ChR (t : Itm) (n gs B i : Nat) (S F : Nat → Nat → Int) (v : Value) (w0 w : World) : Prop where
  bx : Lf w0.heap.size (w0.heap.size + 1) [(⟨w0.heap.size, 8, none⟩, .int .i64 t.plane)] w0 w
  rs : Row gs (n * 4) (n * 4) (fun j => .int .i64 (S (j / 4) (j % 4))) w
  ow : w.ownsRow B 47 3 v i (rowL (fun j => .int .i64 (F (j / 3) (j % 3))) (i * 3))
theorem ChR.next {t : Itm} {n gs B i : Nat} {S F : Nat → Nat → Int} {v : Value} {w0 w w' : World} (h : ChR t n gs B i S F v w0 w) (hb : Below w.heap.size w w') : ChR t n gs B i S F v w0 w' :=
  ⟨h.bx.next hb, h.rs.next hb, ownsRow_nx h.ow hb⟩
theorem Row.grown {g m i : Nat} {G : Nat → Value} {w w' : World} {row : Option Nat} (h : Row g m i G w) (hg : w.grownBy w' row) (hr : row ≠ some g) : Row g m i G w' := by
  have hb : w'.heap[g]? = w.heap[g]? := hg.block _ h.lt (fun e => hr e.symm)
  exact ⟨fun j hj => (World.cell?_of_block (a := ⟨g, j, none⟩) hb).trans (h.cell j hj), fun j hj => (h.ex j hj).imp fun v hv => (World.cell?_of_block (a := ⟨g, j, none⟩) hb).trans hv, fun j hj => (World.frozen?_of_block (a := ⟨g, j, none⟩) hb).trans (h.frz j hj), Nat.lt_of_lt_of_le h.lt hg.size⟩
theorem ChR.grown {t : Itm} {n gs B i : Nat} {S F : Nat → Nat → Int} {v v' : Value} {w0 w w' : World} (h : ChR t n gs B i S F v w0 w) (hg : w.grownBy w' v.ownBlock) (h1 : w0.heap.size < B) (h2 : gs < B) (x y z : Int) (hx : F i 0 = x) (hy : F i 1 = y) (hz : F i 2 = z)
    (ho : w'.ownsRow B 47 3 v' (i + 1) (rowL (fun j => .int .i64 (F (j / 3) (j % 3))) (i * 3) ++ [.int .i64 x, .int .i64 y, .int .i64 z])) : ChR t n gs B (i + 1) S F v' w0 w' := by
  refine ⟨h.bx.row hg (fun k e => by have := (h.ow.lt k e).1; omega), h.rs.grown hg (fun e => by have := (h.ow.lt _ e).1; omega), ?_⟩
  rw [rowL_step] at ho
  · exact ho
  · show Value.int .i64 (F (i * 3 / 3) (i * 3 % 3)) = _
    rw [show i * 3 / 3 = i by omega, show i * 3 % 3 = 0 by omega, hx]
  · show Value.int .i64 (F ((i * 3 + 1) / 3) ((i * 3 + 1) % 3)) = _
    rw [show (i * 3 + 1) / 3 = i by omega, show (i * 3 + 1) % 3 = 1 by omega, hy]
  · show Value.int .i64 (F ((i * 3 + 2) / 3) ((i * 3 + 2) % 3)) = _
    rw [show (i * 3 + 2) / 3 = i by omega, show (i * 3 + 2) % 3 = 2 by omega, hz]
theorem news3 (w : World) (x0 x1 x2 : Int) (T : TypeId) : ∀ j u, ([.int .i64 x0, .int .i64 x1, .int .i64 x2] : List Value)[j]? = some u → (w.alloc (.cells #[.int .i64 x0, .int .i64 x1, .int .i64 x2] T)).cell? ((⟨w.heap.size, 0, none⟩ : Addr).add j) = some u := by
  intro j u hj
  match j, hj with
  | 0, hj => simp at hj; subst hj; simp [Addr.add, go_sem]
  | 1, hj => simp at hj; subst hj; simp [Addr.add, go_sem]
  | 2, hj => simp at hj; subst hj; simp [Addr.add, go_sem]
  | j + 3, hj => simp at hj
set_option maxHeartbeats 8000000 in
set_option maxRecDepth 40000 in
theorem chordsR_any (t : Itm) (lo hi hl hh : Int) (w : World) (ha : t.Arc lo hi hl hh) (VP : ∀ w, Hid (Calls Try.prog 21 #[.agg #[.int .i64 t.kind, .int .i64 t.block, .int .i64 t.fx, .int .i64 t.fy, .int .i64 t.fz, .int .i64 t.tx, .int .i64 t.ty, .int .i64 t.tz, .int .i64 t.plane, .int .i64 t.cx, .int .i64 t.cy, .int .i64 t.cz, .int .i64 t.dir, .bool t.full, .int .i64 t.feed, .bool t.perrev, .int .i64 t.side, .int .i64 t.radius, .int .i64 t.blend, .int .i64 t.n, .int .i64 t.speed, .bool t.on]] w fun e w' => e = .returned (.bool true) ∧ Below w.heap.size w w')) :
    Calls Try.prog 19 #[.agg #[.int .i64 t.kind, .int .i64 t.block, .int .i64 t.fx, .int .i64 t.fy, .int .i64 t.fz, .int .i64 t.tx, .int .i64 t.ty, .int .i64 t.tz, .int .i64 t.plane, .int .i64 t.cx, .int .i64 t.cy, .int .i64 t.cz, .int .i64 t.dir, .bool t.full, .int .i64 t.feed, .bool t.perrev, .int .i64 t.side, .int .i64 t.radius, .int .i64 t.blend, .int .i64 t.n, .int .i64 t.speed, .bool t.on]] w (ChordsPost t.spokes.length (chF t.plane (plU t.plane t.cx t.cy t.cz * 16) (plW t.plane t.cx t.cy t.cz * 16) (spF t.spokes)) w) := by
  have SP := fun w => Lib.hid (spokesR_any t lo hi hl hh w ha VP)
  have bd := ha.spF_bd
  have hn := t.spokes_len
  obtain ⟨⟨hf, ht, ⟨⟨cx1, cx2⟩, ⟨cy1, cy2⟩, cz1, cz2⟩, hk⟩, -, -, -, -, -⟩ := ha
  have SCc := fun w => Lib.hid (fineR_any t.cx t.cy t.cz w ⟨by omega, by omega⟩ ⟨by omega, by omega⟩ ⟨by omega, by omega⟩)
  have PLc := fun w => Lib.hid (planeR_any t.plane (t.cx * 16) (t.cy * 16) (t.cz * 16) w hk)
  have SPC := fun (u v h : Int) w => Lib.hid (spaceR_any t.plane u v h w hk)
  rw [plU_sc, plW_sc, plH_sc] at PLc
  obtain ⟨b9, b10⟩ := plU_bd (k := t.plane) ⟨cx1, cx2⟩ ⟨cy1, cy2⟩ ⟨cz1, cz2⟩
  obtain ⟨b11, b12⟩ := plW_bd (k := t.plane) ⟨cx1, cx2⟩ ⟨cy1, cy2⟩ ⟨cz1, cz2⟩
  clear cx1 cx2 cy1 cy2 cz1 cz2 hk hf ht
  generalize plU t.plane t.cx t.cy t.cz = cU at *
  generalize plW t.plane t.cx t.cy t.cz = cW at *
  generalize plH t.plane t.cx t.cy t.cz = cH at *
  obtain ⟨FF, hFF⟩ : ∃ FF, chF t.plane (cU * 16) (cW * 16) (spF t.spokes) = FF := ⟨_, rfl⟩
  have HF : ∀ i, Hid (FF i 0 = spX t.plane (cU * 16 + spF t.spokes i 0) (cW * 16 + spF t.spokes i 1) (spF t.spokes i 3) ∧ FF i 1 = spY t.plane (cU * 16 + spF t.spokes i 0) (cW * 16 + spF t.spokes i 1) (spF t.spokes i 3) ∧ FF i 2 = spZ t.plane (cU * 16 + spF t.spokes i 0) (cW * 16 + spF t.spokes i 1) (spF t.spokes i 3)) := by
    intro i; rw [← hFF]; exact ⟨rfl, rfl, rfl⟩
  rw [hFF]
  clear hFF
  have RS : ∀ (w : World) (v : Value) (B : Nat), w.ownsRow B 34 4 v t.spokes.length (t.spokes.flatMap spc) → ∃ g cap, v = .slice (some ⟨g, 0, none⟩) t.spokes.length cap ∧ B ≤ g ∧ Row g (t.spokes.length * 4) (t.spokes.length * 4) (fun j => .int .i64 (spF t.spokes (j / 4) (j % 4))) w := fun w v B h => row_spokes h (by omega)
  unfold SpokesPost at SP
  generalize spF t.spokes = S at *
  generalize t.spokes.flatMap spc = xs at *
  generalize t.spokes.length = n at *
  obtain ⟨i0, hi', hz0, hz1, hz2⟩ := info_parts infoPt
  have hI : ItC t w.heap.size (w.alloc (.cells #[.int .i64 t.kind, .int .i64 t.block, .int .i64 t.fx, .int .i64 t.fy, .int .i64 t.fz, .int .i64 t.tx, .int .i64 t.ty, .int .i64 t.tz, .int .i64 t.plane, .int .i64 t.cx, .int .i64 t.cy, .int .i64 t.cz, .int .i64 t.dir, .bool t.full, .int .i64 t.feed, .bool t.perrev, .int .i64 t.side, .int .i64 t.radius, .int .i64 t.blend, .int .i64 t.n, .int .i64 t.speed, .bool t.on] 27)) := ItC.fresh t w _ rfl
  have hT : Lf w.heap.size (w.heap.size + 1) [(⟨w.heap.size, 8, none⟩, .int .i64 t.plane), (⟨w.heap.size, 9, none⟩, .int .i64 t.cx), (⟨w.heap.size, 10, none⟩, .int .i64 t.cy), (⟨w.heap.size, 11, none⟩, .int .i64 t.cz)] w (w.alloc (.cells #[.int .i64 t.kind, .int .i64 t.block, .int .i64 t.fx, .int .i64 t.fy, .int .i64 t.fz, .int .i64 t.tx, .int .i64 t.ty, .int .i64 t.tz, .int .i64 t.plane, .int .i64 t.cx, .int .i64 t.cy, .int .i64 t.cz, .int .i64 t.dir, .bool t.full, .int .i64 t.feed, .bool t.perrev, .int .i64 t.side, .int .i64 t.radius, .int .i64 t.blend, .int .i64 t.n, .int .i64 t.speed, .bool t.on] 27)) := ⟨by simp [List.forall_mem_cons, go_sem], by simp [List.forall_mem_cons, go_sem], by simp [List.forall_mem_cons] <;> omega, by simp, by (repeat (first | exact Below.refl _ _ | refine Below.alloc ?_ (by simp <;> omega) _)), by omega⟩
  go_enter Try.func19, Try.ntmps19
  go_upto_region 1 with fail
  refine wp_cls (fun wr => ItC t w.heap.size wr ∧ Lf w.heap.size (w.heap.size + 1) [(⟨w.heap.size, 8, none⟩, .int .i64 t.plane), (⟨w.heap.size, 9, none⟩, .int .i64 t.cx), (⟨w.heap.size, 10, none⟩, .int .i64 t.cy), (⟨w.heap.size, 11, none⟩, .int .i64 t.cz)] w wr) ⟨hI, hT⟩ ?_
  clear hT hI
  rintro w0 ⟨hI, hT⟩
  go_wp2_with (refine wpList_load_g (by rfl) 27 (.tmp 1) rfl w.heap.size 0 rfl (itL t) _ hI.rg Try.underlying27 rfl (by kernel_rfl) ?_)
  refine (VP _).out.mono ?_
  rintro e w1 ⟨rfl, hb1⟩
  have hI := hI.next hb1
  have hT := hT.next hb1
  clear hb1 VP
  go_wp2_with (refine wpList_load_g (by rfl) 27 (.tmp 1) rfl w.heap.size 0 rfl (itL t) _ hI.rg Try.underlying27 rfl (by kernel_rfl) ?_)
  clear hI
  refine (SP _).out.mono ?_
  rintro e w2 ⟨v, rfl, hO, hb1⟩
  have hlw := hT.lt
  have hT := hT.next hb1
  clear hb1 SP
  obtain ⟨gs, cap, rfl, hgs, hR⟩ := RS _ _ _ hO
  clear hO RS
  go_upto_region 6 with fail
  (refine wp_region_class (ChC t n gs S w) (ChC.mk (hT.next (Below.refl _ _).drew) (hR.next (Below.refl _ _).drew)) (by kernel_rfl) (by kernel_rfl) ?_; repeat (refine wpQuiet_step (fun qK9 qH9 => ?_); go_simp; first | (refine qH9 _ ?_; clear qH9 qK9) | (apply Exists.intro; refine ⟨?_, qH9 _ ?_⟩; (first | (intros; rfl) | (first | (intro wx hC; ((have qk9 := ((hC.bx)).cells; simp only [List.forall_mem_cons, List.not_mem_nil, false_implies, implies_true, and_true] at qk9; repeat (obtain ⟨qk8, qk9⟩ := qk9)); go_simp; first | done | rfl)) | (intro wx hC; with_reducible exact Calls.lays (SCc wx).out (fun _ => hC.next)) | (intro wx hC; with_reducible exact Calls.lays (PLc wx).out (fun _ => hC.next)))); clear qH9 qK9)))
  refine wpQuiet_nil ?_
  clear hT hR SCc PLc
  intro w3 hT
  obtain ⟨B, hB⟩ : ∃ B, w3.heap.size = B := ⟨_, rfl⟩
  have hBe := hT.bx.lt
  have hl3 := hT.rs.lt
  have hC : ChR t n gs B 0 S FF (.slice none 0 0) w w3 := ⟨hT.bx.sub (by simp), hT.rs, World.ownsRow_nil _ _ _ _⟩
  have hB0 : B ≤ w3.heap.size := by omega
  rewrite [hB] at hl3 hBe
  clear hT hB
  go_wp2_with fail
  go_loopw [9, 41] (fun v q wr => ∃ i : Nat, i ≤ n ∧ q = .int .i64 (i : Int) ∧ ChR t n gs B i S FF v w wr ∧ B ≤ wr.heap.size) (fun _ q _ => n - (intOf q).toNat)
  case atStart => exact ⟨0, Nat.zero_le _, rfl, hC, hB0⟩
  case round =>
  clear hC
  obtain ⟨i, hin, rfl, hC, hBw⟩ := hrel
  by_cases hi : i < n
  · have hdec : decide ((i : Int) < (n : Int)) = true := decide_eq_true (by omega)
    have hlt : (i : Int) < (n : Int) := by omega
    have hi0 : (0 : Int) ≤ (i : Int) := by omega
    obtain ⟨⟨s1, s2⟩, ⟨s3, s4⟩, s5, s6⟩ := bd i hi
    obtain ⟨yc0, yc1, yc2, yc3⟩ := hC.rs.spoke hi
    have HFi := HF i
    clear bd HF
    generalize S i 0 = su at *
    generalize S i 1 = sw at *
    generalize S i 2 = sr at *
    generalize S i 3 = sh at *
    obtain ⟨gq, hgq⟩ : ∃ g, wr.heap.size = g := ⟨_, rfl⟩
    have hV := hC.bx.pushg gq #[.int .i64 su, .int .i64 sw, .int .i64 sr, .int .i64 sh] 34 hgq
    have hC := hC.next ((Below.refl _ _).alloc (Nat.le_refl _) (.cells #[.int .i64 su, .int .i64 sw, .int .i64 sr, .int .i64 sh] 34))
    rewrite [hgq] at hBw
    go_upto_region 11 with fail
    try rewrite [hgq]
    refine wp_cls (fun wx => ChR t n gs B i S FF _ w wx ∧ Lf w.heap.size (gq + 1) [(⟨gq, 0, none⟩, .int .i64 su), (⟨gq, 1, none⟩, .int .i64 sw), (⟨gq, 2, none⟩, .int .i64 sr), (⟨gq, 3, none⟩, .int .i64 sh), (⟨w.heap.size, 8, none⟩, .int .i64 t.plane)] w wx) ⟨hC, hV⟩ ?_
    clear hC hV hgq yc0 yc1 yc2 yc3
    rintro wx ⟨hC, hV⟩
    have kc := hV.cells
    have kf := hV.frz
    simp only [List.forall_mem_cons, List.not_mem_nil, false_implies, implies_true, and_true] at kc kf
    obtain ⟨yc0, yc1, yc2, yc3, yc4⟩ := kc
    obtain ⟨yf0, yf1, yf2, yf3, yf4⟩ := kf
    go_wp2_with fail
    refine (SPC _ _ _ _).out.mono ?_
    rintro e w8 ⟨rfl, hb1⟩
    have hC := hC.next hb1
    have hV := hV.next hb1
    have hl8 := hV.lt
    clear hb1 hV yc0 yf0 yc1 yf1 yc2 yf2 yc3 yf3 yc4 yf4
    have OW := hC.ow
    have hC := hC.next ((Below.refl _ _).alloc (Nat.le_refl _) (.cells #[.int .i64 (spX t.plane (cU * 16 + su) (cW * 16 + sw) sh), .int .i64 (spY t.plane (cU * 16 + su) (cW * 16 + sw) sh), .int .i64 (spZ t.plane (cU * 16 + su) (cW * 16 + sw) sh)] 47))
    go_wp2_with (at_builtin; refine wpList_append_own _ rfl _ _ 38 rfl B 47 i0 (.agg #[.int .i64 0, .int .i64 0, .int .i64 0]) 3 24 Try.underlying38 hi' hz0 hz1 hz2 rfl (by decide) _ _ _ rfl (OW.alloc _) ⟨w8.heap.size, 0, none⟩ 1 1 [.int .i64 (spX t.plane (cU * 16 + su) (cW * 16 + sw) sh), .int .i64 (spY t.plane (cU * 16 + su) (cW * 16 + sw) sh), .int .i64 (spZ t.plane (cU * 16 + su) (cW * 16 + sw) sh)] rfl rfl (news3 _ _ _ _ _) (by intro u hu; simp at hu; rcases hu with rfl | rfl | rfl <;> rfl) (by unfold maxLen; omega) (by omega) (by simp; omega) ?_; intro v' w' hown' hgrow _)
    have hgs := hgrow.size
    simp at hgs
    have hC := hC.grown hgrow (by omega) (by omega) _ _ _ HFi.out.1 HFi.out.2.1 HFi.out.2.2 hown'
    clear hown' hgrow OW
    go_wp2_with fail
    go_roundw
    case rel => exact ⟨i + 1, by omega, by go_num, hC, by omega⟩
    case measure => simp [intOf]; omega
  · have hdec : decide ((i : Int) < (n : Int)) = false := decide_eq_false (by omega)
    have hlt : ¬ (i : Int) < (n : Int) := by omega
    obtain rfl : i = n := by omega
    have OW := hC.ow
    obtain ⟨go, cap, rfl, hgo, hgl⟩ := OW.form (by omega)
    go_wp2_with fail
    go_ret2
    refine ⟨go, cap, rfl, by omega, ⟨fun j hj => ?_, fun j hj => ?_, fun j _ => OW.frozenAt j, hgl⟩, hC.bx.be⟩
    · rw [OW.cellAt j hj]; exact rowL_at _ hj
    · rw [OW.cellAt j hj]; exact ⟨_, rowL_at _ hj⟩
end Go.Proofs.Ytkjjoclbjkpdaaa
