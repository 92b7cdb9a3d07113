/- Proved here: Spokes of the reference for a valid arc whose ends lie in bounds: the spokes of its pieces; ranges as stated. -/
import Derived.Test.YtkjjoclbjkpdaaaNb5R
namespace Go.Proofs.Ytkjjoclbjkpdaaa
open Go.RowKit
set_option linter.unusedVariables false
set_option linter.unusedSimpArgs false
structure SpI (t : Itm) (aU aW aH bU bW bH rA rB : Int) (l2 : List Spk) (g : Nat) (w0 : World) (A : Act) (h : Nat) (v2 v : Value) (L : Nat → Bool) (a : Act) (w : World) : Prop where
  off : OffOf [19, 20, 21, 22, 23, 24, 25, 26, 27, 28, 2, 3] A a
  k0 : L 0 = true → a.tmps[19]? = some (.agg #[.int .i64 (aU * 16), .int .i64 (aW * 16), .int .i64 (rA), .int .i64 (aH * 16)])
  k1 : L 1 = true → a.tmps[20]? = some (.slice (some ⟨h, 0, none⟩) 1 1)
  k2 : L 2 = true → a.tmps[21]? = some (.agg #[.int .i64 (aU * 16), .int .i64 (aW * 16), .int .i64 (rA), .int .i64 (aH * 16)])
  k3 : L 3 = true → a.tmps[22]? = some (.agg #[.int .i64 (bU * 16), .int .i64 (bW * 16), .int .i64 (rB), .int .i64 (bH * 16)])
  k4 : L 4 = true → a.tmps[23]? = some (.pointer (some ⟨w0.heap.size, 12, none⟩))
  k5 : L 5 = true → a.tmps[24]? = some (.int .i64 t.dir)
  k6 : L 6 = true → a.tmps[25]? = some (.pointer (some ⟨w0.heap.size, 13, none⟩))
  k7 : L 7 = true → a.tmps[26]? = some (.bool t.full)
  k8 : L 8 = true → a.tmps[27]? = some (v2)
  k9 : L 9 = true → a.tmps[28]? = some (v)
  k10 : L 10 = true → a.tmps[2]? = some (v)
  k11 : L 11 = true → a.tmps[3]? = some (.bool true)
  bx : Lf w0.heap.size (g + 2) [(⟨w0.heap.size, 12, none⟩, .int .i64 t.dir), (⟨w0.heap.size, 13, none⟩, .bool t.full), (⟨g, 0, none⟩, .int .i64 (aU * 16)), (⟨g, 1, none⟩, .int .i64 (aW * 16)), (⟨g, 2, none⟩, .int .i64 (rA)), (⟨g, 3, none⟩, .int .i64 (aH * 16)), (⟨(g + 1), 0, none⟩, .int .i64 (bU * 16)), (⟨(g + 1), 1, none⟩, .int .i64 (bW * 16)), (⟨(g + 1), 2, none⟩, .int .i64 (rB)), (⟨(g + 1), 3, none⟩, .int .i64 (bH * 16))] w0 w
  d1 : L 9 = true → L 1 = true
  d8 : L 9 = true → L 8 = true
  dA : L 10 = true → L 9 = true
  o1 : L 1 = true → L 9 = false → w.ownsRow (g + 2) 34 4 (.slice (some ⟨h, 0, none⟩) 1 1) 1 (spc (⟨aU * 16, aW * 16, rA, aH * 16⟩ : Spk))
  o2 : L 8 = true → L 9 = false → w.ownsRow (g + 2) 34 4 v2 l2.length (l2.flatMap spc)
  ne : L 1 = true → L 8 = true → L 9 = false → some h ≠ v2.ownBlock
  o3 : L 9 = true → w.ownsRow (g + 2) 34 4 v (1 + l2.length) (spc (⟨aU * 16, aW * 16, rA, aH * 16⟩ : Spk) ++ l2.flatMap spc)
set_option maxHeartbeats 8000000 in
set_option maxRecDepth 40000 in
theorem spokesR_any (t : Itm) (lo hi hl hh : Int) (w : World) (ha : t.Arc lo hi hl hh) (VR : ∀ w, Hid (Calls Try.prog 21 #[.agg #[.int .i64 t.kind, .int .i64 t.block, .int .i64 t.fx, .int .i64 t.fy, .int .i64 t.fz, .int .i64 t.tx, .int .i64 t.ty, .int .i64 t.tz, .int .i64 t.plane, .int .i64 t.cx, .int .i64 t.cy, .int .i64 t.cz, .int .i64 t.dir, .bool t.full, .int .i64 t.feed, .bool t.perrev, .int .i64 t.side, .int .i64 t.radius, .int .i64 t.blend, .int .i64 t.n, .int .i64 t.speed, .bool t.on]] w fun e w' => e = .returned (.bool true) ∧ Below w.heap.size w w')) :
    Calls Try.prog 17 #[.agg #[.int .i64 t.kind, .int .i64 t.block, .int .i64 t.fx, .int .i64 t.fy, .int .i64 t.fz, .int .i64 t.tx, .int .i64 t.ty, .int .i64 t.tz, .int .i64 t.plane, .int .i64 t.cx, .int .i64 t.cy, .int .i64 t.cz, .int .i64 t.dir, .bool t.full, .int .i64 t.feed, .bool t.perrev, .int .i64 t.side, .int .i64 t.radius, .int .i64 t.blend, .int .i64 t.n, .int .i64 t.speed, .bool t.on]] w (SpokesPost t.spokes w) := by
  obtain ⟨ht, hk, hd, bn, ga, gb⟩ := ha
  have EN := fun w => Lib.hid (EndsR_any t w ht)
  have PC := fun (w : World) => Lib.hid (piecesR_any bn t.dir hd 16 0 rfl t.full t.A.u t.A.w t.A.r t.A.h t.B.u t.B.w t.B.r t.B.h w ga gb)
  have hl2 := pcs_len t.dir 16 t.full t.A t.B
  clear ga gb bn ht
  unfold Itm.spokes
  have eA : t.A = ⟨t.aU * 16, t.aW * 16, rad (t.aU * 16 * (t.aU * 16) + t.aW * 16 * (t.aW * 16)), t.aH * 16⟩ := rfl
  have eB : t.B = ⟨t.bU * 16, t.bW * 16, rad (t.bU * 16 * (t.bU * 16) + t.bW * 16 * (t.bW * 16)), t.bH * 16⟩ := rfl
  rw [eA, eB] at PC hl2 EN ⊢
  clear eA eB
  simp only at PC EN
  generalize rad (t.aU * 16 * (t.aU * 16) + t.aW * 16 * (t.aW * 16)) = rA at *
  generalize rad (t.bU * 16 * (t.bU * 16) + t.bW * 16 * (t.bW * 16)) = rB at *
  generalize t.aU = aU at *
  generalize t.aW = aW at *
  generalize t.aH = aH at *
  generalize t.bU = bU at *
  generalize t.bW = bW at *
  generalize t.bH = bH at *
  generalize pcs t.dir 16 t.full ⟨aU * 16, aW * 16, rA, aH * 16⟩ ⟨bU * 16, bW * 16, rB, bH * 16⟩ = l2 at *
  have HK := Lib.hid hk
  clear hk
  obtain ⟨i0, hi, hz0, hz1, hz2⟩ := info_parts infoSp
  have hI : ItC t w.heap.size (w.alloc (.cells #[.int .i64 t.kind, .int .i64 t.block, .int .i64 t.fx, .int .i64 t.fy, .int .i64 t.fz, .int .i64 t.tx, .int .i64 t.ty, .int .i64 t.tz, .int .i64 t.plane, .int .i64 t.cx, .int .i64 t.cy, .int .i64 t.cz, .int .i64 t.dir, .bool t.full, .int .i64 t.feed, .bool t.perrev, .int .i64 t.side, .int .i64 t.radius, .int .i64 t.blend, .int .i64 t.n, .int .i64 t.speed, .bool t.on] 27)) := ItC.fresh t w _ rfl
  have hT : Lf w.heap.size (w.heap.size + 1) [(⟨w.heap.size, 12, none⟩, .int .i64 t.dir), (⟨w.heap.size, 13, none⟩, .bool t.full)] w (w.alloc (.cells #[.int .i64 t.kind, .int .i64 t.block, .int .i64 t.fx, .int .i64 t.fy, .int .i64 t.fz, .int .i64 t.tx, .int .i64 t.ty, .int .i64 t.tz, .int .i64 t.plane, .int .i64 t.cx, .int .i64 t.cy, .int .i64 t.cz, .int .i64 t.dir, .bool t.full, .int .i64 t.feed, .bool t.perrev, .int .i64 t.side, .int .i64 t.radius, .int .i64 t.blend, .int .i64 t.n, .int .i64 t.speed, .bool t.on] 27)) := ⟨by simp [List.forall_mem_cons, go_sem], by simp [List.forall_mem_cons, go_sem], by simp [List.forall_mem_cons] <;> omega, by simp, by (repeat (first | exact Below.refl _ _ | refine Below.alloc ?_ (by simp <;> omega) _)), by omega⟩
  go_enter Try.func17, Try.ntmps17
  go_upto_region 1 with fail
  refine wp_cls (fun wr => ItC t w.heap.size wr ∧ Lf w.heap.size (w.heap.size + 1) [(⟨w.heap.size, 12, none⟩, .int .i64 t.dir), (⟨w.heap.size, 13, none⟩, .bool t.full)] w wr) ⟨hI, hT⟩ ?_
  clear hT hI
  rintro w0 ⟨hI, hT⟩
  have yk : w0.cell? ⟨w.heap.size, 0, none⟩ = some (.int .i64 3) := HK.out ▸ (hI.rg 0 (.int .i64 t.kind) rfl : w0.cell? ⟨w.heap.size, 0, none⟩ = some (.int .i64 t.kind))
  clear HK
  go_wp2_with (refine wpList_load_g (by rfl) 27 (.tmp 1) rfl w.heap.size 0 rfl (itL t) _ hI.rg Try.underlying27 rfl (by kernel_rfl) ?_)
  clear yk
  refine (VR _).out.mono ?_
  rintro e w1 ⟨rfl, hb1⟩
  have hI := hI.next hb1
  have hT := hT.next hb1
  clear hb1 VR
  go_wp2_with (refine wpList_load_g (by rfl) 27 (.tmp 1) rfl w.heap.size 0 rfl (itL t) _ hI.rg Try.underlying27 rfl (by kernel_rfl) ?_)
  clear hI
  refine (EN _).out.mono ?_
  rintro e w2 ⟨rfl, hb1⟩
  have hT := hT.next hb1
  clear hb1 EN
  have hV := (hT.pushg w2.heap.size #[.int .i64 (aU * 16), .int .i64 (aW * 16), .int .i64 rA, .int .i64 (aH * 16)] 34 rfl).pushg (w2.heap.size + 1) #[.int .i64 (bU * 16), .int .i64 (bW * 16), .int .i64 rB, .int .i64 (bH * 16)] 34 (by simp)
  have hg : w.heap.size + 1 ≤ w2.heap.size := hT.lt
  have hV := hV.sub (ds := [(⟨w.heap.size, 12, none⟩, .int .i64 t.dir), (⟨w.heap.size, 13, none⟩, .bool t.full), (⟨w2.heap.size, 0, none⟩, .int .i64 (aU * 16)), (⟨w2.heap.size, 1, none⟩, .int .i64 (aW * 16)), (⟨w2.heap.size, 2, none⟩, .int .i64 (rA)), (⟨w2.heap.size, 3, none⟩, .int .i64 (aH * 16)), (⟨(w2.heap.size + 1), 0, none⟩, .int .i64 (bU * 16)), (⟨(w2.heap.size + 1), 1, none⟩, .int .i64 (bW * 16)), (⟨(w2.heap.size + 1), 2, none⟩, .int .i64 (rB)), (⟨(w2.heap.size + 1), 3, none⟩, .int .i64 (bH * 16))]) (by simp [blk])
  clear hT
  go_upto_region 4 with fail
  generalize w2.heap.size = g at *
  refine wp_cls (fun wr => Lf w.heap.size (g + 2) [(⟨w.heap.size, 12, none⟩, .int .i64 t.dir), (⟨w.heap.size, 13, none⟩, .bool t.full), (⟨g, 0, none⟩, .int .i64 (aU * 16)), (⟨g, 1, none⟩, .int .i64 (aW * 16)), (⟨g, 2, none⟩, .int .i64 (rA)), (⟨g, 3, none⟩, .int .i64 (aH * 16)), (⟨(g + 1), 0, none⟩, .int .i64 (bU * 16)), (⟨(g + 1), 1, none⟩, .int .i64 (bW * 16)), (⟨(g + 1), 2, none⟩, .int .i64 (rB)), (⟨(g + 1), 3, none⟩, .int .i64 (bH * 16))] w wr) hV ?_
  clear hV
  intro wr hT
  generalize hA : (Act.mk _ _) = A
  have hsz : A.tmps.size = 29 := by rw [← hA]; rfl
  have hA1 : A.tmps[1]? = some (.pointer (some ⟨w.heap.size, 0, none⟩)) := by rw [← hA]; rfl
  have hA4 : A.tmps[4]? = some (.pointer (some ⟨g, 0, none⟩)) := by rw [← hA]; rfl
  have hA5 : A.tmps[5]? = some (.pointer (some ⟨g + 1, 0, none⟩)) := by rw [← hA]; rfl
  have HA := Lib.hid hA
  clear hA
  refine wp_region_inv (fun L a wx => ∃ h v2 v, SpI t aU aW aH bU bW bH rA rB l2 g w A h v2 v L a wx) (by kernel_rfl) (by kernel_rfl) ?_ ?_ ?_
  · have hD := (Below.refl wr.heap.size wr).drew
    exact ⟨0, .slice none 0 0, .slice none 0 0, by constructor <;> first | exact OffOf.refl _ _ | exact hT.next hD | (intro h; exact nomatch h) | (intro h h'; exact nomatch h) | (intro h h' h''; exact nomatch h)⟩
  · intro i o ho L a wx hI hLi hdeps K hK'
    obtain ⟨h, v2, v, h'⟩ := hI
    match i, ho, hLi, hK' with
    | 0, ho, hLi, hK' =>
      cases ho
      have ea := (h'.off.off 4 (by decide)).trans hA4
      have kc := h'.bx.cells
      simp only [List.forall_mem_cons, List.not_mem_nil, false_implies, implies_true, and_true] at kc
      obtain ⟨yc0, yc1, yc2, yc3, yc4, yc5, yc6, yc7, yc8, yc9⟩ := kc
      go_simp
      exact hK' _ _ ⟨h, v2, v, { off := h'.off.put (by decide) _, k0 := fun _ => put_at _ (by have := h'.off.size; omega), k1 := fun q => put_ne _ (by decide) (h'.k1 (by simpa using q)), k2 := fun q => put_ne _ (by decide) (h'.k2 (by simpa using q)), k3 := fun q => put_ne _ (by decide) (h'.k3 (by simpa using q)), k4 := fun q => put_ne _ (by decide) (h'.k4 (by simpa using q)), k5 := fun q => put_ne _ (by decide) (h'.k5 (by simpa using q)), k6 := fun q => put_ne _ (by decide) (h'.k6 (by simpa using q)), k7 := fun q => put_ne _ (by decide) (h'.k7 (by simpa using q)), k8 := fun q => put_ne _ (by decide) (h'.k8 (by simpa using q)), k9 := fun q => put_ne _ (by decide) (h'.k9 (by simpa using q)), k10 := fun q => put_ne _ (by decide) (h'.k10 (by simpa using q)), k11 := fun q => put_ne _ (by decide) (h'.k11 (by simpa using q)), d1 := fun q => by simpa using h'.d1 (by simpa using q), d8 := fun q => by simpa using h'.d8 (by simpa using q), dA := fun q => by simpa using h'.dA (by simpa using q), bx := h'.bx, o1 := fun q r => h'.o1 (by simpa using q) (by simpa using r), o2 := fun q r => h'.o2 (by simpa using q) (by simpa using r), ne := fun q s r => h'.ne (by simpa using q) (by simpa using s) (by simpa using r), o3 := fun q => h'.o3 (by simpa using q) }⟩
    | 1, ho, hLi, hK' =>
      cases ho
      have ea := h'.k0 (hdeps ⟨0, .data⟩ (by simp) (by rfl))
      have OL := World.ownsRow_lit (base := g + 2) (e := 34) (size := 4) wx #[.int .i64 (aU * 16), .int .i64 (aW * 16), .int .i64 rA, .int .i64 (aH * 16)] 1 h'.bx.lt (by decide) rfl
      go_simp
      exact hK' _ _ ⟨wx.heap.size, v2, v, { off := h'.off.put (by decide) _, k0 := fun q => put_ne _ (by decide) (h'.k0 (by simpa using q)), k1 := fun _ => put_at _ (by have := h'.off.size; omega), k2 := fun q => put_ne _ (by decide) (h'.k2 (by simpa using q)), k3 := fun q => put_ne _ (by decide) (h'.k3 (by simpa using q)), k4 := fun q => put_ne _ (by decide) (h'.k4 (by simpa using q)), k5 := fun q => put_ne _ (by decide) (h'.k5 (by simpa using q)), k6 := fun q => put_ne _ (by decide) (h'.k6 (by simpa using q)), k7 := fun q => put_ne _ (by decide) (h'.k7 (by simpa using q)), k8 := fun q => put_ne _ (by decide) (h'.k8 (by simpa using q)), k9 := fun q => absurd (h'.d1 (by simpa using q)) (by simp [hLi]), k10 := fun q => absurd (h'.d1 (h'.dA (by simpa using q))) (by simp [hLi]), k11 := fun q => put_ne _ (by decide) (h'.k11 (by simpa using q)), d1 := fun _ => by simp, d8 := fun q => by simpa using h'.d8 (by simpa using q), dA := fun q => by simpa using h'.dA (by simpa using q), bx := h'.bx.next ((Below.refl _ _).alloc (Nat.le_refl _) _), o1 := fun _ _ => OL, o2 := fun q r => ownsRow_nx (h'.o2 (by simpa using q) (by simpa using r)) ((Below.refl _ _).alloc (Nat.le_refl _) _), ne := fun _ s r e => by have := (h'.o2 (by simpa using s) (by simpa using r)).lt _ e.symm; omega, o3 := fun q => absurd (h'.d1 (by simpa using q)) (by simp [hLi]) }⟩
    | 2, ho, hLi, hK' =>
      cases ho
      have ea := (h'.off.off 4 (by decide)).trans hA4
      have kc := h'.bx.cells
      simp only [List.forall_mem_cons, List.not_mem_nil, false_implies, implies_true, and_true] at kc
      obtain ⟨yc0, yc1, yc2, yc3, yc4, yc5, yc6, yc7, yc8, yc9⟩ := kc
      go_simp
      exact hK' _ _ ⟨h, v2, v, { off := h'.off.put (by decide) _, k0 := fun q => put_ne _ (by decide) (h'.k0 (by simpa using q)), k1 := fun q => put_ne _ (by decide) (h'.k1 (by simpa using q)), k2 := fun _ => put_at _ (by have := h'.off.size; omega), k3 := fun q => put_ne _ (by decide) (h'.k3 (by simpa using q)), k4 := fun q => put_ne _ (by decide) (h'.k4 (by simpa using q)), k5 := fun q => put_ne _ (by decide) (h'.k5 (by simpa using q)), k6 := fun q => put_ne _ (by decide) (h'.k6 (by simpa using q)), k7 := fun q => put_ne _ (by decide) (h'.k7 (by simpa using q)), k8 := fun q => put_ne _ (by decide) (h'.k8 (by simpa using q)), k9 := fun q => put_ne _ (by decide) (h'.k9 (by simpa using q)), k10 := fun q => put_ne _ (by decide) (h'.k10 (by simpa using q)), k11 := fun q => put_ne _ (by decide) (h'.k11 (by simpa using q)), d1 := fun q => by simpa using h'.d1 (by simpa using q), d8 := fun q => by simpa using h'.d8 (by simpa using q), dA := fun q => by simpa using h'.dA (by simpa using q), bx := h'.bx, o1 := fun q r => h'.o1 (by simpa using q) (by simpa using r), o2 := fun q r => h'.o2 (by simpa using q) (by simpa using r), ne := fun q s r => h'.ne (by simpa using q) (by simpa using s) (by simpa using r), o3 := fun q => h'.o3 (by simpa using q) }⟩
    | 3, ho, hLi, hK' =>
      cases ho
      have ea := (h'.off.off 5 (by decide)).trans hA5
      have kc := h'.bx.cells
      simp only [List.forall_mem_cons, List.not_mem_nil, false_implies, implies_true, and_true] at kc
      obtain ⟨yc0, yc1, yc2, yc3, yc4, yc5, yc6, yc7, yc8, yc9⟩ := kc
      go_simp
      exact hK' _ _ ⟨h, v2, v, { off := h'.off.put (by decide) _, k0 := fun q => put_ne _ (by decide) (h'.k0 (by simpa using q)), k1 := fun q => put_ne _ (by decide) (h'.k1 (by simpa using q)), k2 := fun q => put_ne _ (by decide) (h'.k2 (by simpa using q)), k3 := fun _ => put_at _ (by have := h'.off.size; omega), k4 := fun q => put_ne _ (by decide) (h'.k4 (by simpa using q)), k5 := fun q => put_ne _ (by decide) (h'.k5 (by simpa using q)), k6 := fun q => put_ne _ (by decide) (h'.k6 (by simpa using q)), k7 := fun q => put_ne _ (by decide) (h'.k7 (by simpa using q)), k8 := fun q => put_ne _ (by decide) (h'.k8 (by simpa using q)), k9 := fun q => put_ne _ (by decide) (h'.k9 (by simpa using q)), k10 := fun q => put_ne _ (by decide) (h'.k10 (by simpa using q)), k11 := fun q => put_ne _ (by decide) (h'.k11 (by simpa using q)), d1 := fun q => by simpa using h'.d1 (by simpa using q), d8 := fun q => by simpa using h'.d8 (by simpa using q), dA := fun q => by simpa using h'.dA (by simpa using q), bx := h'.bx, o1 := fun q r => h'.o1 (by simpa using q) (by simpa using r), o2 := fun q r => h'.o2 (by simpa using q) (by simpa using r), ne := fun q s r => h'.ne (by simpa using q) (by simpa using s) (by simpa using r), o3 := fun q => h'.o3 (by simpa using q) }⟩
    | 4, ho, hLi, hK' =>
      cases ho
      have ea := (h'.off.off 1 (by decide)).trans hA1
      go_simp
      exact hK' _ _ ⟨h, v2, v, { off := h'.off.put (by decide) _, k0 := fun q => put_ne _ (by decide) (h'.k0 (by simpa using q)), k1 := fun q => put_ne _ (by decide) (h'.k1 (by simpa using q)), k2 := fun q => put_ne _ (by decide) (h'.k2 (by simpa using q)), k3 := fun q => put_ne _ (by decide) (h'.k3 (by simpa using q)), k4 := fun _ => put_at _ (by have := h'.off.size; omega), k5 := fun q => put_ne _ (by decide) (h'.k5 (by simpa using q)), k6 := fun q => put_ne _ (by decide) (h'.k6 (by simpa using q)), k7 := fun q => put_ne _ (by decide) (h'.k7 (by simpa using q)), k8 := fun q => put_ne _ (by decide) (h'.k8 (by simpa using q)), k9 := fun q => put_ne _ (by decide) (h'.k9 (by simpa using q)), k10 := fun q => put_ne _ (by decide) (h'.k10 (by simpa using q)), k11 := fun q => put_ne _ (by decide) (h'.k11 (by simpa using q)), d1 := fun q => by simpa using h'.d1 (by simpa using q), d8 := fun q => by simpa using h'.d8 (by simpa using q), dA := fun q => by simpa using h'.dA (by simpa using q), bx := h'.bx, o1 := fun q r => h'.o1 (by simpa using q) (by simpa using r), o2 := fun q r => h'.o2 (by simpa using q) (by simpa using r), ne := fun q s r => h'.ne (by simpa using q) (by simpa using s) (by simpa using r), o3 := fun q => h'.o3 (by simpa using q) }⟩
    | 5, ho, hLi, hK' =>
      cases ho
      have ea := h'.k4 (hdeps ⟨4, .data⟩ (by simp) (by rfl))
      have kc := h'.bx.cells
      simp only [List.forall_mem_cons, List.not_mem_nil, false_implies, implies_true, and_true] at kc
      obtain ⟨yc0, yc1, yc2, yc3, yc4, yc5, yc6, yc7, yc8, yc9⟩ := kc
      go_simp
      exact hK' _ _ ⟨h, v2, v, { off := h'.off.put (by decide) _, k0 := fun q => put_ne _ (by decide) (h'.k0 (by simpa using q)), k1 := fun q => put_ne _ (by decide) (h'.k1 (by simpa using q)), k2 := fun q => put_ne _ (by decide) (h'.k2 (by simpa using q)), k3 := fun q => put_ne _ (by decide) (h'.k3 (by simpa using q)), k4 := fun q => put_ne _ (by decide) (h'.k4 (by simpa using q)), k5 := fun _ => put_at _ (by have := h'.off.size; omega), k6 := fun q => put_ne _ (by decide) (h'.k6 (by simpa using q)), k7 := fun q => put_ne _ (by decide) (h'.k7 (by simpa using q)), k8 := fun q => put_ne _ (by decide) (h'.k8 (by simpa using q)), k9 := fun q => put_ne _ (by decide) (h'.k9 (by simpa using q)), k10 := fun q => put_ne _ (by decide) (h'.k10 (by simpa using q)), k11 := fun q => put_ne _ (by decide) (h'.k11 (by simpa using q)), d1 := fun q => by simpa using h'.d1 (by simpa using q), d8 := fun q => by simpa using h'.d8 (by simpa using q), dA := fun q => by simpa using h'.dA (by simpa using q), bx := h'.bx, o1 := fun q r => h'.o1 (by simpa using q) (by simpa using r), o2 := fun q r => h'.o2 (by simpa using q) (by simpa using r), ne := fun q s r => h'.ne (by simpa using q) (by simpa using s) (by simpa using r), o3 := fun q => h'.o3 (by simpa using q) }⟩
    | 6, ho, hLi, hK' =>
      cases ho
      have ea := (h'.off.off 1 (by decide)).trans hA1
      go_simp
      exact hK' _ _ ⟨h, v2, v, { off := h'.off.put (by decide) _, k0 := fun q => put_ne _ (by decide) (h'.k0 (by simpa using q)), k1 := fun q => put_ne _ (by decide) (h'.k1 (by simpa using q)), k2 := fun q => put_ne _ (by decide) (h'.k2 (by simpa using q)), k3 := fun q => put_ne _ (by decide) (h'.k3 (by simpa using q)), k4 := fun q => put_ne _ (by decide) (h'.k4 (by simpa using q)), k5 := fun q => put_ne _ (by decide) (h'.k5 (by simpa using q)), k6 := fun _ => put_at _ (by have := h'.off.size; omega), k7 := fun q => put_ne _ (by decide) (h'.k7 (by simpa using q)), k8 := fun q => put_ne _ (by decide) (h'.k8 (by simpa using q)), k9 := fun q => put_ne _ (by decide) (h'.k9 (by simpa using q)), k10 := fun q => put_ne _ (by decide) (h'.k10 (by simpa using q)), k11 := fun q => put_ne _ (by decide) (h'.k11 (by simpa using q)), d1 := fun q => by simpa using h'.d1 (by simpa using q), d8 := fun q => by simpa using h'.d8 (by simpa using q), dA := fun q => by simpa using h'.dA (by simpa using q), bx := h'.bx, o1 := fun q r => h'.o1 (by simpa using q) (by simpa using r), o2 := fun q r => h'.o2 (by simpa using q) (by simpa using r), ne := fun q s r => h'.ne (by simpa using q) (by simpa using s) (by simpa using r), o3 := fun q => h'.o3 (by simpa using q) }⟩
    | 7, ho, hLi, hK' =>
      cases ho
      have ea := h'.k6 (hdeps ⟨6, .data⟩ (by simp) (by rfl))
      have kc := h'.bx.cells
      simp only [List.forall_mem_cons, List.not_mem_nil, false_implies, implies_true, and_true] at kc
      obtain ⟨yc0, yc1, yc2, yc3, yc4, yc5, yc6, yc7, yc8, yc9⟩ := kc
      go_simp
      exact hK' _ _ ⟨h, v2, v, { off := h'.off.put (by decide) _, k0 := fun q => put_ne _ (by decide) (h'.k0 (by simpa using q)), k1 := fun q => put_ne _ (by decide) (h'.k1 (by simpa using q)), k2 := fun q => put_ne _ (by decide) (h'.k2 (by simpa using q)), k3 := fun q => put_ne _ (by decide) (h'.k3 (by simpa using q)), k4 := fun q => put_ne _ (by decide) (h'.k4 (by simpa using q)), k5 := fun q => put_ne _ (by decide) (h'.k5 (by simpa using q)), k6 := fun q => put_ne _ (by decide) (h'.k6 (by simpa using q)), k7 := fun _ => put_at _ (by have := h'.off.size; omega), k8 := fun q => put_ne _ (by decide) (h'.k8 (by simpa using q)), k9 := fun q => put_ne _ (by decide) (h'.k9 (by simpa using q)), k10 := fun q => put_ne _ (by decide) (h'.k10 (by simpa using q)), k11 := fun q => put_ne _ (by decide) (h'.k11 (by simpa using q)), d1 := fun q => by simpa using h'.d1 (by simpa using q), d8 := fun q => by simpa using h'.d8 (by simpa using q), dA := fun q => by simpa using h'.dA (by simpa using q), bx := h'.bx, o1 := fun q r => h'.o1 (by simpa using q) (by simpa using r), o2 := fun q r => h'.o2 (by simpa using q) (by simpa using r), ne := fun q s r => h'.ne (by simpa using q) (by simpa using s) (by simpa using r), o3 := fun q => h'.o3 (by simpa using q) }⟩
    | 8, ho, hLi, hK' =>
      cases ho
      have ea := h'.k2 (hdeps ⟨2, .data⟩ (by simp) (by rfl))
      have eb := h'.k3 (hdeps ⟨3, .data⟩ (by simp) (by rfl))
      have ec := h'.k5 (hdeps ⟨5, .data⟩ (by simp) (by rfl))
      have ed := h'.k7 (hdeps ⟨7, .data⟩ (by simp) (by rfl))
      go_simp
      refine (PC _).out.mono ?_
      rintro e w2 ⟨v2, rfl, ho2, hb⟩
      exact hK' _ _ ⟨h, v2, v, { off := h'.off.put (by decide) _, k0 := fun q => put_ne _ (by decide) (h'.k0 (by simpa using q)), k1 := fun q => put_ne _ (by decide) (h'.k1 (by simpa using q)), k2 := fun q => put_ne _ (by decide) (h'.k2 (by simpa using q)), k3 := fun q => put_ne _ (by decide) (h'.k3 (by simpa using q)), k4 := fun q => put_ne _ (by decide) (h'.k4 (by simpa using q)), k5 := fun q => put_ne _ (by decide) (h'.k5 (by simpa using q)), k6 := fun q => put_ne _ (by decide) (h'.k6 (by simpa using q)), k7 := fun q => put_ne _ (by decide) (h'.k7 (by simpa using q)), k8 := fun _ => put_at _ (by have := h'.off.size; omega), k9 := fun q => absurd (h'.d8 (by simpa using q)) (by simp [hLi]), k10 := fun q => absurd (h'.d8 (h'.dA (by simpa using q))) (by simp [hLi]), k11 := fun q => put_ne _ (by decide) (h'.k11 (by simpa using q)), d1 := fun q => by simpa using h'.d1 (by simpa using q), d8 := fun _ => by simp, dA := fun q => by simpa using h'.dA (by simpa using q), bx := h'.bx.next hb, o1 := fun q r => ownsRow_nx (h'.o1 (by simpa using q) (by simpa using r)) hb, o2 := fun _ _ => row_le ho2 h'.bx.lt, ne := fun s _ r => ne_of_rows (h'.o1 (by simpa using s) (by simpa using r)) (by decide) ho2, o3 := fun q => absurd (h'.d8 (by simpa using q)) (by simp [hLi]) }⟩
    | 9, ho, hLi, hK' =>
      cases ho
      have hl1 := (hdeps ⟨1, .data⟩ (by simp) (by rfl))
      have hl8 := (hdeps ⟨8, .data⟩ (by simp) (by rfl))
      have ea := eval_of (h'.k1 hl1)
      have eb := eval_of (h'.k8 hl8)
      have o1 := h'.o1 hl1 hLi
      have o2 := h'.o2 hl8 hLi
      have hne := h'.ne hl1 hl8 hLi
      obtain ⟨g2, c2, rfl, hg2, hg3⟩ := o2.form (by omega)
      refine wp_append_lies wx (.tmp 20) (.tmp 27) 30 rfl (g + 2) 34 i0 (.agg #[.int .i64 0, .int .i64 0, .int .i64 0, .int .i64 0]) 4 32 Try.underlying30 hi hz0 hz1 hz2 rfl (by decide) _ 1 _ ea o1 ⟨g2, 0, none⟩ l2.length c2 (l2.flatMap spc) eb (flat_len l2) (o2.cells rfl) (spc_one l2) (by omega) (by unfold maxLen; omega) (by omega) h'.bx.lt wx.heap.size rfl ?_
      intro g' cap' w' hown hgrow hat hlt
      exact hK' _ _ ⟨h, _, .slice (some ⟨g', 0, none⟩) (1 + l2.length) cap', { off := h'.off.put (by decide) _, k0 := fun q => put_ne _ (by decide) (h'.k0 (by simpa using q)), k1 := fun q => put_ne _ (by decide) (h'.k1 (by simpa using q)), k2 := fun q => put_ne _ (by decide) (h'.k2 (by simpa using q)), k3 := fun q => put_ne _ (by decide) (h'.k3 (by simpa using q)), k4 := fun q => put_ne _ (by decide) (h'.k4 (by simpa using q)), k5 := fun q => put_ne _ (by decide) (h'.k5 (by simpa using q)), k6 := fun q => put_ne _ (by decide) (h'.k6 (by simpa using q)), k7 := fun q => put_ne _ (by decide) (h'.k7 (by simpa using q)), k8 := fun q => put_ne _ (by decide) (h'.k8 (by simpa using q)), k9 := fun _ => put_at _ (by have := h'.off.size; omega), k10 := fun q => absurd (h'.dA (by simpa using q)) (by simp [hLi]), k11 := fun q => put_ne _ (by decide) (h'.k11 (by simpa using q)), d1 := fun _ => by simpa using hl1, d8 := fun _ => by simpa using hl8, dA := fun _ => by simp, bx := h'.bx.row hgrow (fun q e => ((h'.o1 hl1 hLi).lt q e).1), o1 := fun _ q => by simp at q, o2 := fun _ q => by simp at q, ne := fun _ _ q => by simp at q, o3 := fun _ => hown }⟩
    | 10, ho, hLi, hK' =>
      cases ho
      have hl9 := (hdeps ⟨9, .data⟩ (by simp) (by rfl))
      have ea := h'.k9 hl9
      go_simp
      exact hK' _ _ ⟨h, v2, v, { off := h'.off.put (by decide) _, k0 := fun q => put_ne _ (by decide) (h'.k0 (by simpa using q)), k1 := fun q => put_ne _ (by decide) (h'.k1 (by simpa using q)), k2 := fun q => put_ne _ (by decide) (h'.k2 (by simpa using q)), k3 := fun q => put_ne _ (by decide) (h'.k3 (by simpa using q)), k4 := fun q => put_ne _ (by decide) (h'.k4 (by simpa using q)), k5 := fun q => put_ne _ (by decide) (h'.k5 (by simpa using q)), k6 := fun q => put_ne _ (by decide) (h'.k6 (by simpa using q)), k7 := fun q => put_ne _ (by decide) (h'.k7 (by simpa using q)), k8 := fun q => put_ne _ (by decide) (h'.k8 (by simpa using q)), k9 := fun q => put_ne _ (by decide) (h'.k9 (by simpa using q)), k10 := fun _ => put_at _ (by have := h'.off.size; omega), k11 := fun q => put_ne _ (by decide) (h'.k11 (by simpa using q)), d1 := fun q => by simpa using h'.d1 (by simpa using q), d8 := fun q => by simpa using h'.d8 (by simpa using q), dA := fun _ => by simpa using hl9, bx := h'.bx, o1 := fun q r => h'.o1 (by simpa using q) (by simpa using r), o2 := fun q r => h'.o2 (by simpa using q) (by simpa using r), ne := fun q s r => h'.ne (by simpa using q) (by simpa using s) (by simpa using r), o3 := fun q => h'.o3 (by simpa using q) }⟩
    | 11, ho, hLi, hK' =>
      cases ho
      go_simp
      exact hK' _ _ ⟨h, v2, v, { off := h'.off.put (by decide) _, k0 := fun q => put_ne _ (by decide) (h'.k0 (by simpa using q)), k1 := fun q => put_ne _ (by decide) (h'.k1 (by simpa using q)), k2 := fun q => put_ne _ (by decide) (h'.k2 (by simpa using q)), k3 := fun q => put_ne _ (by decide) (h'.k3 (by simpa using q)), k4 := fun q => put_ne _ (by decide) (h'.k4 (by simpa using q)), k5 := fun q => put_ne _ (by decide) (h'.k5 (by simpa using q)), k6 := fun q => put_ne _ (by decide) (h'.k6 (by simpa using q)), k7 := fun q => put_ne _ (by decide) (h'.k7 (by simpa using q)), k8 := fun q => put_ne _ (by decide) (h'.k8 (by simpa using q)), k9 := fun q => put_ne _ (by decide) (h'.k9 (by simpa using q)), k10 := fun q => put_ne _ (by decide) (h'.k10 (by simpa using q)), k11 := fun _ => put_at _ (by have := h'.off.size; omega), d1 := fun q => by simpa using h'.d1 (by simpa using q), d8 := fun q => by simpa using h'.d8 (by simpa using q), dA := fun q => by simpa using h'.dA (by simpa using q), bx := h'.bx, o1 := fun q r => h'.o1 (by simpa using q) (by simpa using r), o2 := fun q r => h'.o2 (by simpa using q) (by simpa using r), ne := fun q s r => h'.ne (by simpa using q) (by simpa using s) (by simpa using r), o3 := fun q => h'.o3 (by simpa using q) }⟩
    | i + 12, ho, hLi, hK' => cases ho
  · intro L a wx hI hall
    obtain ⟨h, v2, v, h'⟩ := hI
    have hfr := h'.off.rebuild (fun d => if d = 19 then .agg #[.int .i64 (aU * 16), .int .i64 (aW * 16), .int .i64 (rA), .int .i64 (aH * 16)] else if d = 20 then .slice (some ⟨h, 0, none⟩) 1 1 else if d = 21 then .agg #[.int .i64 (aU * 16), .int .i64 (aW * 16), .int .i64 (rA), .int .i64 (aH * 16)] else if d = 22 then .agg #[.int .i64 (bU * 16), .int .i64 (bW * 16), .int .i64 (rB), .int .i64 (bH * 16)] else if d = 23 then .pointer (some ⟨w.heap.size, 12, none⟩) else if d = 24 then .int .i64 t.dir else if d = 25 then .pointer (some ⟨w.heap.size, 13, none⟩) else if d = 26 then .bool t.full else if d = 27 then v2 else if d = 28 then v else if d = 2 then v else if d = 3 then .bool true else undef) (by
      intro d hd
      simp only [List.mem_cons, List.not_mem_nil, or_false] at hd
      rcases hd with rfl | rfl | rfl | rfl | rfl | rfl | rfl | rfl | rfl | rfl | rfl | rfl
      · exact h'.k0 (hall 0 (by decide))
      · exact h'.k1 (hall 1 (by decide))
      · exact h'.k2 (hall 2 (by decide))
      · exact h'.k3 (hall 3 (by decide))
      · exact h'.k4 (hall 4 (by decide))
      · exact h'.k5 (hall 5 (by decide))
      · exact h'.k6 (hall 6 (by decide))
      · exact h'.k7 (hall 7 (by decide))
      · exact h'.k8 (hall 8 (by decide))
      · exact h'.k9 (hall 9 (by decide))
      · exact h'.k10 (hall 10 (by decide))
      · exact h'.k11 (hall 11 (by decide))
      )
    simp only [List.foldl_cons, List.foldl_nil] at hfr
    rw [← HA.out] at hfr
    have hO := h'.o3 (hall 9 (by decide))
    have hB := h'.bx.be
    have hL := h'.bx.le
    rw [hfr]
    clear hfr h' hall HA hsz hA1 hA4 hA5
    simp [Act.put]
    go_wp2_with fail
    go_ret2
    exact ⟨v, rfl, by rw [List.length_cons, List.flatMap_cons, Nat.add_comm]; exact row_le hO hL, hB⟩
end Go.Proofs.Ytkjjoclbjkpdaaa
