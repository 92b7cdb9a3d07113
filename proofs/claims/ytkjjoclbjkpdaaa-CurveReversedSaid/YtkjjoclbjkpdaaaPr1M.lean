/- Proved here: CurveReversed: the reversed arc has the same chords, in reverse order. -/
import Derived.Test.YtkjjoclbjkpdaaaPh1M
import Derived.Test.YtkjjoclbjkpdaaaNf1M
namespace Go.Proofs.Ytkjjoclbjkpdaaa
open Go.RowKit
set_option linter.unusedVariables false
set_option linter.unusedSimpArgs false
/-- the arc in the other direction -/
def Itm.rev (t : Itm) : Itm := ⟨t.kind, t.block, t.tx, t.ty, t.tz, t.fx, t.fy, t.fz, t.plane, t.cx, t.cy, t.cz, -t.dir, t.full, t.feed, t.perrev, t.side, t.radius, t.blend, t.n, t.speed, t.on⟩
theorem Itm.rev_A (t : Itm) : t.rev.A = t.B := rfl
theorem Itm.rev_B (t : Itm) : t.rev.B = t.A := rfl
theorem Itm.Ok.rev {t : Itm} (h : t.Ok) : t.rev.Ok := by
  obtain ⟨⟨pf, pt, pc, pk⟩, hk, hd, x, y, n, f, q⟩ := h
  refine ⟨⟨pt, pf, pc, pk⟩, hk, ?_, y, x, ?_, fun e => ⟨(f e).1.symm, (f e).2.symm⟩, fun e => ?_⟩
  · show -t.dir = 1 ∨ -t.dir = -1; omega
  · show (max (t.bU * t.bU + t.bW * t.bW) (t.aU * t.aU + t.aW * t.aW) - min (t.bU * t.bU + t.bW * t.bW) (t.aU * t.aU + t.aW * t.aW) - 16) * (max (t.bU * t.bU + t.bW * t.bW) (t.aU * t.aU + t.aW * t.aW) - min (t.bU * t.bU + t.bW * t.bW) (t.aU * t.aU + t.aW * t.aW) - 16) ≤ 64 * min (t.bU * t.bU + t.bW * t.bW) (t.aU * t.aU + t.aW * t.aW)
    rw [Int.max_comm, Int.min_comm]; exact n
  · show t.bU * t.aW - t.bW * t.aU ≠ 0 ∨ t.bU * t.aU + t.bW * t.aW < 0
    have := q e
    rw [Int.mul_comm t.bU t.aU, Int.mul_comm t.bW t.aW, Int.mul_comm t.bU t.aW, Int.mul_comm t.bW t.aU]
    omega
theorem Itm.Arc.rev {t : Itm} {lo hi hl hh : Int} (h : t.Arc lo hi hl hh) : t.rev.Arc lo hi hl hh :=
  ⟨⟨h.pos.pt, h.pos.pf, h.pos.pc, h.pos.pk⟩, h.kind, by have := h.dir; show -t.dir = 1 ∨ -t.dir = -1; omega, h.bnd, h.gb, h.ga⟩
theorem Itm.rev_spokes {t : Itm} (h : t.Ok) : t.rev.spokes = t.spokes.reverse := by
  have := pcs_rev t.dir 16 t.full t.A t.B (fun e => by
    have := h.full e
    show t.aU * 16 = t.bU * 16 ∧ t.aW * 16 = t.bW * 16
    rw [this.1, this.2]; exact ⟨rfl, rfl⟩)
  exact this.symm
theorem rev_facts {t : Itm} (h : t.Ok) : t.rev.spokes.length = t.spokes.length ∧ ∀ i, i < t.spokes.length → ∀ c, chF t.rev.plane (plU t.rev.plane t.rev.cx t.rev.cy t.rev.cz * 16) (plW t.rev.plane t.rev.cx t.rev.cy t.rev.cz * 16) (spF t.rev.spokes) (t.spokes.length - 1 - i) c = chF t.plane (plU t.plane t.cx t.cy t.cz * 16) (plW t.plane t.cx t.cy t.cz * 16) (spF t.spokes) i c := by
  rw [Itm.rev_spokes h]
  refine ⟨List.length_reverse, fun i hi c => ?_⟩
  have e : ∀ c, spF t.spokes.reverse (t.spokes.length - 1 - i) c = spF t.spokes i c := by
    intro c
    rw [spF_get (by rw [List.length_reverse]; omega), spF_get hi, List.getElem_reverse]
    congr 2
    omega
  show chF t.plane (plU t.plane t.cx t.cy t.cz * 16) (plW t.plane t.cx t.cy t.cz * 16) (spF t.spokes.reverse) _ c = _
  unfold chF
  simp only [e]
structure AR5 (t : Itm) (g h : Nat) (w0 : World) (A : Act) (L : Nat → Bool) (a : Act) (w : World) : Prop where
  off : OffOf [20, 21, 22, 23, 24, 25, 26, 27, 28, 29] A a
  be : Below w0.heap.size w0 w
  ct : It t g h w
  hw : w0.heap.size ≤ h
  d10_8 : L 10 = true → L 8 = true
  d12_10 : L 12 = true → L 10 = true
  k0 : L 0 = true → a.tmps[20]? = some (.pointer (some ⟨g, 5, none⟩))
  k1 : L 1 = true → a.tmps[21]? = some (.agg #[.int .i64 (t.tx), .int .i64 (t.ty), .int .i64 (t.tz)])
  k2 : L 2 = true → a.tmps[22]? = some (.pointer (some ⟨g, 2, none⟩))
  k3 : L 3 = true → a.tmps[23]? = some (.agg #[.int .i64 (t.fx), .int .i64 (t.fy), .int .i64 (t.fz)])
  k4 : L 4 = true → a.tmps[24]? = some (.pointer (some ⟨g, 12, none⟩))
  k5 : L 5 = true → a.tmps[25]? = some (.int .i64 (t.dir))
  k6 : L 6 = true → a.tmps[26]? = some (.int .i64 (-t.dir))
  k7 : L 7 = true → a.tmps[27]? = some (.pointer (some ⟨h, 2, none⟩))
  k9 : L 9 = true → a.tmps[28]? = some (.pointer (some ⟨h, 5, none⟩))
  k11 : L 11 = true → a.tmps[29]? = some (.pointer (some ⟨h, 12, none⟩))
  i0 : L 8 = false → It t h g w
  i1 : L 8 = true → L 10 = false → It (⟨t.kind, t.block, t.tx, t.ty, t.tz, t.tx, t.ty, t.tz, t.plane, t.cx, t.cy, t.cz, t.dir, t.full, t.feed, t.perrev, t.side, t.radius, t.blend, t.n, t.speed, t.on⟩ : Itm) h g w
  i2 : L 10 = true → L 12 = false → It (⟨t.kind, t.block, t.tx, t.ty, t.tz, t.fx, t.fy, t.fz, t.plane, t.cx, t.cy, t.cz, t.dir, t.full, t.feed, t.perrev, t.side, t.radius, t.blend, t.n, t.speed, t.on⟩ : Itm) h g w
  i3 : L 12 = true → It t.rev h g w
set_option maxHeartbeats 16000000 in
set_option maxRecDepth 40000 in
theorem law_reversed (b0 : Nat) (v : Value) (size : Int) (w : World) (hb : b0 ≤ w.heap.size) (hv : Ns b0 v w) (h1 : -9223372036854775808 ≤ size) (h2 : size ≤ 9223372036854775807) :
    Calls Try.prog 9 #[v, .int .i64 size] w fun e w' => e = .returned (.bool true) ∧ Below w.heap.size w w' := by
  have ARC := fun (n : Int) (w : World) (n1 : 1 ≤ n) (n2 : n ≤ 20000) (hb : b0 ≤ w.heap.size) (hv : Ns b0 v w) => Lib.hid (Arc_any b0 v n w n1 n2 hb hv)
  have AW := fun w => Lib.hid (awake_any w)
  have MO := fun w => Lib.hid (mod_any size 5000 w h1 h2 (by decide) (by decide))
  go_enter Try.func9, Try.ntmps9
  go_wp2_with fail
  refine (AW _).out.mono ?_
  rintro e w1 ⟨rfl, hb1⟩
  go_wp2_with fail
  refine (MO _).out.mono ?_
  rintro e w2 ⟨n, rfl, n0, n1, rfl⟩
  go_wp2_with fail
  refine (ARC _ _ (by omega) (by omega) (Nat.le_trans hb hb1.size) (hv.keep (fun k hk => hb1.block k (by omega)))).out.mono ?_
  rintro e w3 ⟨t, r, s, k, q, rfl, hM, hb3⟩
  have hB := hb1.trans (hb3.mono hb1.size)
  clear hb1 hb3 ARC MO AW hv
  go_upto_region 4 with (refine wpList_store_mid rfl 27 (.tmp 5) (.tmp 18) rfl _ 0 (itL t).toArray rfl rfl (zero_there w3 _) (by kernel_rfl) (one_itL t) ?_)
  obtain ⟨g, hg⟩ : ∃ g, w3.heap.size = g := ⟨_, rfl⟩
  have hI := ItC.stored t w3 27
  have hB := hB.trans ((stored_below t w3 27).mono hB.size)
  rewrite [hg] at hI hB ⊢
  refine wp_cls (fun wr => ItC t g wr ∧ (wr.there g 0 22) ∧ Below w.heap.size w wr) ⟨hI, hg ▸ (World.there_setCells (zero_there w3 27) _ _ _), hB⟩ ?_
  clear hI hB hg
  rintro w4 ⟨hI, hTh, hB⟩
  have hA := hM.arc (by omega)
  have VP := fun w => Lib.hid (ValidP_true t w hM.ok)
  have VQ := fun w => Lib.hid (ValidP_true t.rev w hM.ok.rev)
  have hB2 := hB
  go_upto_region 5 with (first | (refine wpList_load_g (by rfl) 27 (.tmp 5) rfl g 0 rfl (itL t) _ hI.rg Try.underlying27 rfl (by kernel_rfl) ?_) | (refine wpList_store_mid rfl 27 (.tmp 6) (.tmp 19) rfl _ 0 (itL t).toArray rfl rfl (zero_there w4 _) (by kernel_rfl) (one_itL t) ?_))
  --CUT1
  obtain ⟨h, hg⟩ : ∃ h, w4.heap.size = h := ⟨_, rfl⟩
  have hJ := It.put (t := t) (sb := g) (Nw.fresh22 w4 27 g 0 (Nat.zero_le _) hI.lt)
  have hI : It t g h ((w4.alloc (.cells zeroI 27)).setCells w4.heap.size 0 (itL t)) := by
    have hd := (Below.refl w4.heap.size w4).alloc (Nat.le_refl _) (.cells zeroI 27)
    refine ⟨⟨World.rangeAt_setCells_apart (hI.next hd).rg _ _ _ (Or.inl ?_), ?_⟩, ⟨?_, ?_⟩, ?_⟩
    · have := hI.lt; omega
    · rw [size_sets]; exact (hI.next hd).lt
    · exact World.there_setCells (there_keep (hTh) (hd.block g hI.lt)) _ _ _
    · rw [size_sets]; exact (hI.next hd).lt
    · have := hI.lt; omega
  have hwh : w.heap.size ≤ h := by have := hB.size; omega
  have hB := hB.trans ((stored_below t w4 27).mono hB.size)
  rewrite [hg] at hI hJ hB ⊢
  refine wp_cls (fun wr => It t g h wr ∧ It t h g wr ∧ Below w.heap.size w wr) ⟨hI, hJ, hB⟩ ?_
  clear hI hB hJ hg
  rintro w6 ⟨hI, hJ, hB⟩
  have hd := hA.dir
  generalize hA : (Act.mk _ _) = A
  have hsz : A.tmps.size = 72 := by rw [← hA]; rfl
  have hA5 : A.tmps[5]? = some (.pointer (some ⟨g, 0, none⟩)) := by rw [← hA]; rfl
  have hA6 : A.tmps[6]? = some (.pointer (some ⟨h, 0, none⟩)) := by rw [← hA]; rfl
  have HA := Lib.hid hA
  clear hA
  refine wp_region_inv (fun L aa wx => AR5 t g h w A L aa wx) (by kernel_rfl) (by kernel_rfl) ?_ ?_ ?_
  · have hD := (Below.refl w6.heap.size w6).drew
    exact (by constructor <;> first | exact OffOf.refl _ _ | exact hB.drew | exact hI.draw (Chg.of hD) | exact fun _ => hJ.draw (Chg.of hD) | exact hwh | (intro h; exact nomatch h) | (intro h _; exact nomatch h))
  · intro i o ho L aa wx h' hLi hdeps K hK'
    match i, ho, hLi, hK' with
    | 0, ho, hLi, hK' =>
      cases ho
      have ea := (h'.off.off 5 (by decide)).trans hA5
      go_simp
      exact hK' _ _ { off := h'.off.put (by decide) _, be := h'.be, ct := h'.ct, hw := h'.hw, d10_8 := fun q => by simpa using h'.d10_8 (by simpa using q), d12_10 := fun q => by simpa using h'.d12_10 (by simpa using q), k0 := fun _ => put_at _ (by have := h'.off.size; omega), k1 := fun q => put_ne _ (by decide) (h'.k1 (by simpa using q)), k2 := fun q => put_ne _ (by decide) (h'.k2 (by simpa using q)), k3 := fun q => put_ne _ (by decide) (h'.k3 (by simpa using q)), k4 := fun q => put_ne _ (by decide) (h'.k4 (by simpa using q)), k5 := fun q => put_ne _ (by decide) (h'.k5 (by simpa using q)), k6 := fun q => put_ne _ (by decide) (h'.k6 (by simpa using q)), k7 := fun q => put_ne _ (by decide) (h'.k7 (by simpa using q)), k9 := fun q => put_ne _ (by decide) (h'.k9 (by simpa using q)), k11 := fun q => put_ne _ (by decide) (h'.k11 (by simpa using q)), i0 := fun q => h'.i0 (by simpa using q), i1 := fun q r => h'.i1 (by simpa using q) (by simpa using r), i2 := fun q r => h'.i2 (by simpa using q) (by simpa using r), i3 := fun q => h'.i3 (by simpa using q) }
    | 1, ho, hLi, hK' =>
      cases ho
      have ea := h'.k0 (hdeps ⟨0, .data⟩ (by simp) (by rfl))
      have y5 : wx.cell? ⟨g, 5, none⟩ = some (.int .i64 t.tx) := h'.ct.c.rg 5 (.int .i64 t.tx) rfl
      have y6 : wx.cell? ⟨g, 6, none⟩ = some (.int .i64 t.ty) := h'.ct.c.rg 6 (.int .i64 t.ty) rfl
      have y7 : wx.cell? ⟨g, 7, none⟩ = some (.int .i64 t.tz) := h'.ct.c.rg 7 (.int .i64 t.tz) rfl
      go_simp
      exact hK' _ _ { off := h'.off.put (by decide) _, be := h'.be, ct := h'.ct, hw := h'.hw, d10_8 := fun q => by simpa using h'.d10_8 (by simpa using q), d12_10 := fun q => by simpa using h'.d12_10 (by simpa using q), k0 := fun q => put_ne _ (by decide) (h'.k0 (by simpa using q)), k1 := fun _ => put_at _ (by have := h'.off.size; omega), k2 := fun q => put_ne _ (by decide) (h'.k2 (by simpa using q)), k3 := fun q => put_ne _ (by decide) (h'.k3 (by simpa using q)), k4 := fun q => put_ne _ (by decide) (h'.k4 (by simpa using q)), k5 := fun q => put_ne _ (by decide) (h'.k5 (by simpa using q)), k6 := fun q => put_ne _ (by decide) (h'.k6 (by simpa using q)), k7 := fun q => put_ne _ (by decide) (h'.k7 (by simpa using q)), k9 := fun q => put_ne _ (by decide) (h'.k9 (by simpa using q)), k11 := fun q => put_ne _ (by decide) (h'.k11 (by simpa using q)), i0 := fun q => h'.i0 (by simpa using q), i1 := fun q r => h'.i1 (by simpa using q) (by simpa using r), i2 := fun q r => h'.i2 (by simpa using q) (by simpa using r), i3 := fun q => h'.i3 (by simpa using q) }
    | 2, ho, hLi, hK' =>
      cases ho
      have ea := (h'.off.off 5 (by decide)).trans hA5
      go_simp
      exact hK' _ _ { off := h'.off.put (by decide) _, be := h'.be, ct := h'.ct, hw := h'.hw, d10_8 := fun q => by simpa using h'.d10_8 (by simpa using q), d12_10 := fun q => by simpa using h'.d12_10 (by simpa using q), k0 := fun q => put_ne _ (by decide) (h'.k0 (by simpa using q)), k1 := fun q => put_ne _ (by decide) (h'.k1 (by simpa using q)), k2 := fun _ => put_at _ (by have := h'.off.size; omega), k3 := fun q => put_ne _ (by decide) (h'.k3 (by simpa using q)), k4 := fun q => put_ne _ (by decide) (h'.k4 (by simpa using q)), k5 := fun q => put_ne _ (by decide) (h'.k5 (by simpa using q)), k6 := fun q => put_ne _ (by decide) (h'.k6 (by simpa using q)), k7 := fun q => put_ne _ (by decide) (h'.k7 (by simpa using q)), k9 := fun q => put_ne _ (by decide) (h'.k9 (by simpa using q)), k11 := fun q => put_ne _ (by decide) (h'.k11 (by simpa using q)), i0 := fun q => h'.i0 (by simpa using q), i1 := fun q r => h'.i1 (by simpa using q) (by simpa using r), i2 := fun q r => h'.i2 (by simpa using q) (by simpa using r), i3 := fun q => h'.i3 (by simpa using q) }
    | 3, ho, hLi, hK' =>
      cases ho
      have ea := h'.k2 (hdeps ⟨2, .data⟩ (by simp) (by rfl))
      have y2 : wx.cell? ⟨g, 2, none⟩ = some (.int .i64 t.fx) := h'.ct.c.rg 2 (.int .i64 t.fx) rfl
      have y3 : wx.cell? ⟨g, 3, none⟩ = some (.int .i64 t.fy) := h'.ct.c.rg 3 (.int .i64 t.fy) rfl
      have y4 : wx.cell? ⟨g, 4, none⟩ = some (.int .i64 t.fz) := h'.ct.c.rg 4 (.int .i64 t.fz) rfl
      go_simp
      exact hK' _ _ { off := h'.off.put (by decide) _, be := h'.be, ct := h'.ct, hw := h'.hw, d10_8 := fun q => by simpa using h'.d10_8 (by simpa using q), d12_10 := fun q => by simpa using h'.d12_10 (by simpa using q), k0 := fun q => put_ne _ (by decide) (h'.k0 (by simpa using q)), k1 := fun q => put_ne _ (by decide) (h'.k1 (by simpa using q)), k2 := fun q => put_ne _ (by decide) (h'.k2 (by simpa using q)), k3 := fun _ => put_at _ (by have := h'.off.size; omega), k4 := fun q => put_ne _ (by decide) (h'.k4 (by simpa using q)), k5 := fun q => put_ne _ (by decide) (h'.k5 (by simpa using q)), k6 := fun q => put_ne _ (by decide) (h'.k6 (by simpa using q)), k7 := fun q => put_ne _ (by decide) (h'.k7 (by simpa using q)), k9 := fun q => put_ne _ (by decide) (h'.k9 (by simpa using q)), k11 := fun q => put_ne _ (by decide) (h'.k11 (by simpa using q)), i0 := fun q => h'.i0 (by simpa using q), i1 := fun q r => h'.i1 (by simpa using q) (by simpa using r), i2 := fun q r => h'.i2 (by simpa using q) (by simpa using r), i3 := fun q => h'.i3 (by simpa using q) }
    | 4, ho, hLi, hK' =>
      cases ho
      have ea := (h'.off.off 5 (by decide)).trans hA5
      go_simp
      exact hK' _ _ { off := h'.off.put (by decide) _, be := h'.be, ct := h'.ct, hw := h'.hw, d10_8 := fun q => by simpa using h'.d10_8 (by simpa using q), d12_10 := fun q => by simpa using h'.d12_10 (by simpa using q), k0 := fun q => put_ne _ (by decide) (h'.k0 (by simpa using q)), k1 := fun q => put_ne _ (by decide) (h'.k1 (by simpa using q)), k2 := fun q => put_ne _ (by decide) (h'.k2 (by simpa using q)), k3 := fun q => put_ne _ (by decide) (h'.k3 (by simpa using q)), k4 := fun _ => put_at _ (by have := h'.off.size; omega), k5 := fun q => put_ne _ (by decide) (h'.k5 (by simpa using q)), k6 := fun q => put_ne _ (by decide) (h'.k6 (by simpa using q)), k7 := fun q => put_ne _ (by decide) (h'.k7 (by simpa using q)), k9 := fun q => put_ne _ (by decide) (h'.k9 (by simpa using q)), k11 := fun q => put_ne _ (by decide) (h'.k11 (by simpa using q)), i0 := fun q => h'.i0 (by simpa using q), i1 := fun q r => h'.i1 (by simpa using q) (by simpa using r), i2 := fun q r => h'.i2 (by simpa using q) (by simpa using r), i3 := fun q => h'.i3 (by simpa using q) }
    | 5, ho, hLi, hK' =>
      cases ho
      have ea := h'.k4 (hdeps ⟨4, .data⟩ (by simp) (by rfl))
      have y12 : wx.cell? ⟨g, 12, none⟩ = some (.int .i64 t.dir) := h'.ct.c.rg 12 (.int .i64 t.dir) rfl
      go_simp
      exact hK' _ _ { off := h'.off.put (by decide) _, be := h'.be, ct := h'.ct, hw := h'.hw, d10_8 := fun q => by simpa using h'.d10_8 (by simpa using q), d12_10 := fun q => by simpa using h'.d12_10 (by simpa using q), k0 := fun q => put_ne _ (by decide) (h'.k0 (by simpa using q)), k1 := fun q => put_ne _ (by decide) (h'.k1 (by simpa using q)), k2 := fun q => put_ne _ (by decide) (h'.k2 (by simpa using q)), k3 := fun q => put_ne _ (by decide) (h'.k3 (by simpa using q)), k4 := fun q => put_ne _ (by decide) (h'.k4 (by simpa using q)), k5 := fun _ => put_at _ (by have := h'.off.size; omega), k6 := fun q => put_ne _ (by decide) (h'.k6 (by simpa using q)), k7 := fun q => put_ne _ (by decide) (h'.k7 (by simpa using q)), k9 := fun q => put_ne _ (by decide) (h'.k9 (by simpa using q)), k11 := fun q => put_ne _ (by decide) (h'.k11 (by simpa using q)), i0 := fun q => h'.i0 (by simpa using q), i1 := fun q r => h'.i1 (by simpa using q) (by simpa using r), i2 := fun q r => h'.i2 (by simpa using q) (by simpa using r), i3 := fun q => h'.i3 (by simpa using q) }
    | 6, ho, hLi, hK' =>
      cases ho
      have ea := h'.k5 (hdeps ⟨5, .data⟩ (by simp) (by rfl))
      have wn : IntKind.i64.wrap (-t.dir) = -t.dir := wr_in (by omega) (by omega)
      go_simp
      try rewrite [wn]
      exact hK' _ _ { off := h'.off.put (by decide) _, be := h'.be, ct := h'.ct, hw := h'.hw, d10_8 := fun q => by simpa using h'.d10_8 (by simpa using q), d12_10 := fun q => by simpa using h'.d12_10 (by simpa using q), k0 := fun q => put_ne _ (by decide) (h'.k0 (by simpa using q)), k1 := fun q => put_ne _ (by decide) (h'.k1 (by simpa using q)), k2 := fun q => put_ne _ (by decide) (h'.k2 (by simpa using q)), k3 := fun q => put_ne _ (by decide) (h'.k3 (by simpa using q)), k4 := fun q => put_ne _ (by decide) (h'.k4 (by simpa using q)), k5 := fun q => put_ne _ (by decide) (h'.k5 (by simpa using q)), k6 := fun _ => put_at _ (by have := h'.off.size; omega), k7 := fun q => put_ne _ (by decide) (h'.k7 (by simpa using q)), k9 := fun q => put_ne _ (by decide) (h'.k9 (by simpa using q)), k11 := fun q => put_ne _ (by decide) (h'.k11 (by simpa using q)), i0 := fun q => h'.i0 (by simpa using q), i1 := fun q r => h'.i1 (by simpa using q) (by simpa using r), i2 := fun q r => h'.i2 (by simpa using q) (by simpa using r), i3 := fun q => h'.i3 (by simpa using q) }
    | 7, ho, hLi, hK' =>
      cases ho
      have ea := (h'.off.off 6 (by decide)).trans hA6
      go_simp
      exact hK' _ _ { off := h'.off.put (by decide) _, be := h'.be, ct := h'.ct, hw := h'.hw, d10_8 := fun q => by simpa using h'.d10_8 (by simpa using q), d12_10 := fun q => by simpa using h'.d12_10 (by simpa using q), k0 := fun q => put_ne _ (by decide) (h'.k0 (by simpa using q)), k1 := fun q => put_ne _ (by decide) (h'.k1 (by simpa using q)), k2 := fun q => put_ne _ (by decide) (h'.k2 (by simpa using q)), k3 := fun q => put_ne _ (by decide) (h'.k3 (by simpa using q)), k4 := fun q => put_ne _ (by decide) (h'.k4 (by simpa using q)), k5 := fun q => put_ne _ (by decide) (h'.k5 (by simpa using q)), k6 := fun q => put_ne _ (by decide) (h'.k6 (by simpa using q)), k7 := fun _ => put_at _ (by have := h'.off.size; omega), k9 := fun q => put_ne _ (by decide) (h'.k9 (by simpa using q)), k11 := fun q => put_ne _ (by decide) (h'.k11 (by simpa using q)), i0 := fun q => h'.i0 (by simpa using q), i1 := fun q r => h'.i1 (by simpa using q) (by simpa using r), i2 := fun q r => h'.i2 (by simpa using q) (by simpa using r), i3 := fun q => h'.i3 (by simpa using q) }
    | 8, ho, hLi, hK' =>
      cases ho
      have hIq := h'.i0 hLi
      have ea := h'.k7 (hdeps ⟨7, .data⟩ (by simp) (by rfl))
      have eb := h'.k1 (hdeps ⟨1, .data⟩ (by simp) (by rfl))
      refine wp_store_mid 25 (.tmp 27) (.tmp 21) rfl h 2 #[.int .i64 (t.tx), .int .i64 (t.ty), .int .i64 (t.tz)] (eval_of ea) (eval_of eb) (fun j hj => by have := hIq.t'.th (2 + j) (by simp at hj; omega); rwa [Nat.zero_add] at this) (by kernel_rfl) (by simp [Value.oneCell']) ?_
      exact hK' _ _ { off := h'.off, be := below_sets h'.hw _ _ _ h'.be, ct := h'.ct.far h'.ct.ne _, hw := h'.hw, d10_8 := fun _ => by simp, d12_10 := fun q => by simpa using h'.d12_10 (by simpa using q), k0 := fun q => (h'.k0 (by simpa using q)), k1 := fun q => (h'.k1 (by simpa using q)), k2 := fun q => (h'.k2 (by simpa using q)), k3 := fun q => (h'.k3 (by simpa using q)), k4 := fun q => (h'.k4 (by simpa using q)), k5 := fun q => (h'.k5 (by simpa using q)), k6 := fun q => (h'.k6 (by simpa using q)), k7 := fun q => (h'.k7 (by simpa using q)), k9 := fun q => (h'.k9 (by simpa using q)), k11 := fun q => (h'.k11 (by simpa using q)), i0 := fun q => absurd q (by simp), i1 := fun _ _ => (hIq.at 2 [.int .i64 (t.tx), .int .i64 (t.ty), .int .i64 (t.tz)] (by simp) (by simp only [itL, Itm.rev]; intro j hj; rcases j with _ | _ | _ | _ | _ | _ | _ | _ | _ | _ | _ | _ | _ | _ | _ | _ | _ | _ | _ | _ | _ | _ | j <;> first | rfl | omega)), i2 := fun q => absurd (h'.d10_8 (by simpa using q)) (by simp [hLi]), i3 := fun q => absurd (h'.d10_8 (h'.d12_10 (by simpa using q))) (by simp [hLi]) }
    | 9, ho, hLi, hK' =>
      cases ho
      have ea := (h'.off.off 6 (by decide)).trans hA6
      go_simp
      exact hK' _ _ { off := h'.off.put (by decide) _, be := h'.be, ct := h'.ct, hw := h'.hw, d10_8 := fun q => by simpa using h'.d10_8 (by simpa using q), d12_10 := fun q => by simpa using h'.d12_10 (by simpa using q), k0 := fun q => put_ne _ (by decide) (h'.k0 (by simpa using q)), k1 := fun q => put_ne _ (by decide) (h'.k1 (by simpa using q)), k2 := fun q => put_ne _ (by decide) (h'.k2 (by simpa using q)), k3 := fun q => put_ne _ (by decide) (h'.k3 (by simpa using q)), k4 := fun q => put_ne _ (by decide) (h'.k4 (by simpa using q)), k5 := fun q => put_ne _ (by decide) (h'.k5 (by simpa using q)), k6 := fun q => put_ne _ (by decide) (h'.k6 (by simpa using q)), k7 := fun q => put_ne _ (by decide) (h'.k7 (by simpa using q)), k9 := fun _ => put_at _ (by have := h'.off.size; omega), k11 := fun q => put_ne _ (by decide) (h'.k11 (by simpa using q)), i0 := fun q => h'.i0 (by simpa using q), i1 := fun q r => h'.i1 (by simpa using q) (by simpa using r), i2 := fun q r => h'.i2 (by simpa using q) (by simpa using r), i3 := fun q => h'.i3 (by simpa using q) }
    | 10, ho, hLi, hK' =>
      cases ho
      have l8 := (hdeps ⟨8, .chain⟩ (by simp) (by rfl))
      have hIq := h'.i1 l8 hLi
      have ea := h'.k9 (hdeps ⟨9, .data⟩ (by simp) (by rfl))
      have eb := h'.k3 (hdeps ⟨3, .data⟩ (by simp) (by rfl))
      refine wp_store_mid 25 (.tmp 28) (.tmp 23) rfl h 5 #[.int .i64 (t.fx), .int .i64 (t.fy), .int .i64 (t.fz)] (eval_of ea) (eval_of eb) (fun j hj => by have := hIq.t'.th (5 + j) (by simp at hj; omega); rwa [Nat.zero_add] at this) (by kernel_rfl) (by simp [Value.oneCell']) ?_
      exact hK' _ _ { off := h'.off, be := below_sets h'.hw _ _ _ h'.be, ct := h'.ct.far h'.ct.ne _, hw := h'.hw, d10_8 := fun _ => by simpa using l8, d12_10 := fun _ => by simp, k0 := fun q => (h'.k0 (by simpa using q)), k1 := fun q => (h'.k1 (by simpa using q)), k2 := fun q => (h'.k2 (by simpa using q)), k3 := fun q => (h'.k3 (by simpa using q)), k4 := fun q => (h'.k4 (by simpa using q)), k5 := fun q => (h'.k5 (by simpa using q)), k6 := fun q => (h'.k6 (by simpa using q)), k7 := fun q => (h'.k7 (by simpa using q)), k9 := fun q => (h'.k9 (by simpa using q)), k11 := fun q => (h'.k11 (by simpa using q)), i0 := fun q => absurd q (by simp [l8]), i1 := fun _ q => absurd q (by simp), i2 := fun _ _ => (hIq.at 5 [.int .i64 (t.fx), .int .i64 (t.fy), .int .i64 (t.fz)] (by simp) (by simp only [itL, Itm.rev]; intro j hj; rcases j with _ | _ | _ | _ | _ | _ | _ | _ | _ | _ | _ | _ | _ | _ | _ | _ | _ | _ | _ | _ | _ | _ | j <;> first | rfl | omega)), i3 := fun q => absurd (h'.d12_10 (by simpa using q)) (by simp [hLi]) }
    | 11, ho, hLi, hK' =>
      cases ho
      have ea := (h'.off.off 6 (by decide)).trans hA6
      go_simp
      exact hK' _ _ { off := h'.off.put (by decide) _, be := h'.be, ct := h'.ct, hw := h'.hw, d10_8 := fun q => by simpa using h'.d10_8 (by simpa using q), d12_10 := fun q => by simpa using h'.d12_10 (by simpa using q), k0 := fun q => put_ne _ (by decide) (h'.k0 (by simpa using q)), k1 := fun q => put_ne _ (by decide) (h'.k1 (by simpa using q)), k2 := fun q => put_ne _ (by decide) (h'.k2 (by simpa using q)), k3 := fun q => put_ne _ (by decide) (h'.k3 (by simpa using q)), k4 := fun q => put_ne _ (by decide) (h'.k4 (by simpa using q)), k5 := fun q => put_ne _ (by decide) (h'.k5 (by simpa using q)), k6 := fun q => put_ne _ (by decide) (h'.k6 (by simpa using q)), k7 := fun q => put_ne _ (by decide) (h'.k7 (by simpa using q)), k9 := fun q => put_ne _ (by decide) (h'.k9 (by simpa using q)), k11 := fun _ => put_at _ (by have := h'.off.size; omega), i0 := fun q => h'.i0 (by simpa using q), i1 := fun q r => h'.i1 (by simpa using q) (by simpa using r), i2 := fun q r => h'.i2 (by simpa using q) (by simpa using r), i3 := fun q => h'.i3 (by simpa using q) }
    | 12, ho, hLi, hK' =>
      cases ho
      have l10 := (hdeps ⟨10, .chain⟩ (by simp) (by rfl))
      have hIq := h'.i2 l10 hLi
      have ea := h'.k11 (hdeps ⟨11, .data⟩ (by simp) (by rfl))
      have eb := h'.k6 (hdeps ⟨6, .data⟩ (by simp) (by rfl))
      have y12 : wx.cell? ⟨h, 12, none⟩ = some (.int .i64 t.dir) := hIq.c.rg 12 (.int .i64 t.dir) rfl
      have z12 := hIq.t'.frz 12 (by decide)
      go_simp
      exact hK' _ (wx.setCells h 12 [.int .i64 (-t.dir)]) { off := h'.off, be := below_sets h'.hw _ _ _ h'.be, ct := h'.ct.far h'.ct.ne _, hw := h'.hw, d10_8 := fun q => by simpa using h'.d10_8 (by simpa using q), d12_10 := fun _ => by simpa using l10, k0 := fun q => (h'.k0 (by simpa using q)), k1 := fun q => (h'.k1 (by simpa using q)), k2 := fun q => (h'.k2 (by simpa using q)), k3 := fun q => (h'.k3 (by simpa using q)), k4 := fun q => (h'.k4 (by simpa using q)), k5 := fun q => (h'.k5 (by simpa using q)), k6 := fun q => (h'.k6 (by simpa using q)), k7 := fun q => (h'.k7 (by simpa using q)), k9 := fun q => (h'.k9 (by simpa using q)), k11 := fun q => (h'.k11 (by simpa using q)), i0 := fun q => absurd q (by simp [h'.d10_8 l10]), i1 := fun _ q => absurd q (by simp [l10]), i2 := fun _ q => absurd q (by simp), i3 := fun _ => (hIq.at 12 [.int .i64 (-t.dir)] (by simp) (by simp only [itL, Itm.rev]; intro j hj; rcases j with _ | _ | _ | _ | _ | _ | _ | _ | _ | _ | _ | _ | _ | _ | _ | _ | _ | _ | _ | _ | _ | _ | j <;> first | rfl | omega)) }
    | i + 13, ho, hLi, hK' => cases ho
  · intro L aa wx h' hall
    have z0 := h'.k0 (hall 0 (by decide))
    have z1 := h'.k1 (hall 1 (by decide))
    have z2 := h'.k2 (hall 2 (by decide))
    have z3 := h'.k3 (hall 3 (by decide))
    have z4 := h'.k4 (hall 4 (by decide))
    have z5 := h'.k5 (hall 5 (by decide))
    have z6 := h'.k6 (hall 6 (by decide))
    have z7 := h'.k7 (hall 7 (by decide))
    have z9 := h'.k9 (hall 9 (by decide))
    have z11 := h'.k11 (hall 11 (by decide))
    have hfr := h'.off.rebuild (fun d' => if d' = 20 then .pointer (some ⟨g, 5, none⟩) else if d' = 21 then .agg #[.int .i64 (t.tx), .int .i64 (t.ty), .int .i64 (t.tz)] else if d' = 22 then .pointer (some ⟨g, 2, none⟩) else if d' = 23 then .agg #[.int .i64 (t.fx), .int .i64 (t.fy), .int .i64 (t.fz)] else if d' = 24 then .pointer (some ⟨g, 12, none⟩) else if d' = 25 then .int .i64 (t.dir) else if d' = 26 then .int .i64 (-t.dir) else if d' = 27 then .pointer (some ⟨h, 2, none⟩) else if d' = 28 then .pointer (some ⟨h, 5, none⟩) else if d' = 29 then .pointer (some ⟨h, 12, none⟩) else undef) (by
      intro d' hd'
      simp only [List.mem_cons, List.not_mem_nil, or_false] at hd'
      rcases hd' with rfl | rfl | rfl | rfl | rfl | rfl | rfl | rfl | rfl | rfl
      · exact z0
      · exact z1
      · exact z2
      · exact z3
      · exact z4
      · exact z5
      · exact z6
      · exact z7
      · exact z9
      · exact z11
      )
    simp only [List.foldl_cons, List.foldl_nil] at hfr
    rw [← HA.out] at hfr
    have hB := h'.be
    have hI := h'.ct.c
    have hJ := (h'.i3 (hall 12 (by decide))).c
    rw [hfr]
    clear hfr h' hall HA hsz hA5 hA6 z0 z1 z2 z3 z4 z5 z6 z7 z9 z11
    simp [Act.put]
    --CUT2
    have CP := fun w => Lib.hid (chordsP_any t _ _ _ _ w hA VP)
    have CQ := fun w => Lib.hid (chordsP_any t.rev _ _ _ _ w hA.rev VQ)
    obtain ⟨eL, RV⟩ := rev_facts hM.ok
    have hn := t.spokes_len
    rewrite [eL] at CQ
    clear eL hA hM VP VQ hB2
    generalize chF t.plane (plU t.plane t.cx t.cy t.cz * 16) (plW t.plane t.cx t.cy t.cz * 16) (spF t.spokes) = X at *
    generalize chF t.rev.plane (plU t.rev.plane t.rev.cx t.rev.cy t.rev.cz * 16) (plW t.rev.plane t.rev.cx t.rev.cy t.rev.cz * 16) (spF t.rev.spokes) = Y at *
    generalize t.spokes.length = m at *
    go_wp2_with (refine wpList_load_g (by rfl) 27 (.tmp 5) rfl g 0 rfl (itL t) _ hI.rg Try.underlying27 rfl (by kernel_rfl) ?_)
    refine (CP _).out.mono ?_
    rintro e w7 ⟨g1, c1, rfl, -, r1, hb1⟩
    have hJ := hJ.next hb1
    have hB := hB.trans (hb1.mono hB.size)
    clear hb1 CP hI
    go_wp2_with (refine wpList_load_g (by rfl) 27 (.tmp 6) rfl h 0 rfl (itL t.rev) _ hJ.rg Try.underlying27 rfl (by kernel_rfl) ?_)
    refine (CQ _).out.mono ?_
    rintro e w8 ⟨g2, c2, rfl, -, r2, hb1⟩
    have hT : (Both (Both (Row g1 (m * 3) (m * 3) (fun j => .int .i64 (X (j / 3) (j % 3)))) (Row g2 (m * 3) (m * 3) (fun j => .int .i64 (Y (j / 3) (j % 3))))) (Below w.heap.size w)) w8 := ⟨⟨r1.next hb1, r2⟩, hB.trans (hb1.mono hB.size)⟩
    clear hb1 r1 r2 hB CQ hJ
    --CUT3
    go_wp2_with fail
    obtain ⟨l, hl⟩ : ∃ l, m - 1 = l := ⟨_, rfl⟩
    have eL : (m : Int) - 1 = (l : Int) := by omega
    have EL := Lib.hid eL
    rewrite [hl] at RV
    go_loopw [55] (fun t wr => ∃ i : Nat, i ≤ m ∧ t = .int .i64 (i : Int) ∧ (Both (Both (Row g1 (m * 3) (m * 3) (fun j => .int .i64 (X (j / 3) (j % 3)))) (Row g2 (m * 3) (m * 3) (fun j => .int .i64 (Y (j / 3) (j % 3))))) (Below w.heap.size w)) wr) (fun t _ => m - (intOf t).toNat)
    case atStart => exact ⟨0, Nat.zero_le _, rfl, hT⟩
    case round =>
    clear hT
    obtain ⟨i, hin, rfl, hT⟩ := hrel
    by_cases hi : i < m
    · have hlt : (i : Int) < (m : Int) := by omega
      have F0 := Lib.hid (RV i hi 0)
      have F1 := Lib.hid (RV i hi 1)
      have F2 := Lib.hid (RV i hi 2)
      obtain ⟨j, hj⟩ : ∃ j, l - i = j := ⟨_, rfl⟩
      rewrite [hj] at F0 F1 F2
      have ej : (l : Int) - (i : Int) = (j : Int) := by omega
      have hjm : j < m := by omega
      have hjm' : (j : Int) < (m : Int) := by omega
      have wl : IntKind.i64.wrap (l : Int) = (l : Int) := wr_in (by omega) (by omega)
      have wj : IntKind.i64.wrap (j : Int) = (j : Int) := wr_in (by omega) (by omega)
      have eL := EL.out
      clear hj hl RV
      go_upto_region 13 with fail
      (refine wp_region_class (Both (Both (Row g1 (m * 3) (m * 3) (fun j => .int .i64 (X (j / 3) (j % 3)))) (Row g2 (m * 3) (m * 3) (fun j => .int .i64 (Y (j / 3) (j % 3))))) (Below w.heap.size w)) ⟨⟨hT.l.l.next (Below.refl _ _).drew, hT.l.r.next (Below.refl _ _).drew⟩, hT.r.drew⟩ (by kernel_rfl) (by kernel_rfl) ?_; repeat (refine wpQuiet_step (fun qK9 qH9 => ?_); go_simp; first | (refine qH9 _ ?_; clear qH9 qK9) | (apply Exists.intro; refine ⟨?_, qH9 _ ?_⟩; (first | (intros; rfl) | ((intro wx hC; (obtain ⟨e0, e1, e2⟩ := hC.l.l.point hi); (obtain ⟨d0, d1, d2⟩ := hC.l.r.point hjm); rewrite [F0.out] at d0; rewrite [F1.out] at d1; rewrite [F2.out] at d2; go_simp; first | done | rfl))); clear qH9 qK9)))
      refine wpQuiet_nil ?_
      clear hT
      intro wy hT
      --CUT4
      go_wp2_with fail
      go_roundw
      case rel => exact ⟨i + 1, by omega, by go_num, hT⟩
      case measure => simp [intOf]; omega
    · go_wp2_with fail
      go_ret
      exact ⟨rfl, hT.r⟩
end Go.Proofs.Ytkjjoclbjkpdaaa
