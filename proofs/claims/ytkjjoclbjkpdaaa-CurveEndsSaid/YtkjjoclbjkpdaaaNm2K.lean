/- Proved here: the motions that cncmill makes from a list of numbers; ranges as stated. -/
import Derived.Test.YtkjjoclbjkpdaaaNm1K
import Derived.OwnWalk
namespace Go.Proofs.Ytkjjoclbjkpdaaa
open Go.RowKit
set_option linter.unusedVariables false
set_option linter.unusedSimpArgs false
theorem motion_any (b0 sb : Nat) (x y z kd : Int) (w : World) (hk : kd = 1 ∨ kd = 2 ∨ kd = 3) (hS : Src b0 sb w) (hx : -10000 ≤ x ∧ x ≤ 10000) (hy : -10000 ≤ y ∧ y ≤ 10000) (hz : -10000 ≤ z ∧ z ≤ 10000) :
    Calls Try.prog 51 #[.pointer (some ⟨sb, 0, none⟩), .agg #[.int .i64 x, .int .i64 y, .int .i64 z], .int .i64 kd] w (MotP b0 sb x y z w) := by
  rcases hk with rfl | rfl | rfl
  · exact motion_1 b0 sb x y z w hS hx hy hz
  · exact motion_2 b0 sb x y z w hS hx hy hz
  · exact motion_3 b0 sb x y z w hS hx hy hz
theorem infoIt : (Try.prog.info? 27).map (fun i => (i.zero, i.size, i.bytes)) = some (some (.agg zeroI), 22, 176) := by kernel_rfl
theorem Src.keep {b0 sb : Nat} {w w' : World} (h : Src b0 sb w) (hs : w'.heap[sb]? = w.heap[sb]?) (hb : ∀ k, k < b0 → w'.heap[k]? = w.heap[k]?) (hz : w.heap.size ≤ w'.heap.size) : Src b0 sb w' := by
  obtain ⟨⟨v, i, h1, h2, h3, h4⟩, h5, h6, h7, h8⟩ := h
  exact ⟨⟨v, i, h1.keep hb, (World.cell?_of_block (a := ⟨sb, 0, none⟩) hs).trans h2, (World.cell?_of_block (a := ⟨sb, 1, none⟩) hs).trans h3, h4⟩, (World.frozen?_of_block (a := ⟨sb, 0, none⟩) hs).trans h5, (World.frozen?_of_block (a := ⟨sb, 1, none⟩) hs).trans h6, Nat.lt_of_lt_of_le h7 hz, h8⟩
theorem Ac.grown {b0 sb : Nat} {w0 w w' : World} {row : Option Nat} (h : Ac b0 sb w0 w) (hg : w.grownBy w' row) (hr : ∀ k, row = some k → w0.heap.size ≤ k ∧ k ≠ sb ∧ b0 ≤ k) (h0 : b0 ≤ w.heap.size) : Ac b0 sb w0 w' :=
  ⟨h.src.keep (hg.block sb h.src.lt (fun e => (hr sb e.symm).2.1 rfl)) (fun k hk => hg.block k (by omega) (fun e => by have := (hr k e.symm).2.2; omega)) hg.size,
   ⟨hg.os.trans h.ch.os, hg.tape.trans h.ch.tape, hg.output.trans h.ch.output, Nat.le_trans h.ch.size hg.size, fun k hk h1 h2 => (hg.block k (Nat.lt_of_lt_of_le hk h.ch.size) (fun e => by have := (hr k e.symm).1; omega)).trans (h.ch.block k hk h1 h2)⟩⟩
theorem ownsRow_draw {B sb : Nat} {e : TypeId} {k : Nat} {v : Value} {n : Nat} {xs : List Value} {w w' : World} (h : w.ownsRow B e k v n xs) (hc : Chg sb (.slice none 0 0) w w') (hs : sb < B) : w'.ownsRow B e k v n xs :=
  h.kept (row := some sb) ⟨hc.os, hc.tape, hc.output, hc.size, fun q hk hne => hc.block q hk (fun e => hne (congrArg some e)) (fun e => nomatch e)⟩ (Or.inr fun e => by have := (h.lt sb e).1; omega)
theorem grown_sets (g : Nat) : ∀ (vs : List Value) (o : Nat) (w : World), w.grownBy (w.setCells g o vs) (some g)
  | [], _, w => ⟨rfl, rfl, rfl, Nat.le_refl _, fun _ _ _ => rfl⟩
  | v :: vs, o, w => by
    have h := grown_sets g vs (o + 1) (w.setCell ⟨g, o, none⟩ v)
    have e : ∀ k, k ≠ g → (w.setCell ⟨g, o, none⟩ v).heap[k]? = w.heap[k]? := fun k hk => heap_setCell_other w ⟨g, o, none⟩ k v (by simpa using hk)
    exact ⟨h.os, h.tape, h.output, Nat.le_trans (Nat.le_of_eq (by simp)) h.size, fun k hk hne => (h.block k (by simpa using hk) hne).trans (e k (fun e => hne (congrArg some e)))⟩
/-- a place of three numbers that may be written -/
structure At (a sb : Nat) (x y z : Int) (w : World) : Prop where
  c : Lit a sb [x, y, z] w
  th : w.there a 0 3
theorem At.draw {a sb : Nat} {x y z : Int} {w w' : World} (h : At a sb x y z w) (hc : Chg sb (.slice none 0 0) w w') : At a sb x y z w' :=
  ⟨h.c.draw hc, there_keep h.th (hc.block a h.c.lt h.c.ne (fun e => nomatch e))⟩
theorem At.far {a sb g o : Nat} {x y z : Int} {w : World} (h : At a sb x y z w) (hn : a ≠ g) (vs : List Value) : At a sb x y z (w.setCells g o vs) := ⟨h.c.far hn vs, World.there_setCells h.th _ _ _⟩
theorem At.grown {a sb : Nat} {x y z : Int} {w w' : World} {row : Option Nat} (h : At a sb x y z w) (hg : w.grownBy w' row) (hn : row ≠ some a) : At a sb x y z w' := by
  have hb := hg.block a h.c.lt (fun e => hn e.symm)
  exact ⟨⟨fun j v hj => (World.cell?_of_block (a := ⟨a, j, none⟩) hb).trans (h.c.c j v hj), Nat.lt_of_lt_of_le h.c.lt hg.size, h.c.ne⟩, there_keep h.th hb⟩
theorem At.put {a sb : Nat} {x y z : Int} {w : World} (h : At a sb x y z w) (x' y' z' : Int) : At a sb x' y' z' (w.setCells a 0 [.int .i64 x', .int .i64 y', .int .i64 z']) := by
  have k := World.rangeAt_setCells_same w a 0 [.int .i64 x', .int .i64 y', .int .i64 z'] h.th
  refine ⟨⟨fun j v hj => ?_, by rw [size_sets]; exact h.c.lt, h.c.ne⟩, World.there_setCells h.th _ _ _⟩
  have := k j (.int .i64 v) (by
    rcases j with _ | _ | _ | j
    · simpa using hj
    · simpa using hj
    · simpa using hj
    · simp at hj)
  rwa [Nat.zero_add] at this
theorem At.fresh (w : World) (x y z : Int) (T : TypeId) (sb : Nat) (h : sb < w.heap.size) : At w.heap.size sb x y z (w.alloc (.cells #[.int .i64 x, .int .i64 y, .int .i64 z] T)) := by
  refine ⟨Lit.fresh [x, y, z] T h, fun j hj => ?_⟩
  have : j = 0 ∨ j = 1 ∨ j = 2 := by omega
  rcases this with rfl | rfl | rfl <;> simp [go_sem]
theorem It.grown {t : Itm} {g sb : Nat} {w w' : World} {row : Option Nat} (h : It t g sb w) (hg : w.grownBy w' row) (hn : row ≠ some g) : It t g sb w' := by
  have hb := hg.block g h.c.lt (fun e => hn e.symm)
  exact ⟨⟨fun j v hj => (World.cell?_of_block (a := ⟨g, 0 + j, none⟩) hb).trans (h.c.rg j v hj), Nat.lt_of_lt_of_le h.c.lt hg.size⟩, ⟨there_keep h.t'.th hb, Nat.lt_of_lt_of_le h.t'.lt hg.size⟩, h.ne⟩
theorem news22 (w : World) (t : Itm) (T : TypeId) : ∀ j u, ([.int .i64 t.kind, .int .i64 t.block, .int .i64 t.fx, .int .i64 t.fy, .int .i64 t.fz, .int .i64 t.tx, .int .i64 t.ty, .int .i64 t.tz, .int .i64 t.plane, .int .i64 t.cx, .int .i64 t.cy, .int .i64 t.cz, .int .i64 t.dir, .bool t.full, .int .i64 t.feed, .bool t.perrev, .int .i64 t.side, .int .i64 t.radius, .int .i64 t.blend, .int .i64 t.n, .int .i64 t.speed, .bool t.on] : List Value)[j]? = some u → (w.alloc (.cells #[.int .i64 t.kind, .int .i64 t.block, .int .i64 t.fx, .int .i64 t.fy, .int .i64 t.fz, .int .i64 t.tx, .int .i64 t.ty, .int .i64 t.tz, .int .i64 t.plane, .int .i64 t.cx, .int .i64 t.cy, .int .i64 t.cz, .int .i64 t.dir, .bool t.full, .int .i64 t.feed, .bool t.perrev, .int .i64 t.side, .int .i64 t.radius, .int .i64 t.blend, .int .i64 t.n, .int .i64 t.speed, .bool t.on] T)).cell? ((⟨w.heap.size, 0, none⟩ : Addr).add j) = some u := by
  intro j u hj
  have e : (w.alloc (.cells #[.int .i64 t.kind, .int .i64 t.block, .int .i64 t.fx, .int .i64 t.fy, .int .i64 t.fz, .int .i64 t.tx, .int .i64 t.ty, .int .i64 t.tz, .int .i64 t.plane, .int .i64 t.cx, .int .i64 t.cy, .int .i64 t.cz, .int .i64 t.dir, .bool t.full, .int .i64 t.feed, .bool t.perrev, .int .i64 t.side, .int .i64 t.radius, .int .i64 t.blend, .int .i64 t.n, .int .i64 t.speed, .bool t.on] T)).heap[w.heap.size]? = some (.cells #[.int .i64 t.kind, .int .i64 t.block, .int .i64 t.fx, .int .i64 t.fy, .int .i64 t.fz, .int .i64 t.tx, .int .i64 t.ty, .int .i64 t.tz, .int .i64 t.plane, .int .i64 t.cx, .int .i64 t.cy, .int .i64 t.cz, .int .i64 t.dir, .bool t.full, .int .i64 t.feed, .bool t.perrev, .int .i64 t.side, .int .i64 t.radius, .int .i64 t.blend, .int .i64 t.n, .int .i64 t.speed, .bool t.on] T (0, 0)) := heap_alloc_new w _
  rw [Addr.add_mid, Nat.zero_add, cell_of_row _ _ _ _ _ _ e]
  simpa using hj
/-- what Motions gives -/
def MotsP (w : World) (e : Ending) (w' : World) : Prop :=
  ∃ (l : List Itm) (v : Value), e = .returned v ∧ w'.ownsRow w.heap.size 27 22 v l.length (l.flatMap itL) ∧ (∀ t ∈ l, t.Go) ∧ l.length ≤ 5 ∧ Below w.heap.size w w'
def lenV : Value → Nat
  | .slice _ n _ => n
  | _ => 0
structure M5 (b0 sb a' B m : Nat) (x y z : Int) (v : Value) (xs : List Value) (w0 : World) (A : Act) (L : Nat → Bool) (a : Act) (w : World) : Prop where
  off : OffOf [29, 30, 31, 32, 33, 34, 35, 36, 8] A a
  ac : Ac b0 sb w0 w
  at' : At a' sb x y z w
  ow : w.ownsRow B 27 22 v m xs
  hs : sb < B
  hb : b0 ≤ sb
  ha : a' < B
  hB : B ≤ w.heap.size
  hw : w0.heap.size ≤ B
  d9_8 : L 9 = true → L 8 = true
  k0 : L 0 = true → a.tmps[29]? = some (.pointer (some ⟨sb, 0, none⟩))
  k1 : L 1 = true → a.tmps[30]? = some (.agg #[.int .i64 x, .int .i64 y, .int .i64 z])
  k2 : L 2 = true → ∃ (h : Nat), a.tmps[31]? = some (.slice (some ⟨h, 0, none⟩) 5 5) ∧ Lit h sb [2, 2, 2, 3, 1] w
  k3 : L 3 = true → a.tmps[32]? = some (.pointer (some ⟨sb, 0, none⟩))
  k4 : L 4 = true → ∃ (n : Int), a.tmps[33]? = some (.int .i64 (n)) ∧ 0 ≤ n ∧ n < 5
  k5 : L 5 = true → ∃ (h : Nat) (n : Nat), a.tmps[34]? = some (.pointer (some ⟨h, n, none⟩)) ∧ Lit h sb [2, 2, 2, 3, 1] w ∧ n < 5
  k6 : L 6 = true → ∃ (d : Int), a.tmps[35]? = some (.int .i64 (d)) ∧ (d = 1 ∨ d = 2 ∨ d = 3)
  k7 : L 7 = true → ∃ (t : Itm), a.tmps[36]? = some (.agg (itL t).toArray) ∧ t.Go ∧ t.By x y z
  k8 : L 8 = true → L 9 = false → ∃ (k : Nat), a.tmps[8]? = some (.pointer (some ⟨k, 0, none⟩)) ∧ Nw k sb B 22 w ∧ (∀ q, v.ownBlock = some q → q ≠ k)
  k9 : L 9 = true → ∃ (k : Nat) (t : Itm), a.tmps[8]? = some (.pointer (some ⟨k, 0, none⟩)) ∧ It t k sb w ∧ t.Go ∧ t.By x y z ∧ B ≤ k ∧ (∀ q, v.ownBlock = some q → q ≠ k)
set_option maxHeartbeats 16000000 in
set_option maxRecDepth 40000 in
theorem Motions_any (b0 : Nat) (v0 : Value) (most : Int) (w : World) (m0 : 0 ≤ most) (m1 : most ≤ 5) (hb : b0 ≤ w.heap.size) (hv : Ns b0 v0 w) : Calls Try.prog 24 #[v0, .int .i64 most] w (MotsP w) := by
  have FR := Lib.hid (from_any b0 v0 w hv hb)
  go_enter Try.func24, Try.ntmps24
  go_wp2_with fail
  refine FR.out.mono ?_
  rintro e w1 ⟨sb, rfl, hS, hb1, hsb⟩
  have hAc : Ac b0 sb w1 w1 := ⟨hS, Chg.refl _ _ _⟩
  have hs1 := hS.lt
  have hbs := hS.le
  clear FR hS hv
  have NX := fun (n : Int) (w : World) (h1 : 1 ≤ n) (h2 : n ≤ 1000000) (hS : Src b0 sb w) => Lib.hid (next_any b0 sb n w h1 h2 hS)
  go_wp2_with fail
  refine (NX 9 _ (by decide) (by decide) hAc.src).out.mono ?_
  rintro e w2 ⟨p, rfl, p0, p1, hs, hc⟩
  have hAc := hAc.draw hs hc
  clear hs hc
  go_wp2_with fail
  refine (NX 9 _ (by decide) (by decide) hAc.src).out.mono ?_
  rintro e w3 ⟨q, rfl, q0, q1, hs, hc⟩
  have hAc := hAc.draw hs hc
  clear hs hc
  go_wp2_with fail
  refine (NX 9 _ (by decide) (by decide) hAc.src).out.mono ?_
  rintro e w4 ⟨r, rfl, r0, r1, hs, hc⟩
  have hAc := hAc.draw hs hc
  clear hs hc
  go_wp2_with fail
  obtain ⟨a', ha'⟩ : ∃ a', w4.heap.size = a' := ⟨_, rfl⟩
  have hs4 := Nat.lt_of_lt_of_le hs1 hAc.ch.size
  have hz4 := hAc.ch.size
  have hAt := At.fresh w4 (p - 4) (q - 4) (r - 4) 25 sb hs4
  have hAc := hAc.next ((Below.refl _ _).alloc (Nat.le_refl _) (.cells #[.int .i64 (p - 4), .int .i64 (q - 4), .int .i64 (r - 4)] 25))
  have hz5 : w4.heap.size < (w4.alloc (.cells #[.int .i64 (p - 4), .int .i64 (q - 4), .int .i64 (r - 4)] 25)).heap.size := by simp
  rewrite [ha'] at hAt hs4 hz4 hz5 ⊢
  refine wp_cls (fun wx => Ac b0 sb w1 wx ∧ At a' sb (p - 4) (q - 4) (r - 4) wx ∧ a' < wx.heap.size) ⟨hAc, hAt, hz5⟩ ?_
  clear hAc hAt hz5 ha'
  rintro w5 ⟨hAc, hAt, hz5⟩
  obtain ⟨i0, hi', hz0, hz1, hz2⟩ := info_parts infoIt
  --CUT1
  obtain ⟨B, hB⟩ : ∃ B, a' + 1 = B := ⟨_, rfl⟩
  go_loopw [6] (fun v wr => ∃ (l : List Itm) (x y z : Int) (ao : Option Addr) (cap : Nat), v = .slice ao l.length cap ∧ (l.length : Int) ≤ most ∧ (∀ t ∈ l, t.Go) ∧ wr.ownsRow B 27 22 v l.length (l.flatMap itL) ∧ Ac b0 sb w1 wr ∧ At a' sb x y z wr ∧ (-(10 + 60 * (l.length : Int)) ≤ x ∧ x ≤ 10 + 60 * (l.length : Int)) ∧ (-(10 + 60 * (l.length : Int)) ≤ y ∧ y ≤ 10 + 60 * (l.length : Int)) ∧ (-(10 + 60 * (l.length : Int)) ≤ z ∧ z ≤ 10 + 60 * (l.length : Int)) ∧ a' < wr.heap.size) (fun v _ => 6 - lenV v)
  case atStart => exact ⟨[], p - 4, q - 4, r - 4, none, 0, rfl, by simp; omega, by simp, World.ownsRow_nil _ _ _ _, hAc, hAt, by simp; omega, by simp; omega, by simp; omega, hz5⟩
  case round =>
  clear hAc hAt hz5 p0 p1 q0 q1 r0 r1
  obtain ⟨l, x, y, z, ao, cap, rfl, hlm, hGo', hOw, hAc, hAt, hx, hy, hz, hz5⟩ := hrel
  have LF := fun w hS => Lib.hid (left_any b0 sb w hS)
  by_cases hlt : (l.length : Int) < most
  · have hdec : decide ((l.length : Int) < most) = true := decide_eq_true hlt
    go_wp2_with fail
    --CUT3
    refine (LF _ hAc.src).out.mono ?_
    rintro e w6 ⟨bl, rfl, hb2⟩
    have hc2 := Chg.of (sb := sb) hb2
    have hOw := ownsRow_nx hOw hb2
    have hAc := hAc.next hb2
    have hAt := hAt.draw hc2
    have hz5 := Nat.lt_of_lt_of_le hz5 hb2.size
    clear hb2 hc2 LF
    cases bl
    · go_wp2_with fail
      go_ret
      have hz1 := hb1.size
      exact ⟨l, .slice ao l.length cap, rfl, row_le hOw (by omega), hGo', by omega, hb1.trans ⟨hAc.ch.os, hAc.ch.tape, hAc.ch.output, hAc.ch.size, fun k hk => hAc.ch.block k (by omega) (by omega) (fun e => nomatch e)⟩⟩
    · go_upto_region 5 with fail
      have hsB : sb < B := by omega
      have haB : a' < B := by omega
      have hBw : B ≤ w6.heap.size := by omega
      have hwB : w1.heap.size ≤ B := by omega
      have MO := fun (d : Int) (w : World) (hk : d = 1 ∨ d = 2 ∨ d = 3) (hS : Src b0 sb w) => Lib.hid (motion_any b0 sb x y z d w hk hS (by omega) (by omega) (by omega))
      generalize hA : (Act.mk _ _) = A
      have hsz : A.tmps.size = 44 := by rw [← hA]; rfl
      have hA5 : A.tmps[5]? = some (.pointer (some ⟨sb, 0, none⟩)) := by rw [← hA]; rfl
      have hA7 : A.tmps[7]? = some (.pointer (some ⟨a', 0, none⟩)) := by rw [← hA]; rfl
      have HA := Lib.hid hA
      clear hA
      refine wp_region_inv (fun L aa wx => M5 b0 sb a' B l.length x y z (.slice ao l.length cap) (l.flatMap itL) w1 A L aa wx) (by kernel_rfl) (by kernel_rfl) ?_ ?_ ?_
      · have hD := (Below.refl w6.heap.size w6).drew
        have hc := Chg.of (sb := sb) hD
        exact (by constructor <;> first | exact OffOf.refl _ _ | exact hAc.next hD | exact hAt.draw hc | exact ownsRow_nx hOw hD | exact hsB | exact hbs | exact haB | exact hBw | exact hwB | (intro h; exact nomatch h) | (intro h _; exact nomatch h))
      · intro i o ho L aa wx h' hLi hdeps K hK'
        match i, ho, hLi, hK' with
        | 0, ho, hLi, hK' =>
          cases ho
          have ea := (h'.off.off 5 (by decide)).trans hA5
          go_simp
          exact hK' _ _ { off := h'.off.put (by decide) _, ac := h'.ac, at' := h'.at', ow := h'.ow, hs := h'.hs, hb := h'.hb, ha := h'.ha, hB := h'.hB, hw := h'.hw, d9_8 := fun q => by simpa using h'.d9_8 (by simpa using q), k0 := fun _ => put_at _ (by have := h'.off.size; omega), k1 := fun q => put_ne _ (by decide) (h'.k1 (by simpa using q)), k2 := fun q => (h'.k2 (by simpa using q)).imp fun _ g => ⟨put_ne _ (by decide) (g.1), g.2⟩, k3 := fun q => put_ne _ (by decide) (h'.k3 (by simpa using q)), k4 := fun q => (h'.k4 (by simpa using q)).imp fun _ g => ⟨put_ne _ (by decide) (g.1), g.2.1, g.2.2⟩, k5 := fun q => (h'.k5 (by simpa using q)).imp fun _ g => g.imp fun _ g => ⟨put_ne _ (by decide) (g.1), g.2.1, g.2.2⟩, k6 := fun q => (h'.k6 (by simpa using q)).imp fun _ g => ⟨put_ne _ (by decide) (g.1), g.2⟩, k7 := fun q => (h'.k7 (by simpa using q)).imp fun _ g => ⟨put_ne _ (by decide) (g.1), g.2.1, g.2.2⟩, k8 := fun q q' => (h'.k8 (by simpa using q) (by simpa using q')).imp fun _ g => ⟨put_ne _ (by decide) (g.1), g.2.1, g.2.2⟩, k9 := fun q => (h'.k9 (by simpa using q)).imp fun _ g => g.imp fun _ g => ⟨put_ne _ (by decide) (g.1), g.2.1, g.2.2.1, g.2.2.2.1, g.2.2.2.2.1, g.2.2.2.2.2⟩ }
        | 1, ho, hLi, hK' =>
          cases ho
          have ea := (h'.off.off 7 (by decide)).trans hA7
          have y0 := h'.at'.c.c 0 x rfl
          have y1 := h'.at'.c.c 1 y rfl
          have y2 := h'.at'.c.c 2 z rfl
          go_simp
          exact hK' _ _ { off := h'.off.put (by decide) _, ac := h'.ac, at' := h'.at', ow := h'.ow, hs := h'.hs, hb := h'.hb, ha := h'.ha, hB := h'.hB, hw := h'.hw, d9_8 := fun q => by simpa using h'.d9_8 (by simpa using q), k0 := fun q => put_ne _ (by decide) (h'.k0 (by simpa using q)), k1 := fun _ => put_at _ (by have := h'.off.size; omega), k2 := fun q => (h'.k2 (by simpa using q)).imp fun _ g => ⟨put_ne _ (by decide) (g.1), g.2⟩, k3 := fun q => put_ne _ (by decide) (h'.k3 (by simpa using q)), k4 := fun q => (h'.k4 (by simpa using q)).imp fun _ g => ⟨put_ne _ (by decide) (g.1), g.2.1, g.2.2⟩, k5 := fun q => (h'.k5 (by simpa using q)).imp fun _ g => g.imp fun _ g => ⟨put_ne _ (by decide) (g.1), g.2.1, g.2.2⟩, k6 := fun q => (h'.k6 (by simpa using q)).imp fun _ g => ⟨put_ne _ (by decide) (g.1), g.2⟩, k7 := fun q => (h'.k7 (by simpa using q)).imp fun _ g => ⟨put_ne _ (by decide) (g.1), g.2.1, g.2.2⟩, k8 := fun q q' => (h'.k8 (by simpa using q) (by simpa using q')).imp fun _ g => ⟨put_ne _ (by decide) (g.1), g.2.1, g.2.2⟩, k9 := fun q => (h'.k9 (by simpa using q)).imp fun _ g => g.imp fun _ g => ⟨put_ne _ (by decide) (g.1), g.2.1, g.2.2.1, g.2.2.2.1, g.2.2.2.2.1, g.2.2.2.2.2⟩ }
        | 2, ho, hLi, hK' =>
          cases ho
          have hb := (Below.refl wx.heap.size wx).alloc (Nat.le_refl _) (.cells #[.int .i64 2, .int .i64 2, .int .i64 2, .int .i64 3, .int .i64 1] 3)
          have hc := Chg.of (sb := sb) hb
          go_simp
          exact hK' _ _ { off := h'.off.put (by decide) _, ac := h'.ac.next hb, at' := h'.at'.draw hc, ow := ownsRow_nx h'.ow hb, hs := h'.hs, hb := h'.hb, ha := h'.ha, hB := Nat.le_trans h'.hB hc.size, hw := h'.hw, d9_8 := fun q => by simpa using h'.d9_8 (by simpa using q), k0 := fun q => put_ne _ (by decide) (h'.k0 (by simpa using q)), k1 := fun q => put_ne _ (by decide) (h'.k1 (by simpa using q)), k2 := fun _ => ⟨wx.heap.size, put_at _ (by have := h'.off.size; omega), Lit.fresh [2, 2, 2, 3, 1] _ (Nat.lt_of_lt_of_le h'.hs h'.hB)⟩, k3 := fun q => put_ne _ (by decide) (h'.k3 (by simpa using q)), k4 := fun q => (h'.k4 (by simpa using q)).imp fun _ g => ⟨put_ne _ (by decide) (g.1), g.2.1, g.2.2⟩, k5 := fun q => (h'.k5 (by simpa using q)).imp fun _ g => g.imp fun _ g => ⟨put_ne _ (by decide) (g.1), (g.2.1).draw hc, g.2.2⟩, k6 := fun q => (h'.k6 (by simpa using q)).imp fun _ g => ⟨put_ne _ (by decide) (g.1), g.2⟩, k7 := fun q => (h'.k7 (by simpa using q)).imp fun _ g => ⟨put_ne _ (by decide) (g.1), g.2.1, g.2.2⟩, k8 := fun q q' => (h'.k8 (by simpa using q) (by simpa using q')).imp fun _ g => ⟨put_ne _ (by decide) (g.1), (g.2.1).draw hc, g.2.2⟩, k9 := fun q => (h'.k9 (by simpa using q)).imp fun _ g => g.imp fun _ g => ⟨put_ne _ (by decide) (g.1), (g.2.1).draw hc, g.2.2.1, g.2.2.2.1, g.2.2.2.2.1, g.2.2.2.2.2⟩ }
        | 3, ho, hLi, hK' =>
          cases ho
          have ea := (h'.off.off 5 (by decide)).trans hA5
          go_simp
          exact hK' _ _ { off := h'.off.put (by decide) _, ac := h'.ac, at' := h'.at', ow := h'.ow, hs := h'.hs, hb := h'.hb, ha := h'.ha, hB := h'.hB, hw := h'.hw, d9_8 := fun q => by simpa using h'.d9_8 (by simpa using q), k0 := fun q => put_ne _ (by decide) (h'.k0 (by simpa using q)), k1 := fun q => put_ne _ (by decide) (h'.k1 (by simpa using q)), k2 := fun q => (h'.k2 (by simpa using q)).imp fun _ g => ⟨put_ne _ (by decide) (g.1), g.2⟩, k3 := fun _ => put_at _ (by have := h'.off.size; omega), k4 := fun q => (h'.k4 (by simpa using q)).imp fun _ g => ⟨put_ne _ (by decide) (g.1), g.2.1, g.2.2⟩, k5 := fun q => (h'.k5 (by simpa using q)).imp fun _ g => g.imp fun _ g => ⟨put_ne _ (by decide) (g.1), g.2.1, g.2.2⟩, k6 := fun q => (h'.k6 (by simpa using q)).imp fun _ g => ⟨put_ne _ (by decide) (g.1), g.2⟩, k7 := fun q => (h'.k7 (by simpa using q)).imp fun _ g => ⟨put_ne _ (by decide) (g.1), g.2.1, g.2.2⟩, k8 := fun q q' => (h'.k8 (by simpa using q) (by simpa using q')).imp fun _ g => ⟨put_ne _ (by decide) (g.1), g.2.1, g.2.2⟩, k9 := fun q => (h'.k9 (by simpa using q)).imp fun _ g => g.imp fun _ g => ⟨put_ne _ (by decide) (g.1), g.2.1, g.2.2.1, g.2.2.2.1, g.2.2.2.2.1, g.2.2.2.2.2⟩ }
        | 4, ho, hLi, hK' =>
          cases ho
          have ea := h'.k3 (hdeps ⟨3, .data⟩ (by simp) (by rfl))
          go_simp
          refine (NX 5 wx (by decide) (by decide) h'.ac.src).out.mono ?_
          rintro e w2 ⟨r, rfl, r0, r1, hs, hc⟩
          exact hK' _ _ { off := h'.off.put (by decide) _, ac := h'.ac.draw hs hc, at' := h'.at'.draw hc, ow := ownsRow_draw h'.ow hc h'.hs, hs := h'.hs, hb := h'.hb, ha := h'.ha, hB := Nat.le_trans h'.hB hc.size, hw := h'.hw, d9_8 := fun q => by simpa using h'.d9_8 (by simpa using q), k0 := fun q => put_ne _ (by decide) (h'.k0 (by simpa using q)), k1 := fun q => put_ne _ (by decide) (h'.k1 (by simpa using q)), k2 := fun q => (h'.k2 (by simpa using q)).imp fun _ g => ⟨put_ne _ (by decide) (g.1), (g.2).draw hc⟩, k3 := fun q => put_ne _ (by decide) (h'.k3 (by simpa using q)), k4 := fun _ => ⟨r, put_at _ (by have := h'.off.size; omega), r0, r1⟩, k5 := fun q => (h'.k5 (by simpa using q)).imp fun _ g => g.imp fun _ g => ⟨put_ne _ (by decide) (g.1), (g.2.1).draw hc, g.2.2⟩, k6 := fun q => (h'.k6 (by simpa using q)).imp fun _ g => ⟨put_ne _ (by decide) (g.1), g.2⟩, k7 := fun q => (h'.k7 (by simpa using q)).imp fun _ g => ⟨put_ne _ (by decide) (g.1), g.2.1, g.2.2⟩, k8 := fun q q' => (h'.k8 (by simpa using q) (by simpa using q')).imp fun _ g => ⟨put_ne _ (by decide) (g.1), (g.2.1).draw hc, g.2.2⟩, k9 := fun q => (h'.k9 (by simpa using q)).imp fun _ g => g.imp fun _ g => ⟨put_ne _ (by decide) (g.1), (g.2.1).draw hc, g.2.2.1, g.2.2.2.1, g.2.2.2.2.1, g.2.2.2.2.2⟩ }
        | 5, ho, hLi, hK' =>
          cases ho
          obtain ⟨h2, ea, q20⟩ := h'.k2 (hdeps ⟨2, .data⟩ (by simp) (by rfl))
          obtain ⟨n4, eb, q40, q41⟩ := h'.k4 (hdeps ⟨4, .data⟩ (by simp) (by rfl))
          have : n4 = 0 ∨ n4 = 1 ∨ n4 = 2 ∨ n4 = 3 ∨ n4 = 4 := by omega
          rcases this with rfl | rfl | rfl | rfl | rfl
          · go_simp
            exact hK' _ _ { off := h'.off.put (by decide) _, ac := h'.ac, at' := h'.at', ow := h'.ow, hs := h'.hs, hb := h'.hb, ha := h'.ha, hB := h'.hB, hw := h'.hw, d9_8 := fun q => by simpa using h'.d9_8 (by simpa using q), k0 := fun q => put_ne _ (by decide) (h'.k0 (by simpa using q)), k1 := fun q => put_ne _ (by decide) (h'.k1 (by simpa using q)), k2 := fun q => (h'.k2 (by simpa using q)).imp fun _ g => ⟨put_ne _ (by decide) (g.1), g.2⟩, k3 := fun q => put_ne _ (by decide) (h'.k3 (by simpa using q)), k4 := fun q => (h'.k4 (by simpa using q)).imp fun _ g => ⟨put_ne _ (by decide) (g.1), g.2.1, g.2.2⟩, k5 := fun _ => ⟨h2, 0, put_at _ (by have := h'.off.size; omega), q20, by decide⟩, k6 := fun q => (h'.k6 (by simpa using q)).imp fun _ g => ⟨put_ne _ (by decide) (g.1), g.2⟩, k7 := fun q => (h'.k7 (by simpa using q)).imp fun _ g => ⟨put_ne _ (by decide) (g.1), g.2.1, g.2.2⟩, k8 := fun q q' => (h'.k8 (by simpa using q) (by simpa using q')).imp fun _ g => ⟨put_ne _ (by decide) (g.1), g.2.1, g.2.2⟩, k9 := fun q => (h'.k9 (by simpa using q)).imp fun _ g => g.imp fun _ g => ⟨put_ne _ (by decide) (g.1), g.2.1, g.2.2.1, g.2.2.2.1, g.2.2.2.2.1, g.2.2.2.2.2⟩ }
          · go_simp
            exact hK' _ _ { off := h'.off.put (by decide) _, ac := h'.ac, at' := h'.at', ow := h'.ow, hs := h'.hs, hb := h'.hb, ha := h'.ha, hB := h'.hB, hw := h'.hw, d9_8 := fun q => by simpa using h'.d9_8 (by simpa using q), k0 := fun q => put_ne _ (by decide) (h'.k0 (by simpa using q)), k1 := fun q => put_ne _ (by decide) (h'.k1 (by simpa using q)), k2 := fun q => (h'.k2 (by simpa using q)).imp fun _ g => ⟨put_ne _ (by decide) (g.1), g.2⟩, k3 := fun q => put_ne _ (by decide) (h'.k3 (by simpa using q)), k4 := fun q => (h'.k4 (by simpa using q)).imp fun _ g => ⟨put_ne _ (by decide) (g.1), g.2.1, g.2.2⟩, k5 := fun _ => ⟨h2, 1, put_at _ (by have := h'.off.size; omega), q20, by decide⟩, k6 := fun q => (h'.k6 (by simpa using q)).imp fun _ g => ⟨put_ne _ (by decide) (g.1), g.2⟩, k7 := fun q => (h'.k7 (by simpa using q)).imp fun _ g => ⟨put_ne _ (by decide) (g.1), g.2.1, g.2.2⟩, k8 := fun q q' => (h'.k8 (by simpa using q) (by simpa using q')).imp fun _ g => ⟨put_ne _ (by decide) (g.1), g.2.1, g.2.2⟩, k9 := fun q => (h'.k9 (by simpa using q)).imp fun _ g => g.imp fun _ g => ⟨put_ne _ (by decide) (g.1), g.2.1, g.2.2.1, g.2.2.2.1, g.2.2.2.2.1, g.2.2.2.2.2⟩ }
          · go_simp
            exact hK' _ _ { off := h'.off.put (by decide) _, ac := h'.ac, at' := h'.at', ow := h'.ow, hs := h'.hs, hb := h'.hb, ha := h'.ha, hB := h'.hB, hw := h'.hw, d9_8 := fun q => by simpa using h'.d9_8 (by simpa using q), k0 := fun q => put_ne _ (by decide) (h'.k0 (by simpa using q)), k1 := fun q => put_ne _ (by decide) (h'.k1 (by simpa using q)), k2 := fun q => (h'.k2 (by simpa using q)).imp fun _ g => ⟨put_ne _ (by decide) (g.1), g.2⟩, k3 := fun q => put_ne _ (by decide) (h'.k3 (by simpa using q)), k4 := fun q => (h'.k4 (by simpa using q)).imp fun _ g => ⟨put_ne _ (by decide) (g.1), g.2.1, g.2.2⟩, k5 := fun _ => ⟨h2, 2, put_at _ (by have := h'.off.size; omega), q20, by decide⟩, k6 := fun q => (h'.k6 (by simpa using q)).imp fun _ g => ⟨put_ne _ (by decide) (g.1), g.2⟩, k7 := fun q => (h'.k7 (by simpa using q)).imp fun _ g => ⟨put_ne _ (by decide) (g.1), g.2.1, g.2.2⟩, k8 := fun q q' => (h'.k8 (by simpa using q) (by simpa using q')).imp fun _ g => ⟨put_ne _ (by decide) (g.1), g.2.1, g.2.2⟩, k9 := fun q => (h'.k9 (by simpa using q)).imp fun _ g => g.imp fun _ g => ⟨put_ne _ (by decide) (g.1), g.2.1, g.2.2.1, g.2.2.2.1, g.2.2.2.2.1, g.2.2.2.2.2⟩ }
          · go_simp
            exact hK' _ _ { off := h'.off.put (by decide) _, ac := h'.ac, at' := h'.at', ow := h'.ow, hs := h'.hs, hb := h'.hb, ha := h'.ha, hB := h'.hB, hw := h'.hw, d9_8 := fun q => by simpa using h'.d9_8 (by simpa using q), k0 := fun q => put_ne _ (by decide) (h'.k0 (by simpa using q)), k1 := fun q => put_ne _ (by decide) (h'.k1 (by simpa using q)), k2 := fun q => (h'.k2 (by simpa using q)).imp fun _ g => ⟨put_ne _ (by decide) (g.1), g.2⟩, k3 := fun q => put_ne _ (by decide) (h'.k3 (by simpa using q)), k4 := fun q => (h'.k4 (by simpa using q)).imp fun _ g => ⟨put_ne _ (by decide) (g.1), g.2.1, g.2.2⟩, k5 := fun _ => ⟨h2, 3, put_at _ (by have := h'.off.size; omega), q20, by decide⟩, k6 := fun q => (h'.k6 (by simpa using q)).imp fun _ g => ⟨put_ne _ (by decide) (g.1), g.2⟩, k7 := fun q => (h'.k7 (by simpa using q)).imp fun _ g => ⟨put_ne _ (by decide) (g.1), g.2.1, g.2.2⟩, k8 := fun q q' => (h'.k8 (by simpa using q) (by simpa using q')).imp fun _ g => ⟨put_ne _ (by decide) (g.1), g.2.1, g.2.2⟩, k9 := fun q => (h'.k9 (by simpa using q)).imp fun _ g => g.imp fun _ g => ⟨put_ne _ (by decide) (g.1), g.2.1, g.2.2.1, g.2.2.2.1, g.2.2.2.2.1, g.2.2.2.2.2⟩ }
          · go_simp
            exact hK' _ _ { off := h'.off.put (by decide) _, ac := h'.ac, at' := h'.at', ow := h'.ow, hs := h'.hs, hb := h'.hb, ha := h'.ha, hB := h'.hB, hw := h'.hw, d9_8 := fun q => by simpa using h'.d9_8 (by simpa using q), k0 := fun q => put_ne _ (by decide) (h'.k0 (by simpa using q)), k1 := fun q => put_ne _ (by decide) (h'.k1 (by simpa using q)), k2 := fun q => (h'.k2 (by simpa using q)).imp fun _ g => ⟨put_ne _ (by decide) (g.1), g.2⟩, k3 := fun q => put_ne _ (by decide) (h'.k3 (by simpa using q)), k4 := fun q => (h'.k4 (by simpa using q)).imp fun _ g => ⟨put_ne _ (by decide) (g.1), g.2.1, g.2.2⟩, k5 := fun _ => ⟨h2, 4, put_at _ (by have := h'.off.size; omega), q20, by decide⟩, k6 := fun q => (h'.k6 (by simpa using q)).imp fun _ g => ⟨put_ne _ (by decide) (g.1), g.2⟩, k7 := fun q => (h'.k7 (by simpa using q)).imp fun _ g => ⟨put_ne _ (by decide) (g.1), g.2.1, g.2.2⟩, k8 := fun q q' => (h'.k8 (by simpa using q) (by simpa using q')).imp fun _ g => ⟨put_ne _ (by decide) (g.1), g.2.1, g.2.2⟩, k9 := fun q => (h'.k9 (by simpa using q)).imp fun _ g => g.imp fun _ g => ⟨put_ne _ (by decide) (g.1), g.2.1, g.2.2.1, g.2.2.2.1, g.2.2.2.2.1, g.2.2.2.2.2⟩ }
        | 6, ho, hLi, hK' =>
          cases ho
          obtain ⟨h5, n5, ea, q50, q51⟩ := h'.k5 (hdeps ⟨5, .data⟩ (by simp) (by rfl))
          have : n5 = 0 ∨ n5 = 1 ∨ n5 = 2 ∨ n5 = 3 ∨ n5 = 4 := by omega
          rcases this with rfl | rfl | rfl | rfl | rfl
          · have ec := q50.c 0 2 rfl
            go_simp
            exact hK' _ _ { off := h'.off.put (by decide) _, ac := h'.ac, at' := h'.at', ow := h'.ow, hs := h'.hs, hb := h'.hb, ha := h'.ha, hB := h'.hB, hw := h'.hw, d9_8 := fun q => by simpa using h'.d9_8 (by simpa using q), k0 := fun q => put_ne _ (by decide) (h'.k0 (by simpa using q)), k1 := fun q => put_ne _ (by decide) (h'.k1 (by simpa using q)), k2 := fun q => (h'.k2 (by simpa using q)).imp fun _ g => ⟨put_ne _ (by decide) (g.1), g.2⟩, k3 := fun q => put_ne _ (by decide) (h'.k3 (by simpa using q)), k4 := fun q => (h'.k4 (by simpa using q)).imp fun _ g => ⟨put_ne _ (by decide) (g.1), g.2.1, g.2.2⟩, k5 := fun q => (h'.k5 (by simpa using q)).imp fun _ g => g.imp fun _ g => ⟨put_ne _ (by decide) (g.1), g.2.1, g.2.2⟩, k6 := fun _ => ⟨2, put_at _ (by have := h'.off.size; omega), by decide⟩, k7 := fun q => (h'.k7 (by simpa using q)).imp fun _ g => ⟨put_ne _ (by decide) (g.1), g.2.1, g.2.2⟩, k8 := fun q q' => (h'.k8 (by simpa using q) (by simpa using q')).imp fun _ g => ⟨put_ne _ (by decide) (g.1), g.2.1, g.2.2⟩, k9 := fun q => (h'.k9 (by simpa using q)).imp fun _ g => g.imp fun _ g => ⟨put_ne _ (by decide) (g.1), g.2.1, g.2.2.1, g.2.2.2.1, g.2.2.2.2.1, g.2.2.2.2.2⟩ }
          · have ec := q50.c 1 2 rfl
            go_simp
            exact hK' _ _ { off := h'.off.put (by decide) _, ac := h'.ac, at' := h'.at', ow := h'.ow, hs := h'.hs, hb := h'.hb, ha := h'.ha, hB := h'.hB, hw := h'.hw, d9_8 := fun q => by simpa using h'.d9_8 (by simpa using q), k0 := fun q => put_ne _ (by decide) (h'.k0 (by simpa using q)), k1 := fun q => put_ne _ (by decide) (h'.k1 (by simpa using q)), k2 := fun q => (h'.k2 (by simpa using q)).imp fun _ g => ⟨put_ne _ (by decide) (g.1), g.2⟩, k3 := fun q => put_ne _ (by decide) (h'.k3 (by simpa using q)), k4 := fun q => (h'.k4 (by simpa using q)).imp fun _ g => ⟨put_ne _ (by decide) (g.1), g.2.1, g.2.2⟩, k5 := fun q => (h'.k5 (by simpa using q)).imp fun _ g => g.imp fun _ g => ⟨put_ne _ (by decide) (g.1), g.2.1, g.2.2⟩, k6 := fun _ => ⟨2, put_at _ (by have := h'.off.size; omega), by decide⟩, k7 := fun q => (h'.k7 (by simpa using q)).imp fun _ g => ⟨put_ne _ (by decide) (g.1), g.2.1, g.2.2⟩, k8 := fun q q' => (h'.k8 (by simpa using q) (by simpa using q')).imp fun _ g => ⟨put_ne _ (by decide) (g.1), g.2.1, g.2.2⟩, k9 := fun q => (h'.k9 (by simpa using q)).imp fun _ g => g.imp fun _ g => ⟨put_ne _ (by decide) (g.1), g.2.1, g.2.2.1, g.2.2.2.1, g.2.2.2.2.1, g.2.2.2.2.2⟩ }
          · have ec := q50.c 2 2 rfl
            go_simp
            exact hK' _ _ { off := h'.off.put (by decide) _, ac := h'.ac, at' := h'.at', ow := h'.ow, hs := h'.hs, hb := h'.hb, ha := h'.ha, hB := h'.hB, hw := h'.hw, d9_8 := fun q => by simpa using h'.d9_8 (by simpa using q), k0 := fun q => put_ne _ (by decide) (h'.k0 (by simpa using q)), k1 := fun q => put_ne _ (by decide) (h'.k1 (by simpa using q)), k2 := fun q => (h'.k2 (by simpa using q)).imp fun _ g => ⟨put_ne _ (by decide) (g.1), g.2⟩, k3 := fun q => put_ne _ (by decide) (h'.k3 (by simpa using q)), k4 := fun q => (h'.k4 (by simpa using q)).imp fun _ g => ⟨put_ne _ (by decide) (g.1), g.2.1, g.2.2⟩, k5 := fun q => (h'.k5 (by simpa using q)).imp fun _ g => g.imp fun _ g => ⟨put_ne _ (by decide) (g.1), g.2.1, g.2.2⟩, k6 := fun _ => ⟨2, put_at _ (by have := h'.off.size; omega), by decide⟩, k7 := fun q => (h'.k7 (by simpa using q)).imp fun _ g => ⟨put_ne _ (by decide) (g.1), g.2.1, g.2.2⟩, k8 := fun q q' => (h'.k8 (by simpa using q) (by simpa using q')).imp fun _ g => ⟨put_ne _ (by decide) (g.1), g.2.1, g.2.2⟩, k9 := fun q => (h'.k9 (by simpa using q)).imp fun _ g => g.imp fun _ g => ⟨put_ne _ (by decide) (g.1), g.2.1, g.2.2.1, g.2.2.2.1, g.2.2.2.2.1, g.2.2.2.2.2⟩ }
          · have ec := q50.c 3 3 rfl
            go_simp
            exact hK' _ _ { off := h'.off.put (by decide) _, ac := h'.ac, at' := h'.at', ow := h'.ow, hs := h'.hs, hb := h'.hb, ha := h'.ha, hB := h'.hB, hw := h'.hw, d9_8 := fun q => by simpa using h'.d9_8 (by simpa using q), k0 := fun q => put_ne _ (by decide) (h'.k0 (by simpa using q)), k1 := fun q => put_ne _ (by decide) (h'.k1 (by simpa using q)), k2 := fun q => (h'.k2 (by simpa using q)).imp fun _ g => ⟨put_ne _ (by decide) (g.1), g.2⟩, k3 := fun q => put_ne _ (by decide) (h'.k3 (by simpa using q)), k4 := fun q => (h'.k4 (by simpa using q)).imp fun _ g => ⟨put_ne _ (by decide) (g.1), g.2.1, g.2.2⟩, k5 := fun q => (h'.k5 (by simpa using q)).imp fun _ g => g.imp fun _ g => ⟨put_ne _ (by decide) (g.1), g.2.1, g.2.2⟩, k6 := fun _ => ⟨3, put_at _ (by have := h'.off.size; omega), by decide⟩, k7 := fun q => (h'.k7 (by simpa using q)).imp fun _ g => ⟨put_ne _ (by decide) (g.1), g.2.1, g.2.2⟩, k8 := fun q q' => (h'.k8 (by simpa using q) (by simpa using q')).imp fun _ g => ⟨put_ne _ (by decide) (g.1), g.2.1, g.2.2⟩, k9 := fun q => (h'.k9 (by simpa using q)).imp fun _ g => g.imp fun _ g => ⟨put_ne _ (by decide) (g.1), g.2.1, g.2.2.1, g.2.2.2.1, g.2.2.2.2.1, g.2.2.2.2.2⟩ }
          · have ec := q50.c 4 1 rfl
            go_simp
            exact hK' _ _ { off := h'.off.put (by decide) _, ac := h'.ac, at' := h'.at', ow := h'.ow, hs := h'.hs, hb := h'.hb, ha := h'.ha, hB := h'.hB, hw := h'.hw, d9_8 := fun q => by simpa using h'.d9_8 (by simpa using q), k0 := fun q => put_ne _ (by decide) (h'.k0 (by simpa using q)), k1 := fun q => put_ne _ (by decide) (h'.k1 (by simpa using q)), k2 := fun q => (h'.k2 (by simpa using q)).imp fun _ g => ⟨put_ne _ (by decide) (g.1), g.2⟩, k3 := fun q => put_ne _ (by decide) (h'.k3 (by simpa using q)), k4 := fun q => (h'.k4 (by simpa using q)).imp fun _ g => ⟨put_ne _ (by decide) (g.1), g.2.1, g.2.2⟩, k5 := fun q => (h'.k5 (by simpa using q)).imp fun _ g => g.imp fun _ g => ⟨put_ne _ (by decide) (g.1), g.2.1, g.2.2⟩, k6 := fun _ => ⟨1, put_at _ (by have := h'.off.size; omega), by decide⟩, k7 := fun q => (h'.k7 (by simpa using q)).imp fun _ g => ⟨put_ne _ (by decide) (g.1), g.2.1, g.2.2⟩, k8 := fun q q' => (h'.k8 (by simpa using q) (by simpa using q')).imp fun _ g => ⟨put_ne _ (by decide) (g.1), g.2.1, g.2.2⟩, k9 := fun q => (h'.k9 (by simpa using q)).imp fun _ g => g.imp fun _ g => ⟨put_ne _ (by decide) (g.1), g.2.1, g.2.2.1, g.2.2.2.1, g.2.2.2.2.1, g.2.2.2.2.2⟩ }
        | 7, ho, hLi, hK' =>
          cases ho
          have ea := h'.k0 (hdeps ⟨0, .data⟩ (by simp) (by rfl))
          have eb := h'.k1 (hdeps ⟨1, .data⟩ (by simp) (by rfl))
          obtain ⟨d6, ec, q60⟩ := h'.k6 (hdeps ⟨6, .data⟩ (by simp) (by rfl))
          go_simp
          refine (MO _ wx q60 h'.ac.src).out.mono ?_
          rintro e w2 ⟨t, rfl, hGo, hfr, hBy, hs, hc⟩
          exact hK' _ _ { off := h'.off.put (by decide) _, ac := h'.ac.draw hs hc, at' := h'.at'.draw hc, ow := ownsRow_draw h'.ow hc h'.hs, hs := h'.hs, hb := h'.hb, ha := h'.ha, hB := Nat.le_trans h'.hB hc.size, hw := h'.hw, d9_8 := fun q => by simpa using h'.d9_8 (by simpa using q), k0 := fun q => put_ne _ (by decide) (h'.k0 (by simpa using q)), k1 := fun q => put_ne _ (by decide) (h'.k1 (by simpa using q)), k2 := fun q => (h'.k2 (by simpa using q)).imp fun _ g => ⟨put_ne _ (by decide) (g.1), (g.2).draw hc⟩, k3 := fun q => put_ne _ (by decide) (h'.k3 (by simpa using q)), k4 := fun q => (h'.k4 (by simpa using q)).imp fun _ g => ⟨put_ne _ (by decide) (g.1), g.2.1, g.2.2⟩, k5 := fun q => (h'.k5 (by simpa using q)).imp fun _ g => g.imp fun _ g => ⟨put_ne _ (by decide) (g.1), (g.2.1).draw hc, g.2.2⟩, k6 := fun q => (h'.k6 (by simpa using q)).imp fun _ g => ⟨put_ne _ (by decide) (g.1), g.2⟩, k7 := fun _ => ⟨t, put_at _ (by have := h'.off.size; omega), hGo, hBy⟩, k8 := fun q q' => (h'.k8 (by simpa using q) (by simpa using q')).imp fun _ g => ⟨put_ne _ (by decide) (g.1), (g.2.1).draw hc, g.2.2⟩, k9 := fun q => (h'.k9 (by simpa using q)).imp fun _ g => g.imp fun _ g => ⟨put_ne _ (by decide) (g.1), (g.2.1).draw hc, g.2.2.1, g.2.2.2.1, g.2.2.2.2.1, g.2.2.2.2.2⟩ }
        | 8, ho, hLi, hK' =>
          cases ho
          have hb := (Below.refl wx.heap.size wx).alloc (Nat.le_refl _) (.cells zeroI 27)
          have hc := Chg.of (sb := sb) hb
          have hlt := Nat.lt_of_lt_of_le h'.hs h'.hB
          have hge := h'.hB
          go_simp
          exact hK' _ _ { off := h'.off.put (by decide) _, ac := h'.ac.next hb, at' := h'.at'.draw hc, ow := ownsRow_nx h'.ow hb, hs := h'.hs, hb := h'.hb, ha := h'.ha, hB := Nat.le_trans h'.hB hc.size, hw := h'.hw, d9_8 := fun _ => by simp, k0 := fun q => put_ne _ (by decide) (h'.k0 (by simpa using q)), k1 := fun q => put_ne _ (by decide) (h'.k1 (by simpa using q)), k2 := fun q => (h'.k2 (by simpa using q)).imp fun _ g => ⟨put_ne _ (by decide) (g.1), (g.2).draw hc⟩, k3 := fun q => put_ne _ (by decide) (h'.k3 (by simpa using q)), k4 := fun q => (h'.k4 (by simpa using q)).imp fun _ g => ⟨put_ne _ (by decide) (g.1), g.2.1, g.2.2⟩, k5 := fun q => (h'.k5 (by simpa using q)).imp fun _ g => g.imp fun _ g => ⟨put_ne _ (by decide) (g.1), (g.2.1).draw hc, g.2.2⟩, k6 := fun q => (h'.k6 (by simpa using q)).imp fun _ g => ⟨put_ne _ (by decide) (g.1), g.2⟩, k7 := fun q => (h'.k7 (by simpa using q)).imp fun _ g => ⟨put_ne _ (by decide) (g.1), g.2.1, g.2.2⟩, k8 := fun _ _ => ⟨wx.heap.size, put_at _ (by have := h'.off.size; omega), Nw.fresh22 wx _ sb _ hge hlt, fun q e => by have := (h'.ow.lt q e).2; omega⟩, k9 := fun q => absurd (h'.d9_8 (by simpa using q)) (by simp [hLi]) }
        | 9, ho, hLi, hK' =>
          cases ho
          have l8 := (hdeps ⟨8, .data⟩ (by simp) (by rfl))
          obtain ⟨k, ea, hN, hq⟩ := h'.k8 l8 hLi
          obtain ⟨t, eb, hGo, hBy⟩ := h'.k7 (hdeps ⟨7, .data⟩ (by simp) (by rfl))
          have hge := hN.ge
          have hs0 := h'.hs
          have hb0 := h'.hb
          have ha0 := h'.ha
          have hw0 := h'.hw
          have hsg : sb ≠ k := by omega
          have hbg : b0 ≤ k := by omega
          have hwg : w1.heap.size ≤ k := by omega
          have hag : a' ≠ k := by omega
          refine wp_store_mid 27 (.tmp 8) (.tmp 36) rfl k 0 (itL t).toArray (eval_of ea) (eval_of eb) hN.th (by kernel_rfl) (one_itL _) ?_
          exact hK' _ _ { off := h'.off, ac := h'.ac.far hsg hbg hwg _ _, at' := h'.at'.far hag _, ow := h'.ow.kept (grown_sets k _ _ _) (Or.inr fun e => hq _ e rfl), hs := h'.hs, hb := h'.hb, ha := h'.ha, hB := by rw [size_sets]; exact h'.hB, hw := h'.hw, d9_8 := fun _ => by simpa using l8, k0 := fun q => (h'.k0 (by simpa using q)), k1 := fun q => (h'.k1 (by simpa using q)), k2 := fun q => (h'.k2 (by simpa using q)).imp fun _ g => ⟨g.1, (g.2).far ((g.2).off hN rfl (by decide)) _⟩, k3 := fun q => (h'.k3 (by simpa using q)), k4 := fun q => (h'.k4 (by simpa using q)).imp fun _ g => ⟨g.1, g.2.1, g.2.2⟩, k5 := fun q => (h'.k5 (by simpa using q)).imp fun _ g => g.imp fun _ g => ⟨g.1, (g.2.1).far ((g.2.1).off hN rfl (by decide)) _, g.2.2⟩, k6 := fun q => (h'.k6 (by simpa using q)).imp fun _ g => ⟨g.1, g.2⟩, k7 := fun q => (h'.k7 (by simpa using q)).imp fun _ g => ⟨g.1, g.2.1, g.2.2⟩, k8 := fun _ q => absurd q (by simp), k9 := fun _ => ⟨k, t, ea, It.put hN, hGo, hBy, by omega, hq⟩ }
        | i + 10, ho, hLi, hK' => cases ho
      · intro L aa wx h' hall
        have z_0 := h'.k0 (hall 0 (by decide))
        have z_1 := h'.k1 (hall 1 (by decide))
        obtain ⟨h_2, z_2, -⟩ := h'.k2 (hall 2 (by decide))
        have z_3 := h'.k3 (hall 3 (by decide))
        obtain ⟨n_4, z_4, -⟩ := h'.k4 (hall 4 (by decide))
        obtain ⟨h_5, n_5, z_5, -⟩ := h'.k5 (hall 5 (by decide))
        obtain ⟨d_6, z_6, -⟩ := h'.k6 (hall 6 (by decide))
        obtain ⟨t_7, z_7, -⟩ := h'.k7 (hall 7 (by decide))
        obtain ⟨k_9, t_9, z_9, hIt, hGo, hBy, hBk, hvk⟩ := h'.k9 (hall 9 (by decide))
        have hfr := h'.off.rebuild (fun d' => if d' = 29 then .pointer (some ⟨sb, 0, none⟩) else if d' = 30 then .agg #[.int .i64 x, .int .i64 y, .int .i64 z] else if d' = 31 then .slice (some ⟨h_2, 0, none⟩) 5 5 else if d' = 32 then .pointer (some ⟨sb, 0, none⟩) else if d' = 33 then .int .i64 (n_4) else if d' = 34 then .pointer (some ⟨h_5, n_5, none⟩) else if d' = 35 then .int .i64 (d_6) else if d' = 36 then .agg (itL t_7).toArray else if d' = 8 then .pointer (some ⟨k_9, 0, none⟩) else undef) (by
          intro d' hd'
          simp only [List.mem_cons, List.not_mem_nil, or_false] at hd'
          rcases hd' with rfl | rfl | rfl | rfl | rfl | rfl | rfl | rfl | rfl
          · exact z_0
          · exact z_1
          · exact z_2
          · exact z_3
          · exact z_4
          · exact z_5
          · exact z_6
          · exact z_7
          · exact z_9
          )
        simp only [List.foldl_cons, List.foldl_nil] at hfr
        rw [← HA.out] at hfr
        have hAc := h'.ac
        have hAt := h'.at'
        have hOw := h'.ow
        have hBw := h'.hB
        rw [hfr]
        clear hfr h' hall HA hsz hA5 hA7 z_0 z_1 z_2 z_3 z_4 z_5 z_6 z_7 z_9
        generalize k_9 = k at *
        generalize t_9 = t at *
        simp [Act.put]
        --CUT2
        have hb := (Below.refl wx.heap.size wx).alloc (Nat.le_refl _) (.cells #[.int .i64 t.kind, .int .i64 t.block, .int .i64 t.fx, .int .i64 t.fy, .int .i64 t.fz, .int .i64 t.tx, .int .i64 t.ty, .int .i64 t.tz, .int .i64 t.plane, .int .i64 t.cx, .int .i64 t.cy, .int .i64 t.cz, .int .i64 t.dir, .bool t.full, .int .i64 t.feed, .bool t.perrev, .int .i64 t.side, .int .i64 t.radius, .int .i64 t.blend, .int .i64 t.n, .int .i64 t.speed, .bool t.on] 27)
        have hc := Chg.of (sb := sb) hb
        have hAcA := hAc.next hb
        have hAtA := hAt.draw hc
        have hItA := hIt.draw hc
        have hn22 := news22 wx t 27
        have ho22 := one_itL t
        go_upto_region 7 with (first | (refine wpList_load_g (by rfl) 27 (.tmp 8) rfl k 0 rfl [.int .i64 t.kind, .int .i64 t.block, .int .i64 t.fx, .int .i64 t.fy, .int .i64 t.fz, .int .i64 t.tx, .int .i64 t.ty, .int .i64 t.tz, .int .i64 t.plane, .int .i64 t.cx, .int .i64 t.cy, .int .i64 t.cz, .int .i64 t.dir, .bool t.full, .int .i64 t.feed, .bool t.perrev, .int .i64 t.side, .int .i64 t.radius, .int .i64 t.blend, .int .i64 t.n, .int .i64 t.speed, .bool t.on] _ hIt.c.rg Try.underlying27 rfl (by kernel_rfl) ?_) | (at_builtin; refine wpList_append_own _ rfl _ _ 44 rfl B 27 i0 (.agg zeroI) 22 176 Try.underlying44 hi' hz0 hz1 hz2 rfl (by decide) _ _ _ rfl (hOw.alloc _) ⟨wx.heap.size, 0, none⟩ 1 1 [.int .i64 t.kind, .int .i64 t.block, .int .i64 t.fx, .int .i64 t.fy, .int .i64 t.fz, .int .i64 t.tx, .int .i64 t.ty, .int .i64 t.tz, .int .i64 t.plane, .int .i64 t.cx, .int .i64 t.cy, .int .i64 t.cz, .int .i64 t.dir, .bool t.full, .int .i64 t.feed, .bool t.perrev, .int .i64 t.side, .int .i64 t.radius, .int .i64 t.blend, .int .i64 t.n, .int .i64 t.speed, .bool t.on] rfl rfl hn22 (by intro u hu; simp at hu; rcases hu with h | h | h | h | h | h | h | h | h | h | h | h | h | h | h | h | h | h | h | h | h | h <;> subst h <;> rfl) (by unfold maxLen; omega) (by omega) (by simp; omega) ?_; intro v' w' hown' hgrow _))
        --CUT7
        have hlt' := hOw.lt
        have hAc := hAcA.grown hgrow (fun q e => by have := hlt' q e; omega) (by have := hb.size; omega)
        have hAt := hAtA.grown hgrow (fun e => by have := hlt' _ e; omega)
        have hIt := hItA.grown hgrow (fun e => hvk _ e rfl)
        obtain ⟨go, cap', rfl, hgo, hgl⟩ := hown'.form (by omega)
        clear hAcA hAtA hItA hb hc hn22 ho22 hOw hlt'
        have y5 : w'.cell? ⟨k, 5, none⟩ = some (.int .i64 t.tx) := hIt.c.rg 5 (.int .i64 t.tx) rfl
        have y6 : w'.cell? ⟨k, 6, none⟩ = some (.int .i64 t.ty) := hIt.c.rg 6 (.int .i64 t.ty) rfl
        have y7 : w'.cell? ⟨k, 7, none⟩ = some (.int .i64 t.tz) := hIt.c.rg 7 (.int .i64 t.tz) rfl
        go_wp2_with (refine wpList_store_mid rfl 25 (.tmp 7) (.tmp 42) rfl a' 0 #[.int .i64 t.tx, .int .i64 t.ty, .int .i64 t.tz] rfl rfl hAt.th (by kernel_rfl) (by simp [Value.oneCell']) ?_)
        --CUT8
        try simp only [Act.put]
        go_roundw
        case rel =>
          have hb' := hBy (10 + 60 * (l.length : Int)) hx hy hz
          refine ⟨l ++ [t], t.tx, t.ty, t.tz, some ⟨go, 0, none⟩, cap', by simp, by simp; omega, fun u hu => ?_, ?_, hAc.far (g := a') (by omega) (by omega) (by omega) [.int .i64 t.tx, .int .i64 t.ty, .int .i64 t.tz] 0, hAt.put t.tx t.ty t.tz, ?_, ?_, ?_, ?_⟩
          · rcases List.mem_append.1 hu with h | h
            · exact hGo' u h
            · simp at h; subst h; exact hGo
          · have hx : (l ++ [t]).flatMap itL = l.flatMap itL ++ [.int .i64 t.kind, .int .i64 t.block, .int .i64 t.fx, .int .i64 t.fy, .int .i64 t.fz, .int .i64 t.tx, .int .i64 t.ty, .int .i64 t.tz, .int .i64 t.plane, .int .i64 t.cx, .int .i64 t.cy, .int .i64 t.cz, .int .i64 t.dir, .bool t.full, .int .i64 t.feed, .bool t.perrev, .int .i64 t.side, .int .i64 t.radius, .int .i64 t.blend, .int .i64 t.n, .int .i64 t.speed, .bool t.on] := by rw [List.flatMap_append]; rfl
            rw [hx, List.length_append]
            exact hown'.kept (grown_sets a' [.int .i64 t.tx, .int .i64 t.ty, .int .i64 t.tz] 0 _) (Or.inr fun e => absurd (show go = a' by simpa [Value.ownBlock] using e) (by omega))
          · simp; omega
          · simp; omega
          · simp; omega
          · rw [size_sets]; exact hAt.c.lt
        case measure => simp [lenV]; omega
  · have hdec : decide ((l.length : Int) < most) = false := decide_eq_false hlt
    go_wp2_with fail
    go_ret
    have hz1 := hb1.size
    exact ⟨l, .slice ao l.length cap, rfl, row_le hOw (by omega), hGo', by omega, hb1.trans ⟨hAc.ch.os, hAc.ch.tape, hAc.ch.output, hAc.ch.size, fun k hk => hAc.ch.block k (by omega) (by omega) (fun e => nomatch e)⟩⟩
end Go.Proofs.Ytkjjoclbjkpdaaa
