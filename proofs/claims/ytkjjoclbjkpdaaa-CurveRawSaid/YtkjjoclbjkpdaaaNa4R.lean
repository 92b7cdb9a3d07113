/- Proved here: the struct that collects spokes, in memory; what becomes of it behind calls, new blocks, stores and appends; no conditions. · piece of the program appends the spokes of a piece; ranges as stated. -/
import Derived.Test.YtkjjoclbjkpdaaaRiR
import Derived.OneCell
import Derived.OwnWalk
import Derived.Deep.AppendLies
import Derived.BigQuiet
namespace Go.Proofs.Ytkjjoclbjkpdaaa
open Go.RowKit
set_option linter.unusedVariables false
set_option linter.unusedSimpArgs false
def spc (s : Spk) : List Value := [.int .i64 s.u, .int .i64 s.w, .int .i64 s.r, .int .i64 s.h]
/-- between two worlds nothing has changed but the struct in block cb, the row of v, and new blocks -/
structure Chg (cb : Nat) (v : Value) (w w' : World) : Prop where
  os : w'.os = w.os
  tape : w'.tape = w.tape
  output : w'.output = w.output
  size : w.heap.size ≤ w'.heap.size
  block : ∀ k, k < w.heap.size → k ≠ cb → v.ownBlock ≠ some k → w'.heap[k]? = w.heap[k]?
theorem Chg.refl (cb : Nat) (v : Value) (w : World) : Chg cb v w w := ⟨rfl, rfl, rfl, Nat.le_refl _, fun _ _ _ _ => rfl⟩
theorem Chg.trans {cb : Nat} {v v1 : Value} {w w1 w2 : World} (h : Chg cb v w w1) (k : Chg cb v1 w1 w2) (hv : v1.ownBlock = v.ownBlock ∨ ∃ g, v1.ownBlock = some g ∧ w.heap.size ≤ g) : Chg cb v w w2 :=
  ⟨k.os.trans h.os, k.tape.trans h.tape, k.output.trans h.output, Nat.le_trans h.size k.size, fun i hi h1 h2 => by
    refine (k.block i (Nat.lt_of_lt_of_le hi h.size) h1 ?_).trans (h.block i hi h1 h2)
    rcases hv with hv | ⟨g, hg, hle⟩
    · rw [hv]; exact h2
    · rw [hg]; intro e; cases e; omega⟩
theorem Chg.next {cb : Nat} {v : Value} {w0 w w' : World} (h : Chg cb v w0 w) (hb : Below w.heap.size w w') : Chg cb v w0 w' :=
  ⟨hb.os.trans h.os, hb.tape.trans h.tape, hb.output.trans h.output, Nat.le_trans h.size hb.size, fun k hk h1 h2 => (hb.block k (Nat.lt_of_lt_of_le hk h.size)).trans (h.block k hk h1 h2)⟩
theorem Chg.far {cb : Nat} {v : Value} {w0 w : World} (h : Chg cb v w0 w) (g o : Nat) (u : Value) (hg : w0.heap.size ≤ g) : Chg cb v w0 (w.setCell ⟨g, o, none⟩ u) :=
  ⟨h.os, h.tape, h.output, by simpa using h.size, fun k hk h1 h2 => (heap_setCell_other w ⟨g, o, none⟩ k u (fun e => by simp at e; omega)).trans (h.block k hk h1 h2)⟩
theorem Chg.own {cb : Nat} {v : Value} {w0 w : World} (h : Chg cb v w0 w) (o : Nat) (u : Value) : Chg cb v w0 (w.setCell ⟨cb, o, none⟩ u) :=
  ⟨h.os, h.tape, h.output, by simpa using h.size, fun k hk h1 h2 => (heap_setCell_other w ⟨cb, o, none⟩ k u (fun e => h1 (by simpa using e))).trans (h.block k hk h1 h2)⟩
theorem Chg.grown {cb : Nat} {v : Value} {w0 w w' : World} (h : Chg cb v w0 w) (hg : w.grownBy w' v.ownBlock) : Chg cb v w0 w' :=
  ⟨hg.os.trans h.os, hg.tape.trans h.tape, hg.output.trans h.output, Nat.le_trans h.size hg.size, fun k hk h1 h2 => (hg.block k (Nat.lt_of_lt_of_le hk h.size) (fun e => h2 e.symm)).trans (h.block k hk h1 h2)⟩
/-- cells of other blocks stay -/
theorem Lf.chg {B n cb : Nat} {v : Value} {cs : List (Addr × Value)} {w0 w w' : World} (h : Lf B n cs w0 w) (c : Chg cb v w w') (hc : ∀ p ∈ cs, p.1.block ≠ cb) (hv : ∀ p ∈ cs, v.ownBlock ≠ some p.1.block) (hB : B ≤ cb) (hvB : ∀ k, v.ownBlock = some k → B ≤ k) : Lf B n cs w0 w' := by
  have hb : ∀ p ∈ cs, w'.heap[p.1.block]? = w.heap[p.1.block]? := fun p hp => c.block _ (Nat.lt_of_lt_of_le (h.inn p hp) h.lt) (hc p hp) (hv p hp)
  refine ⟨fun p hp => (World.cell?_of_block (hb p hp)).trans (h.cells p hp), fun p hp => (World.frozen?_of_block (hb p hp)).trans (h.frz p hp), h.inn, Nat.le_trans h.lt c.size, ?_, h.le⟩
  exact h.be.trans ⟨c.os, c.tape, c.output, c.size, fun k hk => c.block k (Nat.lt_of_lt_of_le hk (Nat.le_trans h.le h.lt)) (by omega) (fun e => by have := hvB k e; omega)⟩
/-- the struct: direction and row -/
structure Cu (cb : Nat) (dir : Int) (B : Nat) (v : Value) (n : Nat) (xs : List Value) (w : World) : Prop where
  own : w.ownsRow B 34 4 v n xs
  dc : w.cell? ⟨cb, 0, none⟩ = some (.int .i64 dir)
  df : w.frozen? ⟨cb, 0, none⟩ = false
  oc : w.cell? ⟨cb, 1, none⟩ = some v
  fo : w.frozen? ⟨cb, 1, none⟩ = false
  ne : v.ownBlock ≠ some cb
  hb : B ≤ cb
  lt : cb < w.heap.size
theorem Cu.next {cb B n : Nat} {dir : Int} {v : Value} {xs : List Value} {w w' : World} (h : Cu cb dir B v n xs w) (hb : Below w.heap.size w w') : Cu cb dir B v n xs w' :=
  ⟨h.own.kept (row := none) ⟨hb.os, hb.tape, hb.output, hb.size, fun k hk _ => hb.block k hk⟩ (by cases v.ownBlock <;> simp), (hb.cell (p := ⟨cb, 0, none⟩) h.lt).trans h.dc, (hb.frozen (p := ⟨cb, 0, none⟩) h.lt).trans h.df,
    (hb.cell (p := ⟨cb, 1, none⟩) h.lt).trans h.oc, (hb.frozen (p := ⟨cb, 1, none⟩) h.lt).trans h.fo, h.ne, h.hb, Nat.lt_of_lt_of_le h.lt hb.size⟩
theorem cell_far {w : World} {g k o j : Nat} {u x : Value} (h : w.cell? ⟨k, j, none⟩ = some x) (hne : g ≠ k) : (w.setCell ⟨g, o, none⟩ u).cell? ⟨k, j, none⟩ = some x :=
  (World.cell?_setCell_other w ⟨g, o, none⟩ ⟨k, j, none⟩ u (fun e => hne (congrArg Addr.block e))).trans h
theorem Cu.far {cb B n : Nat} {dir : Int} {v : Value} {xs : List Value} {w : World} (h : Cu cb dir B v n xs w) (g o : Nat) (u : Value) (h1 : g ≠ cb) (h2 : v.ownBlock ≠ some g) : Cu cb dir B v n xs (w.setCell ⟨g, o, none⟩ u) :=
  ⟨ownsRow_setCell_other h.own h2 u, cell_far h.dc h1, by simpa [go_sem] using h.df, cell_far h.oc h1, by simpa [go_sem] using h.fo, h.ne, h.hb, by simpa using h.lt⟩
theorem Cu.ownLt {cb B n : Nat} {dir : Int} {v : Value} {xs : List Value} {w : World} (h : Cu cb dir B v n xs w) : ∀ k, v.ownBlock = some k → B ≤ k ∧ k < w.heap.size := h.own.lt
theorem Row.fresh4 (w : World) (v0 v1 v2 v3 : Value) (T : TypeId) (G : Nat → Value) : Row w.heap.size 4 0 G (w.alloc (.cells #[v0, v1, v2, v3] T)) := by
  have k : ∀ j, j < 4 → j = 0 ∨ j = 1 ∨ j = 2 ∨ j = 3 := by omega
  refine ⟨fun j hj => absurd hj (by omega), fun j hj => ?_, fun j hj => ?_, by simp⟩ <;> rcases k j hj with rfl | rfl | rfl | rfl <;> simp [go_sem]
def cq (x0 x1 x2 x3 : Int) (k : Nat) : Int := if k = 0 then x0 else if k = 1 then x1 else if k = 2 then x2 else x3
theorem infoSp : (Try.prog.info? 34).map (fun i => (i.zero, i.size, i.bytes)) = some (some (.agg #[.int .i64 0, .int .i64 0, .int .i64 0, .int .i64 0]), 4, 32) := by kernel_rfl
/-- what a piece leaves -/
def PieceP (cb : Nat) (dir : Int) (B : Nat) (v : Value) (n : Nat) (xs : List Value) (l : List Spk) (w : World) (e : Ending) (w' : World) : Prop :=
  e = .returned (.tuple #[]) ∧ ∃ v', Cu cb dir B v' (n + l.length) (xs ++ l.flatMap spc) w' ∧ Chg cb v w w' ∧ (v'.ownBlock = v.ownBlock ∨ ∃ g, v'.ownBlock = some g ∧ w.heap.size ≤ g)
end Go.Proofs.Ytkjjoclbjkpdaaa
namespace Go.Proofs.Ytkjjoclbjkpdaaa
open Go.RowKit
set_option linter.unusedVariables false
set_option linter.unusedSimpArgs false
/-- c.out = append(c.out, b), by what has been carried out -/
structure ApI (cb : Nat) (dir : Int) (B : Nat) (v : Value) (n : Nat) (xs : List Value) (aU aW aR aH bU bW bR bH : Int) (w0 : World) (A : Act) (h g cap : Nat) (L : Nat → Bool) (a : Act) (w : World) : Prop where
  off : OffOf [46, 47, 48, 49, 50, 51, 52, 53, 54, 55] A a
  k0 : L 0 = true → a.tmps[46]? = some (.pointer (some ⟨cb, 0, none⟩))
  k1 : L 1 = true → a.tmps[47]? = some (.pointer (some ⟨cb, 0, none⟩))
  k2 : L 2 = true → a.tmps[48]? = some (.pointer (some ⟨cb, 0, none⟩))
  k3 : L 3 = true → a.tmps[49]? = some (.pointer (some ⟨cb, 1, none⟩))
  k4 : L 4 = true → a.tmps[50]? = some (v)
  k5 : L 5 = true → a.tmps[51]? = some (.agg #[.int .i64 bU, .int .i64 bW, .int .i64 bR, .int .i64 bH])
  k6 : L 6 = true → a.tmps[52]? = some (.slice (some ⟨h, 0, none⟩) 1 1)
  k7 : L 7 = true → a.tmps[53]? = some (.slice (some ⟨g, 0, none⟩) (n + 1) cap)
  k8 : L 8 = true → a.tmps[54]? = some (.pointer (some ⟨cb, 0, none⟩))
  k9 : L 9 = true → a.tmps[55]? = some (.pointer (some ⟨cb, 1, none⟩))
  d76 : L 7 = true → L 6 = true
  d74 : L 7 = true → L 4 = true
  dA7 : L 10 = true → L 7 = true
  chg : Chg cb v w0 w
  bx : Lf 0 (w0.heap.size + 1 + 1) [(⟨w0.heap.size, 0, none⟩, .int .i64 aU), (⟨w0.heap.size, 1, none⟩, .int .i64 aW), (⟨w0.heap.size, 2, none⟩, .int .i64 aR), (⟨w0.heap.size, 3, none⟩, .int .i64 aH), (⟨w0.heap.size + 1, 0, none⟩, .int .i64 bU), (⟨w0.heap.size + 1, 1, none⟩, .int .i64 bW), (⟨w0.heap.size + 1, 2, none⟩, .int .i64 bR), (⟨w0.heap.size + 1, 3, none⟩, .int .i64 bH)] w0 w
  cu : L 7 = false → Cu cb dir B v n xs w
  nw : L 6 = true → L 7 = false → (∀ j u, (spc (⟨bU, bW, bR, bH⟩ : Spk))[j]? = some u → w.cell? ((⟨h, 0, none⟩ : Addr).add j) = some u) ∧ w0.heap.size ≤ h ∧ h < w.heap.size
  mid : L 7 = true → w.ownsRow B 34 4 (.slice (some ⟨g, 0, none⟩) (n + 1) cap) (n + 1) (xs ++ spc (⟨bU, bW, bR, bH⟩ : Spk)) ∧ (v.ownBlock = some g ∨ w0.heap.size ≤ g) ∧ g ≠ cb ∧ w.cell? ⟨cb, 0, none⟩ = some (.int .i64 dir) ∧ w.frozen? ⟨cb, 0, none⟩ = false ∧ (∃ u, w.cell? ⟨cb, 1, none⟩ = some u) ∧ w.frozen? ⟨cb, 1, none⟩ = false ∧ B ≤ cb ∧ cb < w.heap.size
  fin : L 10 = true → w.cell? ⟨cb, 1, none⟩ = some (.slice (some ⟨g, 0, none⟩) (n + 1) cap)
theorem news4 (w : World) (x0 x1 x2 x3 : Int) (T : TypeId) : ∀ j u, (spc (⟨x0, x1, x2, x3⟩ : Spk))[j]? = some u → (w.alloc (.cells #[.int .i64 x0, .int .i64 x1, .int .i64 x2, .int .i64 x3] T)).cell? ((⟨w.heap.size, 0, none⟩ : Addr).add j) = some u := by
  intro j u hj
  match j, hj with
  | 0, hj => simp [spc] at hj; subst hj; simp [Addr.add, go_sem]
  | 1, hj => simp [spc] at hj; subst hj; simp [Addr.add, go_sem]
  | 2, hj => simp [spc] at hj; subst hj; simp [Addr.add, go_sem]
  | 3, hj => simp [spc] at hj; subst hj; simp [Addr.add, go_sem]
  | j + 4, hj => simp [spc] at hj
set_option maxHeartbeats 16000000 in
set_option maxRecDepth 20000 in
theorem pieceP_zero (cb : Nat) (dir : Int) (B : Nat) (v : Value) (n : Nat) (xs : List Value) (aU aW aR aH bU bW bR bH : Int) (full : Bool) (w : World) (hn : n ≤ 1000000) (hC : Cu cb dir B v n xs w) :
    Calls Try.prog 34 #[.pointer (some ⟨cb, 0, none⟩), .agg #[.int .i64 aU, .int .i64 aW, .int .i64 aR, .int .i64 aH], .agg #[.int .i64 bU, .int .i64 bW, .int .i64 bR, .int .i64 bH], .bool full, .int .i64 16] w (PieceP cb dir B v n xs [(⟨bU, bW, bR, bH⟩ : Spk)] w) := by
  have hbs := hC.ownLt
  have hcl := hC.lt
  have hK : Chg cb v w ((w.alloc (.cells #[.int .i64 aU, .int .i64 aW, .int .i64 aR, .int .i64 aH] 34)).alloc (.cells #[.int .i64 bU, .int .i64 bW, .int .i64 bR, .int .i64 bH] 34)) := ((Chg.refl cb v w).next ((Below.refl _ _).alloc (Nat.le_refl _) _)).next ((Below.refl _ _).alloc (Nat.le_refl _) _)
  have hC2 := (hC.next ((Below.refl _ _).alloc (Nat.le_refl _) (.cells #[.int .i64 aU, .int .i64 aW, .int .i64 aR, .int .i64 aH] 34))).next ((Below.refl _ _).alloc (Nat.le_refl _) (.cells #[.int .i64 bU, .int .i64 bW, .int .i64 bR, .int .i64 bH] 34))
  have hT : Lf 0 (w.heap.size + 1 + 1) [(⟨w.heap.size, 0, none⟩, .int .i64 aU), (⟨w.heap.size, 1, none⟩, .int .i64 aW), (⟨w.heap.size, 2, none⟩, .int .i64 aR), (⟨w.heap.size, 3, none⟩, .int .i64 aH), (⟨w.heap.size + 1, 0, none⟩, .int .i64 bU), (⟨w.heap.size + 1, 1, none⟩, .int .i64 bW), (⟨w.heap.size + 1, 2, none⟩, .int .i64 bR), (⟨w.heap.size + 1, 3, none⟩, .int .i64 bH)] w ((w.alloc (.cells #[.int .i64 aU, .int .i64 aW, .int .i64 aR, .int .i64 aH] 34)).alloc (.cells #[.int .i64 bU, .int .i64 bW, .int .i64 bR, .int .i64 bH] 34)) := ⟨by simp [List.forall_mem_cons, go_sem], by simp [List.forall_mem_cons, go_sem], by simp [List.forall_mem_cons] <;> omega, by simp, by (repeat (first | exact Below.refl _ _ | refine Below.alloc ?_ (by simp <;> omega) _)), by omega⟩
  clear hC
  obtain ⟨i0, hi, hz0, hz1, hz2⟩ := info_parts infoSp
  go_enter Try.func34, Try.ntmps34
  go_upto_region 6 with fail
  refine wp_cls (fun wr => Cu cb dir B v n xs wr ∧ Chg cb v w wr ∧ Lf 0 (w.heap.size + 1 + 1) [(⟨w.heap.size, 0, none⟩, .int .i64 aU), (⟨w.heap.size, 1, none⟩, .int .i64 aW), (⟨w.heap.size, 2, none⟩, .int .i64 aR), (⟨w.heap.size, 3, none⟩, .int .i64 aH), (⟨w.heap.size + 1, 0, none⟩, .int .i64 bU), (⟨w.heap.size + 1, 1, none⟩, .int .i64 bW), (⟨w.heap.size + 1, 2, none⟩, .int .i64 bR), (⟨w.heap.size + 1, 3, none⟩, .int .i64 bH)] w wr) ⟨hC2, hK, hT⟩ ?_
  clear hC2 hK hT
  rintro wr ⟨hC, hK, hT⟩
  generalize hA : (Act.mk _ _) = A
  have hsz : A.tmps.size = 56 := by rw [← hA]; rfl
  have hA0 : A.tmps[0]? = some (.pointer (some ⟨cb, 0, none⟩)) := by rw [← hA]; rfl
  have hA7 : A.tmps[7]? = some (.pointer (some ⟨w.heap.size + 1, 0, none⟩)) := by rw [← hA]; rfl
  have HA := Lib.hid hA
  clear hA
  refine wp_region_inv (fun L a wx => ∃ h g cap, ApI cb dir B v n xs aU aW aR aH bU bW bR bH w A h g cap L a wx) (by kernel_rfl) (by kernel_rfl) ?_ ?_ ?_
  · have hD := (Below.refl wr.heap.size wr).drew
    exact ⟨0, 0, 0, by constructor <;> first | exact OffOf.refl _ _ | exact hK.next hD | exact hT.next hD | (intro _; exact hC.next hD) | (intro h; exact nomatch h) | (intro h h'; exact nomatch h)⟩
  · intro i o ho L a wx hI hLi hdeps K hK'
    obtain ⟨h, g, cap, h'⟩ := hI
    match i, ho, hLi, hK' with
    | 0, ho, hLi, hK' =>
      cases ho
      have ea := (h'.off.off 0 (by decide)).trans hA0
      go_simp
      exact hK' _ _ ⟨h, g, cap, { off := h'.off.put (by decide) _, k0 := fun _ => put_at _ (by have := h'.off.size; omega), k1 := fun q => put_ne _ (by decide) (h'.k1 (by simpa using q)), k2 := fun q => put_ne _ (by decide) (h'.k2 (by simpa using q)), k3 := fun q => put_ne _ (by decide) (h'.k3 (by simpa using q)), k4 := fun q => put_ne _ (by decide) (h'.k4 (by simpa using q)), k5 := fun q => put_ne _ (by decide) (h'.k5 (by simpa using q)), k6 := fun q => put_ne _ (by decide) (h'.k6 (by simpa using q)), k7 := fun q => put_ne _ (by decide) (h'.k7 (by simpa using q)), k8 := fun q => put_ne _ (by decide) (h'.k8 (by simpa using q)), k9 := fun q => put_ne _ (by decide) (h'.k9 (by simpa using q)), d76 := fun q => by simpa using h'.d76 (by simpa using q), d74 := fun q => by simpa using h'.d74 (by simpa using q), dA7 := fun q => by simpa using h'.dA7 (by simpa using q), chg := h'.chg, bx := h'.bx, cu := fun q => h'.cu (by simpa using q), nw := fun q r => h'.nw (by simpa using q) (by simpa using r), mid := fun q => h'.mid (by simpa using q), fin := fun q => h'.fin (by simpa using q) }⟩
    | 1, ho, hLi, hK' =>
      cases ho
      have ea := (h'.off.off 0 (by decide)).trans hA0
      go_simp
      exact hK' _ _ ⟨h, g, cap, { off := h'.off.put (by decide) _, k0 := fun q => put_ne _ (by decide) (h'.k0 (by simpa using q)), k1 := fun _ => put_at _ (by have := h'.off.size; omega), k2 := fun q => put_ne _ (by decide) (h'.k2 (by simpa using q)), k3 := fun q => put_ne _ (by decide) (h'.k3 (by simpa using q)), k4 := fun q => put_ne _ (by decide) (h'.k4 (by simpa using q)), k5 := fun q => put_ne _ (by decide) (h'.k5 (by simpa using q)), k6 := fun q => put_ne _ (by decide) (h'.k6 (by simpa using q)), k7 := fun q => put_ne _ (by decide) (h'.k7 (by simpa using q)), k8 := fun q => put_ne _ (by decide) (h'.k8 (by simpa using q)), k9 := fun q => put_ne _ (by decide) (h'.k9 (by simpa using q)), d76 := fun q => by simpa using h'.d76 (by simpa using q), d74 := fun q => by simpa using h'.d74 (by simpa using q), dA7 := fun q => by simpa using h'.dA7 (by simpa using q), chg := h'.chg, bx := h'.bx, cu := fun q => h'.cu (by simpa using q), nw := fun q r => h'.nw (by simpa using q) (by simpa using r), mid := fun q => h'.mid (by simpa using q), fin := fun q => h'.fin (by simpa using q) }⟩
    | 2, ho, hLi, hK' =>
      cases ho
      have ea := h'.k1 (hdeps ⟨1, .data⟩ (by simp) (by rfl))
      go_simp
      exact hK' _ _ ⟨h, g, cap, { off := h'.off.put (by decide) _, k0 := fun q => put_ne _ (by decide) (h'.k0 (by simpa using q)), k1 := fun q => put_ne _ (by decide) (h'.k1 (by simpa using q)), k2 := fun _ => put_at _ (by have := h'.off.size; omega), k3 := fun q => put_ne _ (by decide) (h'.k3 (by simpa using q)), k4 := fun q => put_ne _ (by decide) (h'.k4 (by simpa using q)), k5 := fun q => put_ne _ (by decide) (h'.k5 (by simpa using q)), k6 := fun q => put_ne _ (by decide) (h'.k6 (by simpa using q)), k7 := fun q => put_ne _ (by decide) (h'.k7 (by simpa using q)), k8 := fun q => put_ne _ (by decide) (h'.k8 (by simpa using q)), k9 := fun q => put_ne _ (by decide) (h'.k9 (by simpa using q)), d76 := fun q => by simpa using h'.d76 (by simpa using q), d74 := fun q => by simpa using h'.d74 (by simpa using q), dA7 := fun q => by simpa using h'.dA7 (by simpa using q), chg := h'.chg, bx := h'.bx, cu := fun q => h'.cu (by simpa using q), nw := fun q r => h'.nw (by simpa using q) (by simpa using r), mid := fun q => h'.mid (by simpa using q), fin := fun q => h'.fin (by simpa using q) }⟩
    | 3, ho, hLi, hK' =>
      cases ho
      have ea := h'.k2 (hdeps ⟨2, .data⟩ (by simp) (by rfl))
      go_simp
      exact hK' _ _ ⟨h, g, cap, { off := h'.off.put (by decide) _, k0 := fun q => put_ne _ (by decide) (h'.k0 (by simpa using q)), k1 := fun q => put_ne _ (by decide) (h'.k1 (by simpa using q)), k2 := fun q => put_ne _ (by decide) (h'.k2 (by simpa using q)), k3 := fun _ => put_at _ (by have := h'.off.size; omega), k4 := fun q => put_ne _ (by decide) (h'.k4 (by simpa using q)), k5 := fun q => put_ne _ (by decide) (h'.k5 (by simpa using q)), k6 := fun q => put_ne _ (by decide) (h'.k6 (by simpa using q)), k7 := fun q => put_ne _ (by decide) (h'.k7 (by simpa using q)), k8 := fun q => put_ne _ (by decide) (h'.k8 (by simpa using q)), k9 := fun q => put_ne _ (by decide) (h'.k9 (by simpa using q)), d76 := fun q => by simpa using h'.d76 (by simpa using q), d74 := fun q => by simpa using h'.d74 (by simpa using q), dA7 := fun q => by simpa using h'.dA7 (by simpa using q), chg := h'.chg, bx := h'.bx, cu := fun q => h'.cu (by simpa using q), nw := fun q r => h'.nw (by simpa using q) (by simpa using r), mid := fun q => h'.mid (by simpa using q), fin := fun q => h'.fin (by simpa using q) }⟩
    | 4, ho, hLi, hK' =>
      cases ho
      have ea := h'.k3 (hdeps ⟨3, .data⟩ (by simp) (by rfl))
      have hc7 : L 7 = false := by cases hb : L 7; rfl; exact absurd (h'.d74 hb) (by simp [hLi])
      have eo := (h'.cu hc7).oc
      go_simp
      exact hK' _ _ ⟨h, g, cap, { off := h'.off.put (by decide) _, k0 := fun q => put_ne _ (by decide) (h'.k0 (by simpa using q)), k1 := fun q => put_ne _ (by decide) (h'.k1 (by simpa using q)), k2 := fun q => put_ne _ (by decide) (h'.k2 (by simpa using q)), k3 := fun q => put_ne _ (by decide) (h'.k3 (by simpa using q)), k4 := fun _ => put_at _ (by have := h'.off.size; omega), k5 := fun q => put_ne _ (by decide) (h'.k5 (by simpa using q)), k6 := fun q => put_ne _ (by decide) (h'.k6 (by simpa using q)), k7 := fun q => put_ne _ (by decide) (h'.k7 (by simpa using q)), k8 := fun q => put_ne _ (by decide) (h'.k8 (by simpa using q)), k9 := fun q => put_ne _ (by decide) (h'.k9 (by simpa using q)), d76 := fun q => by simpa using h'.d76 (by simpa using q), d74 := fun _ => by simp, dA7 := fun q => by simpa using h'.dA7 (by simpa using q), chg := h'.chg, bx := h'.bx, cu := fun q => h'.cu (by simpa using q), nw := fun q r => h'.nw (by simpa using q) (by simpa using r), mid := fun q => h'.mid (by simpa using q), fin := fun q => h'.fin (by simpa using q) }⟩
    | 5, ho, hLi, hK' =>
      cases ho
      have ea := (h'.off.off 7 (by decide)).trans hA7
      have kc := h'.bx.cells
      simp only [List.forall_mem_cons, List.not_mem_nil, false_implies, implies_true, and_true] at kc
      obtain ⟨yc0, yc1, yc2, yc3, yc4, yc5, yc6, yc7⟩ := kc
      go_simp
      exact hK' _ _ ⟨h, g, cap, { off := h'.off.put (by decide) _, k0 := fun q => put_ne _ (by decide) (h'.k0 (by simpa using q)), k1 := fun q => put_ne _ (by decide) (h'.k1 (by simpa using q)), k2 := fun q => put_ne _ (by decide) (h'.k2 (by simpa using q)), k3 := fun q => put_ne _ (by decide) (h'.k3 (by simpa using q)), k4 := fun q => put_ne _ (by decide) (h'.k4 (by simpa using q)), k5 := fun _ => put_at _ (by have := h'.off.size; omega), k6 := fun q => put_ne _ (by decide) (h'.k6 (by simpa using q)), k7 := fun q => put_ne _ (by decide) (h'.k7 (by simpa using q)), k8 := fun q => put_ne _ (by decide) (h'.k8 (by simpa using q)), k9 := fun q => put_ne _ (by decide) (h'.k9 (by simpa using q)), d76 := fun q => by simpa using h'.d76 (by simpa using q), d74 := fun q => by simpa using h'.d74 (by simpa using q), dA7 := fun q => by simpa using h'.dA7 (by simpa using q), chg := h'.chg, bx := h'.bx, cu := fun q => h'.cu (by simpa using q), nw := fun q r => h'.nw (by simpa using q) (by simpa using r), mid := fun q => h'.mid (by simpa using q), fin := fun q => h'.fin (by simpa using q) }⟩
    | 6, ho, hLi, hK' =>
      cases ho
      have hc7 : L 7 = false := by cases hb : L 7; rfl; exact absurd (h'.d76 hb) (by simp [hLi])
      have ea := h'.k5 (hdeps ⟨5, .data⟩ (by simp) (by rfl))
      go_simp
      exact hK' _ _ ⟨wx.heap.size, g, cap, { off := h'.off.put (by decide) _, k0 := fun q => put_ne _ (by decide) (h'.k0 (by simpa using q)), k1 := fun q => put_ne _ (by decide) (h'.k1 (by simpa using q)), k2 := fun q => put_ne _ (by decide) (h'.k2 (by simpa using q)), k3 := fun q => put_ne _ (by decide) (h'.k3 (by simpa using q)), k4 := fun q => put_ne _ (by decide) (h'.k4 (by simpa using q)), k5 := fun q => put_ne _ (by decide) (h'.k5 (by simpa using q)), k6 := fun _ => put_at _ (by have := h'.off.size; omega), k7 := fun q => put_ne _ (by decide) (h'.k7 (by simpa using q)), k8 := fun q => put_ne _ (by decide) (h'.k8 (by simpa using q)), k9 := fun q => put_ne _ (by decide) (h'.k9 (by simpa using q)), d76 := fun q => by simp, d74 := fun q => by simpa using h'.d74 (by simpa using q), dA7 := fun q => by simpa using h'.dA7 (by simpa using q), chg := h'.chg.next ((Below.refl _ _).alloc (Nat.le_refl _) _), bx := h'.bx.next ((Below.refl _ _).alloc (Nat.le_refl _) _), cu := fun q => (h'.cu (by simpa using q)).next ((Below.refl _ _).alloc (Nat.le_refl _) _), nw := fun _ _ => ⟨news4 _ _ _ _ _ _, h'.chg.size, by simp⟩, mid := fun q => absurd (show L 7 = true by simpa using q) (by simp [hc7]), fin := fun q => absurd (h'.dA7 (by simpa using q)) (by simp [hc7]) }⟩
    | 7, ho, hLi, hK' =>
      cases ho
      have h6 := hdeps ⟨6, .data⟩ (by simp) (by rfl)
      have ea := eval_of (h'.k4 (hdeps ⟨4, .data⟩ (by simp) (by rfl)))
      have eb := eval_of (h'.k6 h6)
      have hcu := h'.cu hLi
      obtain ⟨hnew, hh0, hh1⟩ := h'.nw h6 hLi
      refine wp_append_lies wx (.tmp 50) (.tmp 52) 30 rfl B 34 i0 (.agg #[.int .i64 0, .int .i64 0, .int .i64 0, .int .i64 0]) 4 32 Try.underlying30 hi hz0 hz1 hz2 rfl (by decide) v n xs ea hcu.own ⟨h, 0, none⟩ 1 1 (spc (⟨bU, bW, bR, bH⟩ : Spk)) eb rfl hnew (by intro u hu; simp [spc] at hu; rcases hu with rfl | rfl | rfl | rfl <;> rfl) (by decide) (by unfold maxLen; omega) (by omega) (Nat.le_of_lt (Nat.lt_of_le_of_lt hcu.hb hcu.lt)) wx.heap.size rfl ?_
      intro g' cap' w' hown hgrow hat hlt
      have hgcb : g' ≠ cb := by
        rintro rfl
        rcases hat with e | e
        · exact hcu.ne e
        · have := hcu.lt; omega
      have hbc : w'.heap[cb]? = wx.heap[cb]? := hgrow.block cb hcu.lt (fun e => hcu.ne e.symm)
      have cc : ∀ {j : Nat} (x : Value), wx.cell? ⟨cb, j, none⟩ = some x → w'.cell? ⟨cb, j, none⟩ = some x := fun x e => (World.cell?_of_block (a := ⟨cb, _, none⟩) hbc).trans e
      have cf : ∀ {j : Nat} (x : Bool), wx.frozen? ⟨cb, j, none⟩ = x → w'.frozen? ⟨cb, j, none⟩ = x := fun x e => (World.frozen?_of_block (a := ⟨cb, _, none⟩) hbc).trans e
      exact hK' _ _ ⟨h, g', cap', { off := h'.off.put (by decide) _, k0 := fun q => put_ne _ (by decide) (h'.k0 (by simpa using q)), k1 := fun q => put_ne _ (by decide) (h'.k1 (by simpa using q)), k2 := fun q => put_ne _ (by decide) (h'.k2 (by simpa using q)), k3 := fun q => put_ne _ (by decide) (h'.k3 (by simpa using q)), k4 := fun q => put_ne _ (by decide) (h'.k4 (by simpa using q)), k5 := fun q => put_ne _ (by decide) (h'.k5 (by simpa using q)), k6 := fun q => put_ne _ (by decide) (h'.k6 (by simpa using q)), k7 := fun _ => put_at _ (by have := h'.off.size; omega), k8 := fun q => put_ne _ (by decide) (h'.k8 (by simpa using q)), k9 := fun q => put_ne _ (by decide) (h'.k9 (by simpa using q)), d76 := fun _ => by simpa using h6, d74 := fun _ => by simpa using hdeps ⟨4, .data⟩ (by simp) (by rfl), dA7 := fun _ => by simp, chg := h'.chg.grown hgrow, bx := h'.bx.chg ((Chg.refl cb v wx).grown hgrow) (by intro q hq; simp only [List.mem_cons, List.not_mem_nil, or_false] at hq; rcases hq with rfl | rfl | rfl | rfl | rfl | rfl | rfl | rfl <;> (simp <;> omega)) (by intro q hq; simp only [List.mem_cons, List.not_mem_nil, or_false] at hq; rcases hq with rfl | rfl | rfl | rfl | rfl | rfl | rfl | rfl <;> (intro e; have := hbs _ e; simp at this <;> omega)) (Nat.zero_le _) (fun _ _ => Nat.zero_le _), cu := fun q => by simp at q, nw := fun _ q => by simp at q, mid := fun _ => ⟨hown, hat.imp_right (fun e => by rw [e]; exact h'.chg.size), hgcb, cc _ hcu.dc, cf _ hcu.df, ⟨_, cc _ hcu.oc⟩, cf _ hcu.fo, hcu.hb, Nat.lt_of_lt_of_le hcu.lt hgrow.size⟩, fin := fun q => absurd (h'.dA7 (by simpa using q)) (by simp [hLi]) }⟩
    | 8, ho, hLi, hK' =>
      cases ho
      have ea := h'.k0 (hdeps ⟨0, .data⟩ (by simp) (by rfl))
      go_simp
      exact hK' _ _ ⟨h, g, cap, { off := h'.off.put (by decide) _, k0 := fun q => put_ne _ (by decide) (h'.k0 (by simpa using q)), k1 := fun q => put_ne _ (by decide) (h'.k1 (by simpa using q)), k2 := fun q => put_ne _ (by decide) (h'.k2 (by simpa using q)), k3 := fun q => put_ne _ (by decide) (h'.k3 (by simpa using q)), k4 := fun q => put_ne _ (by decide) (h'.k4 (by simpa using q)), k5 := fun q => put_ne _ (by decide) (h'.k5 (by simpa using q)), k6 := fun q => put_ne _ (by decide) (h'.k6 (by simpa using q)), k7 := fun q => put_ne _ (by decide) (h'.k7 (by simpa using q)), k8 := fun _ => put_at _ (by have := h'.off.size; omega), k9 := fun q => put_ne _ (by decide) (h'.k9 (by simpa using q)), d76 := fun q => by simpa using h'.d76 (by simpa using q), d74 := fun q => by simpa using h'.d74 (by simpa using q), dA7 := fun q => by simpa using h'.dA7 (by simpa using q), chg := h'.chg, bx := h'.bx, cu := fun q => h'.cu (by simpa using q), nw := fun q r => h'.nw (by simpa using q) (by simpa using r), mid := fun q => h'.mid (by simpa using q), fin := fun q => h'.fin (by simpa using q) }⟩
    | 9, ho, hLi, hK' =>
      cases ho
      have ea := h'.k8 (hdeps ⟨8, .data⟩ (by simp) (by rfl))
      go_simp
      exact hK' _ _ ⟨h, g, cap, { off := h'.off.put (by decide) _, k0 := fun q => put_ne _ (by decide) (h'.k0 (by simpa using q)), k1 := fun q => put_ne _ (by decide) (h'.k1 (by simpa using q)), k2 := fun q => put_ne _ (by decide) (h'.k2 (by simpa using q)), k3 := fun q => put_ne _ (by decide) (h'.k3 (by simpa using q)), k4 := fun q => put_ne _ (by decide) (h'.k4 (by simpa using q)), k5 := fun q => put_ne _ (by decide) (h'.k5 (by simpa using q)), k6 := fun q => put_ne _ (by decide) (h'.k6 (by simpa using q)), k7 := fun q => put_ne _ (by decide) (h'.k7 (by simpa using q)), k8 := fun q => put_ne _ (by decide) (h'.k8 (by simpa using q)), k9 := fun _ => put_at _ (by have := h'.off.size; omega), d76 := fun q => by simpa using h'.d76 (by simpa using q), d74 := fun q => by simpa using h'.d74 (by simpa using q), dA7 := fun q => by simpa using h'.dA7 (by simpa using q), chg := h'.chg, bx := h'.bx, cu := fun q => h'.cu (by simpa using q), nw := fun q r => h'.nw (by simpa using q) (by simpa using r), mid := fun q => h'.mid (by simpa using q), fin := fun q => h'.fin (by simpa using q) }⟩
    | 10, ho, hLi, hK' =>
      cases ho
      have h7 := hdeps ⟨7, .data⟩ (by simp) (by rfl)
      have ea := h'.k9 (hdeps ⟨9, .data⟩ (by simp) (by rfl))
      have eb := h'.k7 h7
      obtain ⟨m1, m2, m3, m4, m5, ⟨u, m6⟩, m7, m8, m9⟩ := h'.mid h7
      go_simp
      exact hK' _ _ ⟨h, g, cap, { off := h'.off, k0 := fun q => h'.k0 (by simpa using q), k1 := fun q => h'.k1 (by simpa using q), k2 := fun q => h'.k2 (by simpa using q), k3 := fun q => h'.k3 (by simpa using q), k4 := fun q => h'.k4 (by simpa using q), k5 := fun q => h'.k5 (by simpa using q), k6 := fun q => h'.k6 (by simpa using q), k7 := fun q => h'.k7 (by simpa using q), k8 := fun q => h'.k8 (by simpa using q), k9 := fun q => h'.k9 (by simpa using q), d76 := fun q => by simpa using h'.d76 (by simpa using q), d74 := fun q => by simpa using h'.d74 (by simpa using q), dA7 := fun _ => by simpa using h7, chg := h'.chg.own 1 _, bx := h'.bx.chg ((Chg.refl cb v wx).own 1 _) (by intro q hq; simp only [List.mem_cons, List.not_mem_nil, or_false] at hq; rcases hq with rfl | rfl | rfl | rfl | rfl | rfl | rfl | rfl <;> (simp <;> omega)) (by intro q hq; simp only [List.mem_cons, List.not_mem_nil, or_false] at hq; rcases hq with rfl | rfl | rfl | rfl | rfl | rfl | rfl | rfl <;> (intro e; have := hbs _ e; simp at this <;> omega)) (Nat.zero_le _) (fun _ _ => Nat.zero_le _), cu := fun q => absurd (show L 7 = false by simpa using q) (by simp [h7]), nw := fun _ q => absurd (show L 7 = false by simpa using q) (by simp [h7]), mid := fun _ => ⟨ownsRow_setCell_other m1 (fun e => m3 (by simpa [Value.ownBlock] using e)) _, m2, m3, (World.cell?_setCell_other wx ⟨cb, 1, none⟩ ⟨cb, 0, none⟩ _ (by simp)).trans m4, by simpa [go_sem] using m5, ⟨_, World.cell?_setCell_same _ _ _ m6⟩, by simpa [go_sem] using m7, m8, by simpa using m9⟩, fin := fun _ => World.cell?_setCell_same _ _ _ m6 }⟩
    | i + 11, ho, hLi, hK' => cases ho
  · intro L a wx hI hall
    obtain ⟨h, g, cap, h'⟩ := hI
    have hfr := h'.off.rebuild (fun d => if d = 46 then .pointer (some ⟨cb, 0, none⟩) else if d = 47 then .pointer (some ⟨cb, 0, none⟩) else if d = 48 then .pointer (some ⟨cb, 0, none⟩) else if d = 49 then .pointer (some ⟨cb, 1, none⟩) else if d = 50 then v else if d = 51 then .agg #[.int .i64 bU, .int .i64 bW, .int .i64 bR, .int .i64 bH] else if d = 52 then .slice (some ⟨h, 0, none⟩) 1 1 else if d = 53 then .slice (some ⟨g, 0, none⟩) (n + 1) cap else if d = 54 then .pointer (some ⟨cb, 0, none⟩) else if d = 55 then .pointer (some ⟨cb, 1, none⟩) else undef) (by
      intro d hd
      simp only [List.mem_cons, List.not_mem_nil, or_false] at hd
      rcases hd with rfl | rfl | rfl | rfl | rfl | rfl | rfl | rfl | rfl | rfl
      · exact h'.k0 (hall 0 (by decide))
      · exact h'.k1 (hall 1 (by decide))
      · exact h'.k2 (hall 2 (by decide))
      · exact h'.k3 (hall 3 (by decide))
      · exact h'.k4 (hall 4 (by decide))
      · exact h'.k5 (hall 5 (by decide))
      · exact h'.k6 (hall 6 (by decide))
      · exact h'.k7 (hall 7 (by decide))
      · exact h'.k8 (hall 8 (by decide))
      · exact h'.k9 (hall 9 (by decide))
      )
    simp only [List.foldl_cons, List.foldl_nil] at hfr
    rw [← HA.out] at hfr
    obtain ⟨m1, m2, m3, m4, m5, m6, m7, m8, m9⟩ := h'.mid (hall 7 (by decide))
    have hCu : Cu cb dir B (.slice (some ⟨g, 0, none⟩) (n + 1) cap) (n + 1) (xs ++ spc (⟨bU, bW, bR, bH⟩ : Spk)) wx := ⟨m1, m4, m5, h'.fin (hall 10 (by decide)), m7, fun e => m3 (by simpa [Value.ownBlock] using e), m8, m9⟩
    have hCh := h'.chg
    rw [hfr]
    clear hfr h' hall m1 m4 m5 m6 m7 m8 m9 m3 HA hA0 hA7 hsz
    simp [Act.put]
    go_wp2_with fail
    go_end0
    exact ⟨rfl, .slice (some ⟨g, 0, none⟩) (n + 1) cap, by simpa using hCu, hCh, m2.imp (fun e => e.symm) (fun e => ⟨g, rfl, e⟩)⟩
end Go.Proofs.Ytkjjoclbjkpdaaa
