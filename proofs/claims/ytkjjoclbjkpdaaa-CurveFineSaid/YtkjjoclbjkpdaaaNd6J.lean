/- Proved here: a source out of a list of numbers; no conditions but that the list can be read. · an item that is stored whole into a new block; no conditions. · what is known while an arc is made: cells below its own, the source, and that nothing else has changed; no conditions. · what stays behind stores and draws while an arc is made; no conditions. -/
import Derived.Test.YtkjjoclbjkpdaaaNe1J
import Derived.Deep.MidRow
namespace Go.Proofs.Ytkjjoclbjkpdaaa
open Go.RowKit
set_option linter.unusedVariables false
set_option linter.unusedSimpArgs false
set_option maxHeartbeats 1000000 in
theorem from_any (b0 : Nat) (v : Value) (w : World) (hv : Ns b0 v w) (hb : b0 ≤ w.heap.size) :
    Calls Try.prog 28 #[v] w fun e w' => ∃ sb, e = .returned (.pointer (some ⟨sb, 0, none⟩)) ∧ Src b0 sb w' ∧ Below w.heap.size w w' ∧ w.heap.size ≤ sb := by
  obtain ⟨ao, n, c, rfl, h2, h3⟩ := id hv
  have hS : Src b0 w.heap.size (w.alloc (.cells #[.slice ao n c, .int .i64 0] 76)) :=
    ⟨⟨.slice ao n c, 0, hv.keep (fun k hk => by have := (Below.refl w.heap.size w).alloc (Nat.le_refl _) (.cells #[.slice ao n c, .int .i64 0] 76); exact this.block k (by omega)), by simp [go_sem], by simp [go_sem], by unfold maxLen; omega⟩, by simp [go_sem], by simp [go_sem], by simp, hb⟩
  go_enter Try.func28, Try.ntmps28
  go_wp2_with fail
  go_ret
  exact ⟨w.heap.size, rfl, hS, (Below.refl _ _).alloc (Nat.le_refl _) _, Nat.le_refl _⟩
end Go.Proofs.Ytkjjoclbjkpdaaa
namespace Go.Proofs.Ytkjjoclbjkpdaaa
open Go.RowKit
set_option linter.unusedVariables false
set_option linter.unusedSimpArgs false
theorem below_sets {B b : Nat} {a : World} (hb : B ≤ b) : ∀ (vs : List Value) (o : Nat) (w : World), Below B a w → Below B a (w.setCells b o vs)
  | [], _, _, h => h
  | v :: vs, o, w, h => below_sets hb vs (o + 1) _ (Below.setCell h (show B ≤ (⟨b, o, none⟩ : Addr).block from hb) v)
theorem size_sets (b : Nat) : ∀ (vs : List Value) (o : Nat) (w : World), (w.setCells b o vs).heap.size = w.heap.size
  | [], _, _ => rfl
  | v :: vs, o, w => by rw [World.setCells, size_sets b vs (o + 1) _]; simp
def zeroI : Array Value := #[.int .i64 0, .int .i64 0, .int .i64 0, .int .i64 0, .int .i64 0, .int .i64 0, .int .i64 0, .int .i64 0, .int .i64 0, .int .i64 0, .int .i64 0, .int .i64 0, .int .i64 0, .bool false, .int .i64 0, .bool false, .int .i64 0, .int .i64 0, .int .i64 0, .int .i64 0, .int .i64 0, .bool false]
theorem zero_there (w : World) (T : TypeId) : (w.alloc (.cells zeroI T)).there w.heap.size 0 22 := by
  intro j hj
  have e : (w.alloc (.cells zeroI T)).heap[w.heap.size]? = some (.cells zeroI T (0, 0)) := heap_alloc_new w _
  rw [Nat.zero_add, cell_of_row _ _ _ _ _ _ e]
  refine ⟨?_, frozen_of_row _ _ _ _ _ e⟩
  have : j < zeroI.size := hj
  simp [this]
theorem ItC.stored (t : Itm) (w : World) (T : TypeId) : ItC t w.heap.size ((w.alloc (.cells zeroI T)).setCells w.heap.size 0 (itL t)) :=
  ⟨World.rangeAt_setCells_same _ _ _ _ (zero_there w T), by rw [size_sets]; simp⟩
theorem stored_below (t : Itm) (w : World) (T : TypeId) : Below w.heap.size w ((w.alloc (.cells zeroI T)).setCells w.heap.size 0 (itL t)) :=
  below_sets (Nat.le_refl _) _ _ _ ((Below.refl _ _).alloc (Nat.le_refl _) _)
theorem one_itL (t : Itm) : (itL t).toArray.all (·.oneCell') = true := by simp [itL, Value.oneCell']
end Go.Proofs.Ytkjjoclbjkpdaaa
namespace Go.Proofs.Ytkjjoclbjkpdaaa
open Go.RowKit
set_option linter.unusedVariables false
set_option linter.unusedSimpArgs false
/-- a world behind some draws from the source in block sb -/
structure Ac (b0 sb : Nat) (w0 w : World) : Prop where
  src : Src b0 sb w
  ch : Chg sb (.slice none 0 0) w0 w
theorem Ac.next {b0 sb : Nat} {w0 w w' : World} (h : Ac b0 sb w0 w) (hb : Below w.heap.size w w') : Ac b0 sb w0 w' := ⟨h.src.next hb, h.ch.next hb⟩
theorem Ac.draw {b0 sb : Nat} {w0 w w' : World} (h : Ac b0 sb w0 w) (hs : Src b0 sb w') (hc : Chg sb (.slice none 0 0) w w') : Ac b0 sb w0 w' := ⟨hs, h.ch.trans hc (Or.inl rfl)⟩
/-- cells of other blocks stay behind a draw -/
theorem Lf.draw {B n sb : Nat} {cs : List (Addr × Value)} {w0 w w' : World} (h : Lf B n cs w0 w) (hc : Chg sb (.slice none 0 0) w w') (hB : B ≤ sb) (hn : ∀ p ∈ cs, p.1.block ≠ sb) : Lf B n cs w0 w' :=
  h.chg hc hn (fun _ _ e => nomatch e) hB (fun _ e => nomatch e)
theorem Row.draw {g m i sb : Nat} {G : Nat → Value} {w w' : World} (h : Row g m i G w) (hc : Chg sb (.slice none 0 0) w w') (hn : g ≠ sb) : Row g m i G w' := by
  have hb : w'.heap[g]? = w.heap[g]? := hc.block g h.lt hn (fun e => nomatch e)
  exact ⟨fun j hj => (World.cell?_of_block (a := ⟨g, j, none⟩) hb).trans (h.cell j hj), fun j hj => (h.ex j hj).imp fun v hv => (World.cell?_of_block (a := ⟨g, j, none⟩) hb).trans hv, fun j hj => (World.frozen?_of_block (a := ⟨g, j, none⟩) hb).trans (h.frz j hj), Nat.lt_of_lt_of_le h.lt hc.size⟩
theorem ItC.draw {t : Itm} {b sb : Nat} {w w' : World} (h : ItC t b w) (hc : Chg sb (.slice none 0 0) w w') (hn : b ≠ sb) : ItC t b w' := by
  have hb : w'.heap[b]? = w.heap[b]? := hc.block b h.lt hn (fun e => nomatch e)
  exact ⟨fun j v hj => (World.cell?_of_block (a := ⟨b, 0 + j, none⟩) hb).trans (h.rg j v hj), Nat.lt_of_lt_of_le h.lt hc.size⟩
end Go.Proofs.Ytkjjoclbjkpdaaa
namespace Go.Proofs.Ytkjjoclbjkpdaaa
open Go.RowKit
set_option linter.unusedVariables false
set_option linter.unusedSimpArgs false
/-- 22 cells that may be written -/
structure Th (b : Nat) (w : World) : Prop where
  th : w.there b 0 22
  lt : b < w.heap.size
theorem Th.draw {b sb : Nat} {w w' : World} (h : Th b w) (hc : Chg sb (.slice none 0 0) w w') (hn : b ≠ sb) : Th b w' := by
  have hb : w'.heap[b]? = w.heap[b]? := hc.block b h.lt hn (fun e => nomatch e)
  exact ⟨fun j hj => ⟨by rw [World.cell?_of_block (a := ⟨b, 0 + j, none⟩) hb]; exact (h.th j hj).1, by rw [World.frozen?_of_block (a := ⟨b, 0 + j, none⟩) hb]; exact (h.th j hj).2⟩, Nat.lt_of_lt_of_le h.lt hc.size⟩
theorem Th.far {b g o : Nat} {w : World} (h : Th b w) (vs : List Value) : Th b (w.setCells g o vs) := ⟨World.there_setCells h.th g o vs, by rw [size_sets]; exact h.lt⟩
theorem Th.frz {b : Nat} {w : World} (h : Th b w) (j : Nat) (hj : j < 22) : w.frozen? ⟨b, j, none⟩ = false := by have := (h.th j hj).2; rwa [Nat.zero_add] at this
/-- a literal list of numbers in a block -/
structure Lit (h sb : Nat) (xs : List Int) (w : World) : Prop where
  c : ∀ (j : Nat) (x : Int), xs[j]? = some x → w.cell? ⟨h, j, none⟩ = some (.int .i64 x)
  lt : h < w.heap.size
  ne : h ≠ sb
theorem Lit.draw {h sb : Nat} {xs : List Int} {w w' : World} (t : Lit h sb xs w) (hc : Chg sb (.slice none 0 0) w w') : Lit h sb xs w' := by
  have hb : w'.heap[h]? = w.heap[h]? := hc.block h t.lt t.ne (fun e => nomatch e)
  exact ⟨fun j x hj => (World.cell?_of_block (a := ⟨h, j, none⟩) hb).trans (t.c j x hj), Nat.lt_of_lt_of_le t.lt hc.size, t.ne⟩
theorem Lit.far {h sb g o : Nat} {xs : List Int} {w : World} (t : Lit h sb xs w) (hn : h ≠ g) (vs : List Value) : Lit h sb xs (w.setCells g o vs) :=
  ⟨fun j x hj => (World.cell?_setCells_out g vs o w ⟨h, j, none⟩ (fun e => absurd e hn)).trans (t.c j x hj), by rw [size_sets]; exact t.lt, t.ne⟩
theorem Lit.fresh {sb : Nat} {w : World} (xs : List Int) (T : TypeId) (hs : sb < w.heap.size) : Lit w.heap.size sb xs (w.alloc (.cells (xs.map (Value.int .i64)).toArray T)) := by
  refine ⟨fun j x hj => ?_, by simp, by omega⟩
  have e : (w.alloc (.cells (xs.map (Value.int .i64)).toArray T)).heap[w.heap.size]? = some (.cells (xs.map (Value.int .i64)).toArray T (0, 0)) := heap_alloc_new w _
  rw [cell_of_row _ _ _ _ _ _ e]
  simp [hj]
theorem Src.far {b0 sb g : Nat} {w : World} (h : Src b0 sb w) (hn : sb ≠ g) (hg : b0 ≤ g) (o : Nat) (u : Value) : Src b0 sb (w.setCell ⟨g, o, none⟩ u) := by
  obtain ⟨⟨v, i, h1, h2, h3, h4⟩, h5, h6, h7, h8⟩ := h
  have hne : ∀ k, (⟨sb, k, none⟩ : Addr) ≠ ⟨g, o, none⟩ := fun k e => hn (congrArg Addr.block e)
  exact ⟨⟨v, i, h1.keep (fun k hk => heap_setCell_other w ⟨g, o, none⟩ k _ (by simp; omega)), (World.cell?_setCell_other w ⟨g, o, none⟩ ⟨sb, 0, none⟩ _ (fun e => hne 0 e.symm)).trans h2, (World.cell?_setCell_other w ⟨g, o, none⟩ ⟨sb, 1, none⟩ _ (fun e => hne 1 e.symm)).trans h3, h4⟩, by simpa [go_sem] using h5, by simpa [go_sem] using h6, by simpa using h7, h8⟩
theorem Ac.far {b0 sb g : Nat} {w0 w : World} (h : Ac b0 sb w0 w) (hn : sb ≠ g) (hb : b0 ≤ g) (hg : w0.heap.size ≤ g) : ∀ (vs : List Value) (o : Nat), Ac b0 sb w0 (w.setCells g o vs) := by
  intro vs
  induction vs generalizing w with
  | nil => exact fun _ => h
  | cons v vs ih => exact fun o => ih (w := w.setCell ⟨g, o, none⟩ v) ⟨h.src.far hn hb o v, h.ch.far g o v hg⟩ (o + 1)
theorem Lf.fars {B n g : Nat} {cs : List (Addr × Value)} {w0 : World} (hB : B ≤ g) (hc : ∀ p ∈ cs, p.1.block ≠ g) : ∀ (vs : List Value) (o : Nat) {w : World}, Lf B n cs w0 w → Lf B n cs w0 (w.setCells g o vs) := by
  intro vs
  induction vs with
  | nil => exact fun _ _ h => h
  | cons v vs ih => exact fun o w h => ih (o + 1) (h.wr g o v hB hc)
theorem Chg.of {sb : Nat} {w w' : World} (hb : Below w.heap.size w w') : Chg sb (.slice none 0 0) w w' := (Chg.refl sb _ w).next hb
/-- an item under way: its cells and that they may be written -/
structure It (t : Itm) (g sb : Nat) (w : World) : Prop where
  c : ItC t g w
  t' : Th g w
  ne : g ≠ sb
theorem It.draw {t : Itm} {g sb : Nat} {w w' : World} (h : It t g sb w) (hc : Chg sb (.slice none 0 0) w w') : It t g sb w' := ⟨h.c.draw hc h.ne, h.t'.draw hc h.ne, h.ne⟩
theorem It.far {t : Itm} {g sb b o : Nat} {w : World} (h : It t g sb w) (hn : g ≠ b) (vs : List Value) : It t g sb (w.setCells b o vs) := ⟨⟨World.rangeAt_setCells_apart h.c.rg b o vs (Or.inl hn), by rw [size_sets]; exact h.c.lt⟩, h.t'.far _, h.ne⟩
/-- a new block of 22 cells, all zero -/
theorem Th.fresh (w : World) (T : TypeId) : Th w.heap.size (w.alloc (.cells zeroI T)) := ⟨zero_there w T, by simp⟩
theorem zero_cell (w : World) (T : TypeId) : (w.alloc (.cells zeroI T)).cell? ⟨w.heap.size, 2, none⟩ = some (.int .i64 0) := by
  have e : (w.alloc (.cells zeroI T)).heap[w.heap.size]? = some (.cells zeroI T (0, 0)) := heap_alloc_new w _
  rw [cell_of_row _ _ _ _ _ _ e]; rfl
/-- what a new block of c cells holds till it is written -/
structure Nw (g sb n c : Nat) (w : World) : Prop where
  th : w.there g 0 c
  lt : g < w.heap.size
  z : w.cell? ⟨g, 2, none⟩ = some (.int .i64 0)
  ge : n ≤ g
  ne : g ≠ sb
theorem there_keep {g c : Nat} {w w' : World} (h : w.there g 0 c) (hb : w'.heap[g]? = w.heap[g]?) : w'.there g 0 c :=
  fun j hj => ⟨by rw [World.cell?_of_block (a := ⟨g, 0 + j, none⟩) hb]; exact (h j hj).1, by rw [World.frozen?_of_block (a := ⟨g, 0 + j, none⟩) hb]; exact (h j hj).2⟩
theorem Nw.draw {g sb n c : Nat} {w w' : World} (h : Nw g sb n c w) (hc : Chg sb (.slice none 0 0) w w') : Nw g sb n c w' := by
  have hb := hc.block g h.lt h.ne (fun e => nomatch e)
  exact ⟨there_keep h.th hb, Nat.lt_of_lt_of_le h.lt hc.size, (World.cell?_of_block (a := ⟨g, 2, none⟩) hb).trans h.z, h.ge, h.ne⟩
theorem Nw.fresh22 (w : World) (T : TypeId) (sb n : Nat) (h1 : n ≤ w.heap.size) (h2 : sb < w.heap.size) : Nw w.heap.size sb n 22 (w.alloc (.cells zeroI T)) := ⟨zero_there w T, by simp, zero_cell w T, h1, by omega⟩
theorem Nw.fresh3 (w : World) (T : TypeId) (sb n : Nat) (h1 : n ≤ w.heap.size) (h2 : sb < w.heap.size) : Nw w.heap.size sb n 3 (w.alloc (.cells #[.int .i64 0, .int .i64 0, .int .i64 0] T)) := by
  refine ⟨fun j hj => ?_, by simp, by simp [go_sem], h1, by omega⟩
  have : j = 0 ∨ j = 1 ∨ j = 2 := by omega
  rcases this with rfl | rfl | rfl <;> simp [go_sem]
theorem Lit.off {h sb g n c : Nat} {x : Int} {xs : List Int} {w : World} (t : Lit h sb xs w) (k : Nw g sb n c w) (h2 : xs[2]? = some x) (hx : x ≠ 0) : h ≠ g := by
  rintro rfl
  have := (t.c 2 x h2).symm.trans k.z
  simp at this
  exact hx this
theorem It.put {t : Itm} {g sb n : Nat} {w : World} (h : Nw g sb n 22 w) : It t g sb (w.setCells g 0 (itL t)) := ⟨⟨World.rangeAt_setCells_same _ _ _ _ h.th, by rw [size_sets]; exact h.lt⟩, ⟨World.there_setCells h.th _ _ _, by rw [size_sets]; exact h.lt⟩, h.ne⟩
theorem Lit.put {g sb n : Nat} {x y z : Int} {w : World} (h : Nw g sb n 3 w) : Lit g sb [x, y, z] (w.setCells g 0 [.int .i64 x, .int .i64 y, .int .i64 z]) := by
  have k := World.rangeAt_setCells_same w g 0 [.int .i64 x, .int .i64 y, .int .i64 z] h.th
  refine ⟨fun j v hj => ?_, by rw [size_sets]; exact h.lt, h.ne⟩
  have := k j (.int .i64 v) (by
    rcases j with _ | _ | _ | j
    · simpa using hj
    · simpa using hj
    · simpa using hj
    · simp at hj)
  rwa [Nat.zero_add] at this
/-- a part of an item is written anew -/
theorem It.at {t t' : Itm} {g sb : Nat} {w : World} (h : It t g sb w) (o : Nat) (vs : List Value) (hl : o + vs.length ≤ 22) (e : ∀ j, j < 22 → (itL t')[j]? = if o ≤ j ∧ j < o + vs.length then vs[j - o]? else (itL t)[j]?) : It t' g sb (w.setCells g o vs) := by
  refine ⟨⟨fun j v hj => ?_, by rw [size_sets]; exact h.c.lt⟩, h.t'.far _, h.ne⟩
  have hj22 : j < 22 := (List.getElem?_eq_some_iff.1 hj).1
  rw [e j hj22] at hj
  rw [Nat.zero_add]
  by_cases hc : o ≤ j ∧ j < o + vs.length
  · rw [if_pos hc] at hj
    have k := World.cell?_setCells_in g vs o w (fun i hi => by have := (h.t'.th (o + i) (by omega)).1; rwa [Nat.zero_add] at this) (j - o) (by omega)
    rw [show o + (j - o) = j by omega] at k
    rw [k, ← hj, List.getElem?_eq_getElem]
  · rw [if_neg hc] at hj
    rw [World.cell?_setCells_out g vs o w ⟨g, j, none⟩ (fun _ _ => by simp; omega)]
    have := h.c.rg j v hj
    rwa [Nat.zero_add] at this
/-- a result that is a row of cells -/
theorem results_cell {P : Program} {fn : Func} {t : Tmp} {ty : TypeId} (h : fn.results = #[.cell t ty]) (tmps : Array Value) (w : World) (b : Nat) (cs : List Value) (d : TypeDesc) (ht : tmps.getD t undef = .pointer (some ⟨b, 0, none⟩)) (hc : w.rangeAt b 0 cs)
    (hu : P.underlying ty = some d) (hd : d.isRow = true) (hi : (P.info? ty).map (·.size) = some cs.length) : (results fn tmps).run P w = .ok (.agg cs.toArray) w := by
  have hl := run_loadVar_mid w b 0 ty cs d hc hu hd hi
  rw [Array.getD_eq_getD_getElem?] at ht
  simp [results, h, ht, asAddr, Sem.run_bind, hl]
theorem spX_bd {k u v h l : Int} (hu : -l ≤ u ∧ u ≤ l) (hv : -l ≤ v ∧ v ≤ l) (hh : -l ≤ h ∧ h ≤ l) : -l ≤ spX k u v h ∧ spX k u v h ≤ l := by unfold spX; split; exact hu; split; exact hv; exact hh
theorem spY_bd {k u v h l : Int} (hu : -l ≤ u ∧ u ≤ l) (hv : -l ≤ v ∧ v ≤ l) (hh : -l ≤ h ∧ h ≤ l) : -l ≤ spY k u v h ∧ spY k u v h ≤ l := by unfold spY; split; exact hv; split; exact hh; exact hu
theorem spZ_bd {k u v h l : Int} (hu : -l ≤ u ∧ u ≤ l) (hv : -l ≤ v ∧ v ≤ l) (hh : -l ≤ h ∧ h ≤ l) : -l ≤ spZ k u v h ∧ spZ k u v h ≤ l := by unfold spZ; split; exact hh; split; exact hu; exact hv
end Go.Proofs.Ytkjjoclbjkpdaaa
