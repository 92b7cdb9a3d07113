/- Proved here: a row of cells that the call itself has made, and what becomes of it behind calls and stores; the post of a function that returns a row of points; no conditions. -/
import Derived.Test.YtdjopepipcnmdaaBg1
import Derived.Laws.OwnMore
import Derived.OwnWalk
namespace Go.Proofs.Ytdjopepipcnmdaa
open Go.RowKit
set_option linter.unusedVariables false
set_option linter.unusedSimpArgs false
/-- the block g has m cells that may be written, of which the first i hold what G says -/
structure Row (g m i : Nat) (G : Nat → Value) (w : World) : Prop where
  cell : ∀ j, j < i → w.cell? ⟨g, j, none⟩ = some (G j)
  ex : ∀ j, j < m → ∃ v, w.cell? ⟨g, j, none⟩ = some v
  frz : ∀ j, j < m → w.frozen? ⟨g, j, none⟩ = false
  lt : g < w.heap.size
theorem Row.next {g m i : Nat} {G : Nat → Value} {w w' : World} (h : Row g m i G w) (hb : Below w.heap.size w w') : Row g m i G w' :=
  ⟨fun j hj => (hb.cell (p := ⟨g, j, none⟩) h.lt).trans (h.cell j hj), fun j hj => (h.ex j hj).imp fun v hv => (hb.cell (p := ⟨g, j, none⟩) h.lt).trans hv,
   fun j hj => (hb.frozen (p := ⟨g, j, none⟩) h.lt).trans (h.frz j hj), Nat.lt_of_lt_of_le h.lt hb.size⟩
theorem Row.put {g m i : Nat} {G : Nat → Value} {w : World} (h : Row g m i G w) (o : Nat) (v : Value) (ho : i ≤ o) (hm : o < m) : Row g m i G (w.setCell ⟨g, o, none⟩ v) := by
  refine ⟨fun j hj => ?_, fun j hj => ?_, fun j hj => by simpa [go_sem] using h.frz j hj, by simpa using h.lt⟩
  · exact (World.cell?_setCell_other w ⟨g, o, none⟩ ⟨g, j, none⟩ v (fun e => by simp at e <;> omega)).trans (h.cell j hj)
  · by_cases e : j = o
    · subst e
      obtain ⟨u, hu⟩ := h.ex j hj
      exact ⟨v, World.cell?_setCell_same _ _ _ hu⟩
    · obtain ⟨u, hu⟩ := h.ex j hj
      exact ⟨u, (World.cell?_setCell_other w ⟨g, o, none⟩ ⟨g, j, none⟩ v (fun e' => by simp at e' <;> omega)).trans hu⟩
theorem Row.at {g m i : Nat} {G : Nat → Value} {w : World} (h : Row g m i G w) (o : Nat) (v : Value) (hm : o < m) : (w.setCell ⟨g, o, none⟩ v).cell? ⟨g, o, none⟩ = some v := by
  obtain ⟨u, hu⟩ := h.ex o hm
  exact World.cell?_setCell_same _ _ _ hu
theorem Row.past {g m i : Nat} {G : Nat → Value} {w : World} (h : Row g m i G w) (o j : Nat) (u v : Value) (hne : o ≠ j) (hu : w.cell? ⟨g, j, none⟩ = some u) : (w.setCell ⟨g, o, none⟩ v).cell? ⟨g, j, none⟩ = some u :=
  (World.cell?_setCell_other w ⟨g, o, none⟩ ⟨g, j, none⟩ v (fun e => by simp at e <;> omega)).trans hu
theorem Row.step {g m i : Nat} {G : Nat → Value} {w : World} (h : Row g m i G w) (v : Value) (hm : i < m) (hv : G i = v) : Row g m (i + 1) G (w.setCell ⟨g, i, none⟩ v) := by
  have p := h.put i v (Nat.le_refl _) hm
  refine ⟨fun j hj => ?_, p.ex, p.frz, p.lt⟩
  by_cases e : j = i
  · subst e; rw [hv]; exact h.at j v hm
  · exact p.cell j (by omega)
theorem Row.cast {g m i k : Nat} {G : Nat → Value} {w : World} (h : Row g m i G w) (e : i = k) : Row g m k G w := e ▸ h
theorem Lf.far {B n : Nat} {cs : List (Addr × Value)} {w0 w : World} (h : Lf B n cs w0 w) (g o : Nat) (v : Value) (hg : n ≤ g) : Lf B n cs w0 (w.setCell ⟨g, o, none⟩ v) :=
  ⟨fun p hp => (World.cell?_setCell_other w ⟨g, o, none⟩ p.1 v (fun e => by have := h.inn p hp; rw [← e] at this; simp at this; omega)).trans (h.cells p hp), fun p hp => by simpa [go_sem] using h.frz p hp, h.inn, by simpa using h.lt,
   h.be.setCell (Nat.le_trans h.le hg) v, h.le⟩
/-- a slice of L points whose components are F, in a block that is new -/
def PostPts (L : Nat) (F : Nat → Nat → Int) (w : World) (e : Ending) (w' : World) : Prop :=
  ∃ g cap, e = .returned (.slice (some ⟨g, 0, none⟩) L cap) ∧ w.heap.size ≤ g ∧ Row g (3 * L) (3 * L) (fun j => .int .i64 (F (j / 3) (j % 3))) w' ∧ Below w.heap.size w w'
def cp (x0 x1 x2 : Int) (k : Nat) : Int := if k = 0 then x0 else if k = 1 then x1 else x2
/-- one round of the inner loop: the k-th component of the i-th point is next -/
structure Inn (g m i k : Nat) (G : Nat → Value) (c0 c1 c2 : Int) (w : World) : Prop where
  row : Row g m (i * 3 + k) G w
  z0 : k = 0 → w.cell? ⟨g, i * 3, none⟩ = some (.int .i64 c0)
  z1 : k ≤ 1 → w.cell? ⟨g, i * 3 + 1, none⟩ = some (.int .i64 c1)
  z2 : k ≤ 2 → w.cell? ⟨g, i * 3 + 2, none⟩ = some (.int .i64 c2)
theorem Inn.next {g m i k : Nat} {G : Nat → Value} {c0 c1 c2 : Int} {w w' : World} (h : Inn g m i k G c0 c1 c2 w) (hb : Below w.heap.size w w') : Inn g m i k G c0 c1 c2 w' :=
  ⟨h.row.next hb, fun e => (hb.cell (p := ⟨g, _, none⟩) h.row.lt).trans (h.z0 e), fun e => (hb.cell (p := ⟨g, _, none⟩) h.row.lt).trans (h.z1 e), fun e => (hb.cell (p := ⟨g, _, none⟩) h.row.lt).trans (h.z2 e)⟩
theorem Inn.start {g m i : Nat} {G : Nat → Value} {w : World} (h : Row g m (i * 3) G w) (c0 c1 c2 : Int) (hm : i * 3 + 2 < m) :
    Inn g m i 0 G c0 c1 c2 (((w.setCell ⟨g, i * 3, none⟩ (.int .i64 c0)).setCell ⟨g, i * 3 + 1, none⟩ (.int .i64 c1)).setCell ⟨g, i * 3 + 2, none⟩ (.int .i64 c2)) := by
  have h1 := h.put (i * 3) (.int .i64 c0) (Nat.le_refl _) (by omega)
  have h2 := h1.put (i * 3 + 1) (.int .i64 c1) (by omega) (by omega)
  have h3 := h2.put (i * 3 + 2) (.int .i64 c2) (by omega) (by omega)
  exact ⟨h3, fun _ => h2.past _ _ _ _ (by omega) (h1.past _ _ _ _ (by omega) (h.at _ _ (by omega))), fun _ => h2.past _ _ _ _ (by omega) (h1.at _ _ (by omega)), fun _ => h2.at _ _ (by omega)⟩
theorem Inn.step0 {g m i : Nat} {G : Nat → Value} {c0 c1 c2 : Int} {w : World} (h : Inn g m i 0 G c0 c1 c2 w) (v : Value) (hm : i * 3 + 2 < m) (hv : G (i * 3) = v) : Inn g m i 1 G c0 c1 c2 (w.setCell ⟨g, i * 3, none⟩ v) :=
  ⟨(h.row.step v (by omega) hv).cast (by omega), fun e => absurd e (by decide), fun _ => h.row.past _ _ _ _ (by omega) (h.z1 (by omega)), fun _ => h.row.past _ _ _ _ (by omega) (h.z2 (by omega))⟩
theorem Inn.step1 {g m i : Nat} {G : Nat → Value} {c0 c1 c2 : Int} {w : World} (h : Inn g m i 1 G c0 c1 c2 w) (v : Value) (hm : i * 3 + 2 < m) (hv : G (i * 3 + 1) = v) : Inn g m i 2 G c0 c1 c2 (w.setCell ⟨g, i * 3 + 1, none⟩ v) :=
  ⟨(h.row.step v (by omega) hv).cast (by omega), fun e => absurd e (by decide), fun e => absurd e (by decide), fun _ => h.row.past _ _ _ _ (by omega) (h.z2 (by omega))⟩
theorem Inn.step2 {g m i : Nat} {G : Nat → Value} {c0 c1 c2 : Int} {w : World} (h : Inn g m i 2 G c0 c1 c2 w) (v : Value) (hm : i * 3 + 2 < m) (hv : G (i * 3 + 2) = v) : Inn g m i 3 G c0 c1 c2 (w.setCell ⟨g, i * 3 + 2, none⟩ v) :=
  ⟨(h.row.step v (by omega) hv).cast (by omega), fun e => absurd e (by decide), fun e => absurd e (by decide), fun e => absurd e (by decide)⟩
theorem Row.made {w : World} {B e : Nat} {L cap : Nat} {g : Nat} {xs : List Value} (h : w.ownsRow B e 3 (.slice (some ⟨g, 0, none⟩) L cap) L xs) (G : Nat → Value) : Row g (3 * L) 0 G w := by
  have hl := h.lt g rfl
  refine ⟨fun j hj => absurd hj (by omega), fun j hj => ?_, fun j _ => h.frozenAt j, hl.2⟩
  rw [h.cellAt j (by omega)]
  have : j < xs.length := by rw [h.1]; omega
  exact ⟨xs[j], List.getElem?_eq_getElem this⟩
structure Both (C D : World → Prop) (w : World) : Prop where
  l : C w
  r : D w
end Go.Proofs.Ytdjopepipcnmdaa
