/- Proved here: rows of spokes and of points by their cells; Chords of the program for a valid arc; ranges as stated. · Chords of the program for a valid arc; ranges as stated. · Chords of the reference for a valid arc; ranges as stated. -/
import Derived.Test.YtkjjoclbjkpdaaaNb6J
import Derived.OwnWalk
namespace Go.Proofs.Ytkjjoclbjkpdaaa
open Go.RowKit
set_option linter.unusedVariables false
set_option linter.unusedSimpArgs false
def spk0 : Spk := ⟨0, 0, 0, 0⟩
def spq (s : Spk) (c : Nat) : Int := cq s.u s.w s.r s.h c
/-- the c-th component of the i-th spoke -/
def spF (l : List Spk) (i c : Nat) : Int := spq (l.getD i spk0) c
theorem flat_at : ∀ (l : List Spk) (j : Nat), j < l.length * 4 → (l.flatMap spc)[j]? = some (.int .i64 (spF l (j / 4) (j % 4)))
  | [], j, h => absurd h (by simp)
  | s :: l, j, h => by
    rw [List.flatMap_cons]
    by_cases hj : j < 4
    · rw [List.getElem?_append_left (by simpa [spc] using hj)]
      have : j = 0 ∨ j = 1 ∨ j = 2 ∨ j = 3 := by omega
      rcases this with rfl | rfl | rfl | rfl <;> rfl
    · obtain ⟨k, rfl⟩ : ∃ k, j = k + 4 := ⟨j - 4, by omega⟩
      rw [List.getElem?_append_right (by simp [spc])]
      have e : k + 4 - (spc s).length = k := by simp [spc]
      rw [e, flat_at l k (by rw [List.length_cons] at h; omega), show (k + 4) / 4 = k / 4 + 1 by omega, show (k + 4) % 4 = k % 4 by omega]
      rfl
/-- a row of spokes that the call owns, by its cells -/
theorem row_spokes {w : World} {B : Nat} {v : Value} {l : List Spk} (h : w.ownsRow B 34 4 v l.length (l.flatMap spc)) (hl : 0 < l.length) :
    ∃ g cap, v = .slice (some ⟨g, 0, none⟩) l.length cap ∧ B ≤ g ∧ Row g (l.length * 4) (l.length * 4) (fun j => .int .i64 (spF l (j / 4) (j % 4))) w := by
  obtain ⟨g, cap, rfl, hb, hg⟩ := h.form hl
  have hc : ∀ j, j < l.length * 4 → w.cell? ⟨g, j, none⟩ = some (.int .i64 (spF l (j / 4) (j % 4))) := fun j hj => (h.cellAt j hj).trans (flat_at l j hj)
  exact ⟨g, cap, rfl, hb, hc, fun j hj => ⟨_, hc j hj⟩, fun j _ => h.frozenAt j, hg⟩
theorem Row.spoke {g L i : Nat} {F : Nat → Nat → Int} {w : World} (h : Row g (L * 4) (L * 4) (fun j => .int .i64 (F (j / 4) (j % 4))) w) (hi : i < L) :
    w.cell? ⟨g, i * 4, none⟩ = some (.int .i64 (F i 0)) ∧ w.cell? ⟨g, i * 4 + 1, none⟩ = some (.int .i64 (F i 1)) ∧ w.cell? ⟨g, i * 4 + 2, none⟩ = some (.int .i64 (F i 2)) ∧ w.cell? ⟨g, i * 4 + 3, none⟩ = some (.int .i64 (F i 3)) := by
  have h0 := h.cell (i * 4) (by omega)
  have h1 := h.cell (i * 4 + 1) (by omega)
  have h2 := h.cell (i * 4 + 2) (by omega)
  have h3 := h.cell (i * 4 + 3) (by omega)
  simp only [show i * 4 / 4 = i by omega, show i * 4 % 4 = 0 by omega, show (i * 4 + 1) / 4 = i by omega, show (i * 4 + 1) % 4 = 1 by omega, show (i * 4 + 2) / 4 = i by omega, show (i * 4 + 2) % 4 = 2 by omega, show (i * 4 + 3) / 4 = i by omega, show (i * 4 + 3) % 4 = 3 by omega] at h0 h1 h2 h3
  exact ⟨h0, h1, h2, h3⟩
/-- all spokes of an arc lie in bounds -/
theorem Itm.Arc.spokes_gd {t : Itm} {lo hi hl hh : Int} (h : t.Arc lo hi hl hh) : ∀ s ∈ t.spokes, Gd lo hi hl hh s := by
  intro s hs
  rcases List.mem_cons.1 hs with rfl | hs
  · exact h.ga
  · exact pcs_gd h.bnd h.dir 16 t.full _ _ h.ga h.gb s hs
theorem Itm.spokes_len (t : Itm) : 2 ≤ t.spokes.length ∧ t.spokes.length ≤ 65537 := by
  have := pcs_len t.dir 16 t.full t.A t.B
  unfold Itm.spokes
  rw [List.length_cons]
  omega
end Go.Proofs.Ytkjjoclbjkpdaaa
namespace Go.Proofs.Ytkjjoclbjkpdaaa
open Go.RowKit
set_option linter.unusedVariables false
set_option linter.unusedSimpArgs false
/-- behind Spokes: the plane, the spokes, and the points so far -/
structure ChI (t : Itm) (n gs go i : Nat) (S F : Nat → Nat → Int) (w0 w : World) : Prop where
  bx : Lf w0.heap.size (w0.heap.size + 1) [(⟨w0.heap.size, 8, none⟩, .int .i64 t.plane)] w0 w
  rs : Row gs (n * 4) (n * 4) (fun j => .int .i64 (S (j / 4) (j % 4))) w
  ro : Row go (n * 3) (i * 3) (fun j => .int .i64 (F (j / 3) (j % 3))) w
theorem ChI.next {t : Itm} {n gs go i : Nat} {S F : Nat → Nat → Int} {w0 w w' : World} (h : ChI t n gs go i S F w0 w) (hb : Below w.heap.size w w') : ChI t n gs go i S F w0 w' :=
  ⟨h.bx.next hb, h.rs.next hb, h.ro.next hb⟩
theorem ChI.store {t : Itm} {n gs go i : Nat} {S F : Nat → Nat → Int} {w0 w : World} (h : ChI t n gs go i S F w0 w) (hi : i < n) (h1 : w0.heap.size < go) (h2 : gs ≠ go) (x y z : Int) (hx : F i 0 = x) (hy : F i 1 = y) (hz : F i 2 = z) :
    ChI t n gs go (i + 1) S F w0 (((w.setCell ⟨go, i * 3, none⟩ (.int .i64 x)).setCell ⟨go, i * 3 + 1, none⟩ (.int .i64 y)).setCell ⟨go, i * 3 + 2, none⟩ (.int .i64 z)) := by
  have hne : ∀ p ∈ ([(⟨w0.heap.size, 8, none⟩, .int .i64 t.plane)] : List (Addr × Value)), p.1.block ≠ go := by simp; omega
  refine ⟨((h.bx.wr go _ _ (by omega) hne).wr go _ _ (by omega) hne).wr go _ _ (by omega) hne, ((h.rs.other h2 _ _).other h2 _ _).other h2 _ _, ?_⟩
  have e0 : (fun j => Value.int .i64 (F (j / 3) (j % 3))) (i * 3) = .int .i64 x := by
    show Value.int .i64 (F (i * 3 / 3) (i * 3 % 3)) = _
    rw [show i * 3 / 3 = i by omega, show i * 3 % 3 = 0 by omega, hx]
  have e1 : (fun j => Value.int .i64 (F (j / 3) (j % 3))) (i * 3 + 1) = .int .i64 y := by
    show Value.int .i64 (F ((i * 3 + 1) / 3) ((i * 3 + 1) % 3)) = _
    rw [show (i * 3 + 1) / 3 = i by omega, show (i * 3 + 1) % 3 = 1 by omega, hy]
  have e2 : (fun j => Value.int .i64 (F (j / 3) (j % 3))) (i * 3 + 2) = .int .i64 z := by
    show Value.int .i64 (F ((i * 3 + 2) / 3) ((i * 3 + 2) % 3)) = _
    rw [show (i * 3 + 2) / 3 = i by omega, show (i * 3 + 2) % 3 = 2 by omega, hz]
  exact (((h.ro.step _ (by omega) e0).step _ (by omega) e1).step _ (by omega) e2).cast (by omega)
structure ChC (t : Itm) (n gs : Nat) (S : Nat → Nat → Int) (w0 w : World) : Prop where
  bx : Lf w0.heap.size (w0.heap.size + 1) [(⟨w0.heap.size, 8, none⟩, .int .i64 t.plane), (⟨w0.heap.size, 9, none⟩, .int .i64 t.cx), (⟨w0.heap.size, 10, none⟩, .int .i64 t.cy), (⟨w0.heap.size, 11, none⟩, .int .i64 t.cz)] w0 w
  rs : Row gs (n * 4) (n * 4) (fun j => .int .i64 (S (j / 4) (j % 4))) w
theorem ChC.next {t : Itm} {n gs : Nat} {S : Nat → Nat → Int} {w0 w w' : World} (h : ChC t n gs S w0 w) (hb : Below w.heap.size w w') : ChC t n gs S w0 w' := ⟨h.bx.next hb, h.rs.next hb⟩
end Go.Proofs.Ytkjjoclbjkpdaaa
namespace Go.Proofs.Ytkjjoclbjkpdaaa
open Go.RowKit
set_option linter.unusedVariables false
set_option linter.unusedSimpArgs false
/-- the first m values of a function -/
def rowL (G : Nat → Value) (m : Nat) : List Value := (List.range m).map G
theorem rowL_step (G : Nat → Value) (i : Nat) {a b c : Value} (h0 : G (i * 3) = a) (h1 : G (i * 3 + 1) = b) (h2 : G (i * 3 + 2) = c) : rowL G (i * 3) ++ [a, b, c] = rowL G ((i + 1) * 3) := by
  unfold rowL
  rw [show (i + 1) * 3 = i * 3 + 1 + 1 + 1 by omega, List.range_succ, List.range_succ, List.range_succ]
  simp [h0, h1, h2]
/-- behind Spokes: the plane, the spokes, and the row of the points so far -/
structure ChR (t : Itm) (n gs B i : Nat) (S F : Nat → Nat → Int) (v : Value) (w0 w : World) : Prop where
  bx : Lf w0.heap.size (w0.heap.size + 1) [(⟨w0.heap.size, 8, none⟩, .int .i64 t.plane)] w0 w
  rs : Row gs (n * 4) (n * 4) (fun j => .int .i64 (S (j / 4) (j % 4))) w
  ow : w.ownsRow B 47 3 v i (rowL (fun j => .int .i64 (F (j / 3) (j % 3))) (i * 3))
theorem ChR.next {t : Itm} {n gs B i : Nat} {S F : Nat → Nat → Int} {v : Value} {w0 w w' : World} (h : ChR t n gs B i S F v w0 w) (hb : Below w.heap.size w w') : ChR t n gs B i S F v w0 w' :=
  ⟨h.bx.next hb, h.rs.next hb, ownsRow_nx h.ow hb⟩
theorem Row.grown {g m i : Nat} {G : Nat → Value} {w w' : World} {row : Option Nat} (h : Row g m i G w) (hg : w.grownBy w' row) (hr : row ≠ some g) : Row g m i G w' := by
  have hb : w'.heap[g]? = w.heap[g]? := hg.block _ h.lt (fun e => hr e.symm)
  exact ⟨fun j hj => (World.cell?_of_block (a := ⟨g, j, none⟩) hb).trans (h.cell j hj), fun j hj => (h.ex j hj).imp fun v hv => (World.cell?_of_block (a := ⟨g, j, none⟩) hb).trans hv, fun j hj => (World.frozen?_of_block (a := ⟨g, j, none⟩) hb).trans (h.frz j hj), Nat.lt_of_lt_of_le h.lt hg.size⟩
theorem ChR.grown {t : Itm} {n gs B i : Nat} {S F : Nat → Nat → Int} {v v' : Value} {w0 w w' : World} (h : ChR t n gs B i S F v w0 w) (hg : w.grownBy w' v.ownBlock) (h1 : w0.heap.size < B) (h2 : gs < B) (x y z : Int) (hx : F i 0 = x) (hy : F i 1 = y) (hz : F i 2 = z)
    (ho : w'.ownsRow B 47 3 v' (i + 1) (rowL (fun j => .int .i64 (F (j / 3) (j % 3))) (i * 3) ++ [.int .i64 x, .int .i64 y, .int .i64 z])) : ChR t n gs B (i + 1) S F v' w0 w' := by
  refine ⟨h.bx.row hg (fun k e => by have := (h.ow.lt k e).1; omega), h.rs.grown hg (fun e => by have := (h.ow.lt _ e).1; omega), ?_⟩
  rw [rowL_step] at ho
  · exact ho
  · show Value.int .i64 (F (i * 3 / 3) (i * 3 % 3)) = _
    rw [show i * 3 / 3 = i by omega, show i * 3 % 3 = 0 by omega, hx]
  · show Value.int .i64 (F ((i * 3 + 1) / 3) ((i * 3 + 1) % 3)) = _
    rw [show (i * 3 + 1) / 3 = i by omega, show (i * 3 + 1) % 3 = 1 by omega, hy]
  · show Value.int .i64 (F ((i * 3 + 2) / 3) ((i * 3 + 2) % 3)) = _
    rw [show (i * 3 + 2) / 3 = i by omega, show (i * 3 + 2) % 3 = 2 by omega, hz]
end Go.Proofs.Ytkjjoclbjkpdaaa
