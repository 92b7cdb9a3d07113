/- Proved here: a tactic: a region that draws its order and whose operations only read, its callees leaving worlds of a class: walked once, in the order of the text. · a class of worlds in which given cells hold given values, and its tactics; a call that leaves all blocks alone stays in it. · a class of worlds in which given cells hold given values and may be written; calls, new blocks and stores stay in it; no conditions. -/
import Derived.Test.YtkjjoclbjkpdaaaRows
import Derived.WalkKit
import Derived.ProofKit
import Derived.Deep.QuietTactic
import Derived.Below
namespace Go.Proofs.Ytkjjoclbjkpdaaa
open Go.RowKit
theorem wp_region_class {P : Program} {id : Nat} {Q : Exit → Act → World → Prop} {a : Act} {w : World} {l : List Oper} (C : World → Prop) (hC : C w.drew) (hm : P.follows .mixedOrders = true) (hB : Region.lexB .any l.toArray = true)
    (h : wpQuiet P l.toArray C (fun a' => ∀ w', C w' → Q .normal a' w') l a) : (Code.region id l.toArray true).wp P Q a w :=
  wp_region_quiet (C := C) hm hB hC (by simpa using h)
end Go.Proofs.Ytkjjoclbjkpdaaa
namespace Go.Proofs.Ytkjjoclbjkpdaaa
open Go.RowKit
set_option linter.unusedVariables false
set_option linter.unusedSimpArgs false
/-- a class of worlds: in each the cells of the list hold its values; all lie below n; blocks below B are those of w0 -/
structure Lay (B n : Nat) (cs : List (Addr × Value)) (w0 w : World) : Prop where
  cells : ∀ p ∈ cs, w.cell? p.1 = some p.2
  inn : ∀ p ∈ cs, p.1.block < n
  lt : n ≤ w.heap.size
  be : Below B w0 w
  le : B ≤ n
theorem Lay.next {B n : Nat} {cs : List (Addr × Value)} {w0 w w' : World} (h : Lay B n cs w0 w) (hb : Below w.heap.size w w') : Lay B n cs w0 w' :=
  ⟨fun p hp => (hb.cell (Nat.lt_of_lt_of_le (h.inn p hp) h.lt)).trans (h.cells p hp), h.inn, Nat.le_trans h.lt hb.size, h.be.trans (hb.mono (Nat.le_trans h.le h.lt)), h.le⟩
theorem Lay.base {B n : Nat} {cs : List (Addr × Value)} {w0 w : World} (h : Lay B n cs w0 w) : Lay w.heap.size w.heap.size cs w w :=
  ⟨h.cells, fun p hp => Nat.lt_of_lt_of_le (h.inn p hp) h.lt, Nat.le_refl _, Below.refl _ _, Nat.le_refl _⟩
theorem Calls.lays {P : Program} {f : FuncId} {args : Array Value} {w : World} {v : Value} {C : World → Prop} (h : Calls P f args w fun e w' => e = .returned v ∧ Below w.heap.size w w') (hC : ∀ w', Below w.heap.size w w' → C w') : Calls P f args w fun e w' => e = .returned v ∧ C w' :=
  h.mono fun e w' ⟨he, hb⟩ => ⟨he, hC w' hb⟩
theorem Calls.layq {P : Program} {f : FuncId} {args : Array Value} {w : World} {v : Value} {C : World → Prop} (h : Calls P f args w fun e w' => e = .returned v ∧ w = w') (hC : C w) : Calls P f args w fun e w' => e = .returned v ∧ C w' :=
  h.mono fun e w' ⟨he, hb⟩ => ⟨he, hb ▸ hC⟩
end Go.Proofs.Ytkjjoclbjkpdaaa
namespace Go.Proofs.Ytkjjoclbjkpdaaa
open Go.RowKit
set_option linter.unusedVariables false
/-- in each world the cells of the list hold its values and may be written; all lie below n; blocks below B are those of w0 -/
structure Lf (B n : Nat) (cs : List (Addr × Value)) (w0 w : World) : Prop where
  cells : ∀ p ∈ cs, w.cell? p.1 = some p.2
  frz : ∀ p ∈ cs, w.frozen? p.1 = false
  inn : ∀ p ∈ cs, p.1.block < n
  lt : n ≤ w.heap.size
  be : Below B w0 w
  le : B ≤ n
theorem Lf.nil (w : World) : Lf w.heap.size w.heap.size [] w w := ⟨by simp, by simp, by simp, Nat.le_refl _, Below.refl _ _, Nat.le_refl _⟩
theorem Lf.next {B n : Nat} {cs : List (Addr × Value)} {w0 w w' : World} (h : Lf B n cs w0 w) (hb : Below w.heap.size w w') : Lf B n cs w0 w' :=
  ⟨fun p hp => (hb.cell (Nat.lt_of_lt_of_le (h.inn p hp) h.lt)).trans (h.cells p hp), fun p hp => (hb.frozen (Nat.lt_of_lt_of_le (h.inn p hp) h.lt)).trans (h.frz p hp), h.inn, Nat.le_trans h.lt hb.size, h.be.trans (hb.mono (Nat.le_trans h.le h.lt)), h.le⟩
theorem Lf.sub {B n : Nat} {cs ds : List (Addr × Value)} {w0 w : World} (h : Lf B n cs w0 w) (hs : ∀ p ∈ ds, p ∈ cs) : Lf B n ds w0 w :=
  ⟨fun p hp => h.cells p (hs p hp), fun p hp => h.frz p (hs p hp), fun p hp => h.inn p (hs p hp), h.lt, h.be, h.le⟩
theorem Lf.up {B n m : Nat} {cs : List (Addr × Value)} {w0 w : World} (h : Lf B n cs w0 w) (h1 : n ≤ m) (h2 : m ≤ w.heap.size) : Lf B m cs w0 w :=
  ⟨h.cells, h.frz, fun p hp => Nat.lt_of_lt_of_le (h.inn p hp) h1, h2, h.be, Nat.le_trans h.le h1⟩
/-- the cells of a block -/
def blk (b : Nat) : Nat → List Value → List (Addr × Value)
  | _, [] => []
  | o, v :: vs => (⟨b, o, none⟩, v) :: blk b (o + 1) vs
theorem blk_mem {b o : Nat} {vs : List Value} {p : Addr × Value} (h : p ∈ blk b o vs) : p.1.block = b ∧ ∃ i, ∃ hi : i < vs.length, p = (⟨b, o + i, none⟩, vs[i]) := by
  induction vs generalizing o with
  | nil => cases h
  | cons v vs ih =>
    rcases List.mem_cons.1 h with rfl | h
    · exact ⟨rfl, 0, by simp, by simp⟩
    · obtain ⟨h1, i, hi, rfl⟩ := ih h
      exact ⟨rfl, i + 1, by simp; omega, by simp <;> omega⟩
theorem Lf.push {B n : Nat} {cs : List (Addr × Value)} {w0 w : World} (h : Lf B n cs w0 w) (vs : Array Value) (t : TypeId) : Lf B (w.heap.size + 1) (blk w.heap.size 0 vs.toList ++ cs) w0 (w.alloc (.cells vs t)) := by
  have h' := h.next (w' := w.alloc (.cells vs t)) ((Below.refl _ _).alloc (Nat.le_refl _) _)
  have hl := h.lt
  refine ⟨fun p hp => ?_, fun p hp => ?_, fun p hp => ?_, by simp, h'.be, Nat.le_trans h.le (Nat.le_trans h.lt (Nat.le_succ _))⟩
  · rcases List.mem_append.1 hp with g | g
    · obtain ⟨_, i, hi, rfl⟩ := blk_mem g
      simp at hi
      simp [go_sem, hi]
    · exact h'.cells p g
  · rcases List.mem_append.1 hp with g | g
    · obtain ⟨_, i, hi, rfl⟩ := blk_mem g
      simp at hi
      simp [go_sem]
    · exact h'.frz p g
  · rcases List.mem_append.1 hp with g | g
    · obtain ⟨g, _⟩ := blk_mem g
      omega
    · have := h.inn p g
      omega
/-- a store to the i-th cell of the list -/
theorem Lf.set {B n : Nat} {cs : List (Addr × Value)} {w0 w : World} (h : Lf B n cs w0 w) (i : Nat) (b o : Nat) (v v' : Value) (hi : cs[i]? = some (⟨b, o, none⟩, v)) (hd : ∀ p ∈ cs.eraseIdx i, p.1 ≠ ⟨b, o, none⟩) (hB : B ≤ b) :
    Lf B n (cs.set i (⟨b, o, none⟩, v')) w0 (w.setCell ⟨b, o, none⟩ v') := by
  obtain ⟨hl, he⟩ := List.getElem?_eq_some_iff.1 hi
  have hm : ((⟨b, o, none⟩ : Addr), v) ∈ cs := he ▸ List.getElem_mem hl
  have key : ∀ p ∈ cs.set i (⟨b, o, none⟩, v'), p = (⟨b, o, none⟩, v') ∨ (p ∈ cs ∧ p.1 ≠ ⟨b, o, none⟩) := by
    intro p hp
    obtain ⟨j, hj, rfl⟩ := List.mem_iff_getElem.1 hp
    rw [List.getElem_set]
    split
    · exact Or.inl rfl
    · rename_i hne
      simp at hj
      refine Or.inr ⟨List.getElem_mem _, hd _ ?_⟩
      rw [List.mem_eraseIdx_iff_getElem]
      exact ⟨j, hj, fun e => hne e.symm, rfl⟩
  refine ⟨fun p hp => ?_, fun p hp => ?_, fun p hp => ?_, by simpa using h.lt, h.be.setCell hB _, h.le⟩
  · rcases key p hp with rfl | ⟨g, hne⟩
    · exact World.cell?_setCell_same _ _ _ (h.cells _ hm)
    · exact (World.cell?_setCell_other w ⟨b, o, none⟩ p.1 v' (fun e => hne e.symm)).trans (h.cells p g)
  · rcases key p hp with rfl | ⟨g, hne⟩
    · simpa [go_sem] using h.frz _ hm
    · simpa [go_sem] using h.frz p g
  · rcases key p hp with rfl | ⟨g, hne⟩
    · exact h.inn (⟨b, o, none⟩, v) hm
    · exact h.inn p g
end Go.Proofs.Ytkjjoclbjkpdaaa
