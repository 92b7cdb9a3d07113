/- Proved here: a class of worlds in which given cells hold given values, and its tactics; a call that leaves all blocks alone stays in it. -/
import Derived.Test.YtdjopepipcnmdaaUwQ
namespace Go.Proofs.Ytdjopepipcnmdaa
open Go.RowKit
set_option linter.unusedVariables false
set_option linter.unusedSimpArgs false
/-- a class of worlds: in each the cells of the list hold its values; all lie below n; blocks below B are those of w0 -/
structure Lay (B n : Nat) (cs : List (Addr × Value)) (w0 w : World) : Prop where
  cells : ∀ p ∈ cs, w.cell? p.1 = some p.2
  inn : ∀ p ∈ cs, p.1.block < n
  lt : n ≤ w.heap.size
  be : Below B w0 w
  le : B ≤ n
theorem Lay.next {B n : Nat} {cs : List (Addr × Value)} {w0 w w' : World} (h : Lay B n cs w0 w) (hb : Below w.heap.size w w') : Lay B n cs w0 w' :=
  ⟨fun p hp => (hb.cell (Nat.lt_of_lt_of_le (h.inn p hp) h.lt)).trans (h.cells p hp), h.inn, Nat.le_trans h.lt hb.size, h.be.trans (hb.mono (Nat.le_trans h.le h.lt)), h.le⟩
theorem Lay.base {B n : Nat} {cs : List (Addr × Value)} {w0 w : World} (h : Lay B n cs w0 w) : Lay w.heap.size w.heap.size cs w w :=
  ⟨h.cells, fun p hp => Nat.lt_of_lt_of_le (h.inn p hp) h.lt, Nat.le_refl _, Below.refl _ _, Nat.le_refl _⟩
theorem Calls.lays {P : Program} {f : FuncId} {args : Array Value} {w : World} {v : Value} {C : World → Prop} (h : Calls P f args w fun e w' => e = .returned v ∧ Below w.heap.size w w') (hC : ∀ w', Below w.heap.size w w' → C w') : Calls P f args w fun e w' => e = .returned v ∧ C w' :=
  h.mono fun e w' ⟨he, hb⟩ => ⟨he, hC w' hb⟩
theorem Calls.layq {P : Program} {f : FuncId} {args : Array Value} {w : World} {v : Value} {C : World → Prop} (h : Calls P f args w fun e w' => e = .returned v ∧ w = w') (hC : C w) : Calls P f args w fun e w' => e = .returned v ∧ C w' :=
  h.mono fun e w' ⟨he, hb⟩ => ⟨he, hb ▸ hC⟩
end Go.Proofs.Ytdjopepipcnmdaa
