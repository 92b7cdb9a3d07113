/- Proved here: pieces of the reference returns the spokes of a piece, at any number of halvings; ranges as stated. -/
import Derived.Test.YtkjjoclbjkpdaaaNa4J
import Derived.BigQuiet
namespace Go.Proofs.Ytkjjoclbjkpdaaa
open Go.RowKit
set_option linter.unusedVariables false
set_option linter.unusedSimpArgs false
/-- cells below a row stay when the row grows -/
theorem Lf.row {B n : Nat} {v : Value} {cs : List (Addr × Value)} {w0 w w' : World} (h : Lf B n cs w0 w) (hg : w.grownBy w' v.ownBlock) (hv : ∀ k, v.ownBlock = some k → n ≤ k) : Lf B n cs w0 w' :=
  h.chg (cb := n) (v := v) ((Chg.refl n v w).grown hg) (fun p hp => by have := h.inn p hp; omega) (fun p hp e => by have := h.inn p hp; have := hv _ e; omega) h.le (fun k e => Nat.le_trans h.le (hv k e))
theorem row_le {w : World} {base base' size n : Nat} {e : TypeId} {v : Value} {xs : List Value} (h : w.ownsRow base e size v n xs) (hb : base' ≤ base) : w.ownsRow base' e size v n xs :=
  ⟨h.1, h.2.imp_right fun ⟨g, cap, cur, h1, h2, h3⟩ => ⟨g, cap, cur, h1, Nat.le_trans hb h2, h3⟩⟩
theorem ownsRow_nx {B : Nat} {e : TypeId} {k : Nat} {v : Value} {n : Nat} {xs : List Value} {w w' : World} (h : w.ownsRow B e k v n xs) (hb : Below w.heap.size w w') : w'.ownsRow B e k v n xs :=
  h.kept (row := none) ⟨hb.os, hb.tape, hb.output, hb.size, fun q hk _ => hb.block q hk⟩ (by cases v.ownBlock <;> simp)
end Go.Proofs.Ytkjjoclbjkpdaaa
