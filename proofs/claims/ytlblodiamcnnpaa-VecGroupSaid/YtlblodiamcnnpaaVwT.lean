/- Proved here: a vector and a point that come by value, opened and shut; no conditions. -/
import Derived.Test.YtlblodiamcnnpaaUwT
import Derived.Lib.SmallJoins
namespace Go.Proofs.Ytlblodiamcnnpaa
open Go.ChangeShapes Go.WideShapes Go.ChangeAt Go.RowKit Go.Joins
set_option linter.unusedVariables false
theorem cellsI : Try.prog.cellsOf 3 = 1 := by kernel_rfl
theorem cellsV : Try.prog.cellsOf 23 = 3 := by kernel_rfl
theorem cellsP : Try.prog.cellsOf 33 = 2 := by kernel_rfl
theorem open_vec {H : Type} {enc : TypeId × Value → H} {W : World} {base b0 : Nat} {r : Reach} {sp : Nat → Bool} {held : Bool} {v : Value} {d : DataW H} {p : List MemPlace}
    (hv : Value.okWide Try.prog W r b0 23 v) (h : DataW.Trod enc Try.prog W base sp held 23 v d p) :
    ∃ x y z : Int, v = .agg #[.int .i64 x, .int .i64 y, .int .i64 z] ∧ d = .agg [.lit (.int .i64 x), .lit (.int .i64 y), .lit (.int .i64 z)] ∧ p = [] ∧ (Lit.int .i64 x).wf = true ∧ (Lit.int .i64 y).wf = true ∧ (Lit.int .i64 z).wf = true := by
  obtain ⟨c0, c1, c2, y0, y1, y2, m, rfl, rfl, rfl, h0, h1, h2⟩ := open_agg3 Try.underlying23 (by kernel_rfl) cellsV hv h
  obtain ⟨x, e0, rfl, wx⟩ := DataW.trod_int Try.underlying3 h0
  obtain ⟨y, e1, rfl, wy⟩ := DataW.trod_int Try.underlying3 h1
  obtain ⟨z, e2, rfl, wz⟩ := DataW.trod_int Try.underlying3 h2
  simp at e0 e1 e2
  subst e0 e1 e2
  exact ⟨x, y, z, rfl, rfl, rfl, wx, wy, wz⟩
theorem shut_vec {H : Type} {enc : TypeId × Value → H} {W : World} {base : Nat} {sp : Nat → Bool} {held : Bool} {x y z : Int} (wx : (Lit.int .i64 x).wf = true) (wy : (Lit.int .i64 y).wf = true) (wz : (Lit.int .i64 z).wf = true) :
    DataW.Trod enc Try.prog W base sp held 23 (.agg #[.int .i64 x, .int .i64 y, .int .i64 z]) (.agg [.lit (.int .i64 x), .lit (.int .i64 y), .lit (.int .i64 z)]) [] :=
  shut_agg3 (y0 := (.lit (.int .i64 x), [])) (y1 := (.lit (.int .i64 y), [])) (y2 := (.lit (.int .i64 z), [])) Try.underlying23 (by kernel_rfl) cellsV ⟨1, by simp [DataW.trod, Try.underlying3, wx]⟩ ⟨1, by simp [DataW.trod, Try.underlying3, wy]⟩ ⟨1, by simp [DataW.trod, Try.underlying3, wz]⟩
theorem open_pt {H : Type} {enc : TypeId × Value → H} {W : World} {base b0 : Nat} {r : Reach} {sp : Nat → Bool} {held : Bool} {v : Value} {d : DataW H} {p : List MemPlace}
    (hv : Value.okWide Try.prog W r b0 33 v) (h : DataW.Trod enc Try.prog W base sp held 33 v d p) :
    ∃ x y : Int, v = .agg #[.int .i64 x, .int .i64 y] ∧ d = .agg [.lit (.int .i64 x), .lit (.int .i64 y)] ∧ p = [] ∧ (Lit.int .i64 x).wf = true ∧ (Lit.int .i64 y).wf = true := by
  obtain ⟨c0, c1, y0, y1, m, rfl, rfl, rfl, h0, h1⟩ := open_agg2 Try.underlying33 (by kernel_rfl) cellsP hv h
  obtain ⟨x, e0, rfl, wx⟩ := DataW.trod_int Try.underlying3 h0
  obtain ⟨y, e1, rfl, wy⟩ := DataW.trod_int Try.underlying3 h1
  simp at e0 e1
  subst e0 e1
  exact ⟨x, y, rfl, rfl, rfl, wx, wy⟩
theorem shut_pt {H : Type} {enc : TypeId × Value → H} {W : World} {base : Nat} {sp : Nat → Bool} {held : Bool} {x y : Int} (wx : (Lit.int .i64 x).wf = true) (wy : (Lit.int .i64 y).wf = true) :
    DataW.Trod enc Try.prog W base sp held 33 (.agg #[.int .i64 x, .int .i64 y]) (.agg [.lit (.int .i64 x), .lit (.int .i64 y)]) [] :=
  shut_agg2 (y0 := (.lit (.int .i64 x), [])) (y1 := (.lit (.int .i64 y), [])) Try.underlying33 (by kernel_rfl) cellsP ⟨1, by simp [DataW.trod, Try.underlying3, wx]⟩ ⟨1, by simp [DataW.trod, Try.underlying3, wy]⟩
end Go.Proofs.Ytlblodiamcnnpaa
