/- Proved here: a point and a spoke that come by value, opened and shut; no conditions. -/
import Derived.Test.YtdjopepipcnmdaaUwT
import Derived.Lib.SmallJoins
import Derived.Laws.IdiomArrays
namespace Go.Proofs.Ytdjopepipcnmdaa
open Go.ChangeShapes Go.WideShapes Go.ChangeAt Go.RowKit Go.Joins
set_option linter.unusedVariables false
theorem cellsN : Try.prog.cellsOf 3 = 1 := by kernel_rfl
theorem cellsA : Try.prog.cellsOf 23 = 3 := by kernel_rfl
theorem under_point : Try.prog.underlying 23 = some (.array 3 3) := by kernel_rfl
theorem open_point {H : Type} {enc : TypeId × Value → H} {W : World} {base b0 : Nat} {r : Reach} {sp : Nat → Bool} {held : Bool} {v : Value} {d : DataW H} {p : List MemPlace}
    (hv : Value.okWide Try.prog W r b0 23 v) (h : DataW.Trod enc Try.prog W base sp held 23 v d p) :
    ∃ x y z : Int, v = .agg #[.int .i64 x, .int .i64 y, .int .i64 z] ∧ d = .agg [.lit (.int .i64 x), .lit (.int .i64 y), .lit (.int .i64 z)] ∧ p = [] ∧ (Lit.int .i64 x).wf = true ∧ (Lit.int .i64 y).wf = true ∧ (Lit.int .i64 z).wf = true := by
  obtain ⟨cs, rfl, hsz, _⟩ : ∃ cs, v = .agg cs ∧ cs.size = Try.prog.cellsOf 23 ∧ Row.okWide Try.prog W r b0 23 cs := by
    simpa [Value.okWide, under_point] using hv
  rw [cellsA] at hsz
  obtain ⟨c0, c1, c2, rfl⟩ := array3 hsz
  obtain ⟨fuel, hf⟩ := h
  obtain ⟨y0, y1, y2, m, hx, h0, h1, h2⟩ := trod_array3 under_point cellsN hf
  obtain ⟨x, e0, rfl, wx⟩ := DataW.trod_int Try.underlying3 h0
  obtain ⟨y, e1, rfl, wy⟩ := DataW.trod_int Try.underlying3 h1
  obtain ⟨z, e2, rfl, wz⟩ := DataW.trod_int Try.underlying3 h2
  simp at e0 e1 e2
  subst e0 e1 e2
  simp only [Prod.mk.injEq] at hx
  obtain ⟨rfl, rfl⟩ := hx
  exact ⟨x, y, z, rfl, rfl, rfl, wx, wy, wz⟩
theorem shut_point {H : Type} {enc : TypeId × Value → H} {W : World} {base : Nat} {sp : Nat → Bool} {held : Bool} {x y z : Int} (wx : (Lit.int .i64 x).wf = true) (wy : (Lit.int .i64 y).wf = true) (wz : (Lit.int .i64 z).wf = true) :
    DataW.Trod enc Try.prog W base sp held 23 (.agg #[.int .i64 x, .int .i64 y, .int .i64 z]) (.agg [.lit (.int .i64 x), .lit (.int .i64 y), .lit (.int .i64 z)]) [] :=
  ⟨2, by simp [DataW.trod, Value.cells, Try.underlying3, cellsA, cellsN, wx, wy, wz, show List.range 3 = [0, 1, 2] from rfl]⟩
end Go.Proofs.Ytdjopepipcnmdaa
