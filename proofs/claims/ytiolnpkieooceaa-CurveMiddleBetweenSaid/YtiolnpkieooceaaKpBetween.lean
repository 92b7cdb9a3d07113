/- Proved here: CurveMiddleBetween returns true for every argument, and leaves its arguments as they were. Conditions: none beyond those of the given row. -/
import Derived.Test.YtiolnpkieooceaaUxT
import Derived.Test.YtiolnpkieooceaaKn3
import Derived.WalkKit
import Derived.ProofKit
import Derived.OpenShut
namespace Go.Proofs.Ytiolnpkieooceaa.curveMiddleBetweenP
open Go.ChangeShapes Go.WideShapes Go.ChangeAt Go.RowKit
set_option linter.unusedVariables false
theorem own : ownKnob Try.prog.godebug = none := by kernel_rfl
set_option maxRecDepth 100000 in
theorem lifted (os : Os) (started : os.Started) (H : Type) (enc : TypeId × Value → H) :
    ReturnsInHanded {} Try.checked os 7 .any (Rows.curveMiddleBetweenSpec.pre6 enc Try.prog Try.f7 Rows.curveMiddleBetweenRow.domain false) (Rows.curveMiddleBetweenSpec.post enc Try.prog Try.f7 false true false false) := by
  refine returnsInHanded_of_change (C := Try.checked) own started (by kernel_rfl) Try.func7
    (ChangeSpec.witness6 (enc := enc) (C := Try.checked) false ⟨#[], #[.agg #[.int .i64 0, .int .i64 0, .int .i64 0, .int .i64 0], .agg #[.int .i64 0, .int .i64 0, .int .i64 0, .int .i64 0], .bool false], []⟩ 8 (by kernel_rfl) (by kernel_rfl) (by kernel_rfl) (by kernel_rfl)) ?_
  intro W base args ds gs before hval0 hW hcnd _
  have hval : ∀ (j : Nat) t v, Try.f7.params[j]? = some t → args[j]? = some v → Value.okWide Try.prog W .any base t v := hval0
  have hW' := hW
  obtain ⟨p, q, hA0, hV, rfl, hfz, hnd⟩ := hW
  have hA : DataW.TrodAll enc Try.prog W 0 (fun _ => true) true Try.f7.params.toList args.toList ds p := hA0
  rw [Try.params7] at hA hval
  obtain ⟨v0, vs0, d0, ds0, p0, q0, hargs, rfl, rfl, h0, r0⟩ := trodAll_cons hA
  obtain ⟨v1, vs1, d1, ds1, p1, q1, rfl, rfl, rfl, h1, r1⟩ := trodAll_cons r0
  obtain ⟨v2, vs2, d2, ds2, p2, q2, rfl, rfl, rfl, h2, r2⟩ := trodAll_cons r1
  obtain ⟨rfl, rfl, rfl⟩ := trodAll_nil r2
  obtain rfl : args = #[v0, v1, v2] := by cases args; simp_all
  obtain ⟨rfl, rfl⟩ := trodVars_none hV
  obtain ⟨a0x, a0y, a0z, a0t, rfl, rfl, rfl, w0x, w0y, w0z, w0t⟩ := open_spoke (hval 0 30 v0 rfl rfl) h0
  have ba0x := bd64 w0x
  have ba0y := bd64 w0y
  have ba0z := bd64 w0z
  have ba0t := bd64 w0t
  obtain ⟨a1x, a1y, a1z, a1t, rfl, rfl, rfl, w1x, w1y, w1z, w1t⟩ := open_spoke (hval 1 30 v1 rfl rfl) h1
  have ba1x := bd64 w1x
  have ba1y := bd64 w1y
  have ba1z := bd64 w1z
  have ba1t := bd64 w1t
  obtain ⟨a2, rfl, rfl, rfl⟩ := open_bool Try.underlying4 (hval 2 4 v2 rfl rfl) h2
  clear hA0 hval0
  simp only [List.append_nil] at hW'
  refine (law_between a0x a0y a0z a0t a1x a1y a1z a1t a2 W ba0x.1 ba0x.2 ba0y.1 ba0y.2 ba0z.1 ba0z.2 ba0t.1 ba0t.2 ba1x.1 ba1x.2 ba1y.1 ba1y.2 ba1z.1 ba1z.2 ba1t.1 ba1t.2).mono fun e W' ⟨he, hg⟩ => ?_
  subst he
  exact ⟨_, rfl, post_kept (pa := []) (pv := []) hW' hg (fun _ _ _ => trodAll_cons_mk (shut_bool Try.underlying4 _) trodAll_mk0) (fun _ _ => (trodAll_cons_mk (shut_spoke w0x w0y w0z w0t) (trodAll_cons_mk (shut_spoke w1x w1y w1z w1t) (trodAll_cons_mk (shut_bool Try.underlying4 a2) trodAll_mk0)))) (fun _ _ => rfl) rfl
    (ok_one (by kernel_rfl) rfl (okWide_bool_mk Try.underlying4 _))⟩
/-- THE STATEMENT -/
theorem proved : Rows.CurveMiddleBetweenSaid :=
  OpenClaim.holds_of_wide 7 Try.f7 rfl rfl rfl rfl rfl rfl rfl ⟨rfl, rfl, rfl, rfl, rfl⟩ rfl rfl rfl rfl rfl (by kernel_rfl) Try.func7 (by kernel_rfl)
    (of_decide_eq_true (by kernel_rfl)) (by unfold Func.isWrapper; first | (rw [if_pos (by decide +kernel)]; kernel_rfl) | (rw [if_neg (by decide +kernel)]; exact ⟨rfl, rfl⟩))
    (fun os started H enc _ => lifted os started H enc)
#print axioms proved
end Go.Proofs.Ytiolnpkieooceaa.curveMiddleBetweenP
