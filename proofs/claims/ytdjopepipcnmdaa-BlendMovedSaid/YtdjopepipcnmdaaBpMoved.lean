/- Proved here: BlendMoved returns true for every argument, and leaves its arguments as they were. Conditions: none beyond those of the given row. -/
import Derived.Test.YtdjopepipcnmdaaUpT
import Derived.Test.YtdjopepipcnmdaaBm6
import Derived.WalkKit
import Derived.ProofKit
import Derived.OpenShut
namespace Go.Proofs.Ytdjopepipcnmdaa.blendMovedP
open Go.ChangeShapes Go.WideShapes Go.ChangeAt Go.RowKit
set_option linter.unusedVariables false
theorem own : ownKnob Try.prog.godebug = none := by kernel_rfl
set_option maxRecDepth 100000 in
theorem lifted (os : Os) (started : os.Started) (H : Type) (enc : TypeId × Value → H) :
    ReturnsInHanded {} Try.checked os 11 .any (Rows.blendMovedSpec.pre6 enc Try.prog Try.f11 Rows.blendMovedRow.domain false) (Rows.blendMovedSpec.post enc Try.prog Try.f11 false true false false) := by
  refine returnsInHanded_of_change (C := Try.checked) own started (by kernel_rfl) Try.func11
    (ChangeSpec.witness6 (enc := enc) (C := Try.checked) false ⟨#[], #[.agg #[.int .i64 0, .int .i64 0, .int .i64 0], .agg #[.int .i64 0, .int .i64 0, .int .i64 0], .agg #[.int .i64 0, .int .i64 0, .int .i64 0], .agg #[.int .i64 0, .int .i64 0, .int .i64 0], .int .i64 0], []⟩ 8 (by kernel_rfl) (by kernel_rfl) (by kernel_rfl) (by kernel_rfl)) ?_
  intro W base args ds gs before hval0 hW hcnd _
  have hval : ∀ (j : Nat) t v, Try.f11.params[j]? = some t → args[j]? = some v → Value.okWide Try.prog W .any base t v := hval0
  have hW' := hW
  obtain ⟨p, q, hA0, hV, rfl, hfz, hnd⟩ := hW
  have hA : DataW.TrodAll enc Try.prog W 0 (fun _ => true) true Try.f11.params.toList args.toList ds p := hA0
  rw [Try.params11] at hA hval
  obtain ⟨v0, vs0, d0, ds0, p0, q0, hargs, rfl, rfl, h0, r0⟩ := trodAll_cons hA
  obtain ⟨v1, vs1, d1, ds1, p1, q1, rfl, rfl, rfl, h1, r1⟩ := trodAll_cons r0
  obtain ⟨v2, vs2, d2, ds2, p2, q2, rfl, rfl, rfl, h2, r2⟩ := trodAll_cons r1
  obtain ⟨v3, vs3, d3, ds3, p3, q3, rfl, rfl, rfl, h3, r3⟩ := trodAll_cons r2
  obtain ⟨v4, vs4, d4, ds4, p4, q4, rfl, rfl, rfl, h4, r4⟩ := trodAll_cons r3
  obtain ⟨rfl, rfl, rfl⟩ := trodAll_nil r4
  obtain rfl : args = #[v0, v1, v2, v3, v4] := by cases args; simp_all
  obtain ⟨rfl, rfl⟩ := trodVars_none hV
  obtain ⟨a0x, a0y, a0z, rfl, rfl, rfl, w0x, w0y, w0z⟩ := open_point (hval 0 23 v0 rfl rfl) h0
  have ba0x := bd64 w0x
  have ba0y := bd64 w0y
  have ba0z := bd64 w0z
  obtain ⟨a1x, a1y, a1z, rfl, rfl, rfl, w1x, w1y, w1z⟩ := open_point (hval 1 23 v1 rfl rfl) h1
  have ba1x := bd64 w1x
  have ba1y := bd64 w1y
  have ba1z := bd64 w1z
  obtain ⟨a2x, a2y, a2z, rfl, rfl, rfl, w2x, w2y, w2z⟩ := open_point (hval 2 23 v2 rfl rfl) h2
  have ba2x := bd64 w2x
  have ba2y := bd64 w2y
  have ba2z := bd64 w2z
  obtain ⟨a3x, a3y, a3z, rfl, rfl, rfl, w3x, w3y, w3z⟩ := open_point (hval 3 23 v3 rfl rfl) h3
  have ba3x := bd64 w3x
  have ba3y := bd64 w3y
  have ba3z := bd64 w3z
  obtain ⟨a4, rfl, rfl, rfl, w4⟩ := open_int Try.underlying3 (hval 4 3 v4 rfl rfl) h4
  have b4 := bd64 w4
  clear hA0 hval0
  simp only [List.append_nil] at hW'
  refine (law_BlendMoved a0x a0y a0z a1x a1y a1z a2x a2y a2z a3x a3y a3z a4 W ba0x.1 ba0x.2 ba0y.1 ba0y.2 ba0z.1 ba0z.2 ba1x.1 ba1x.2 ba1y.1 ba1y.2 ba1z.1 ba1z.2 ba2x.1 ba2x.2 ba2y.1 ba2y.2 ba2z.1 ba2z.2 ba3x.1 ba3x.2 ba3y.1 ba3y.2 ba3z.1 ba3z.2 b4.1 b4.2).mono fun e W' ⟨he, hg⟩ => ?_
  subst he
  exact ⟨_, rfl, post_kept (pa := []) (pv := []) hW' hg (fun _ _ _ => trodAll_cons_mk (shut_bool Try.underlying4 _) trodAll_mk0) (fun _ _ => (trodAll_cons_mk (shut_point w0x w0y w0z) (trodAll_cons_mk (shut_point w1x w1y w1z) (trodAll_cons_mk (shut_point w2x w2y w2z) (trodAll_cons_mk (shut_point w3x w3y w3z) (trodAll_cons_mk (shut_int Try.underlying3 w4) trodAll_mk0)))))) (fun _ _ => rfl) rfl
    (ok_one (by kernel_rfl) rfl (okWide_bool_mk Try.underlying4 _))⟩
/-- THE STATEMENT -/
theorem proved : Rows.BlendMovedSaid :=
  OpenClaim.holds_of_wide 11 Try.f11 rfl rfl rfl rfl rfl rfl rfl ⟨rfl, rfl, rfl, rfl, rfl⟩ rfl rfl rfl rfl rfl (by kernel_rfl) Try.func11 (by kernel_rfl)
    (of_decide_eq_true (by kernel_rfl)) (by unfold Func.isWrapper; first | (rw [if_pos (by decide +kernel)]; kernel_rfl) | (rw [if_neg (by decide +kernel)]; exact ⟨rfl, rfl⟩))
    (fun os started H enc _ => lifted os started H enc)
#print axioms proved
end Go.Proofs.Ytdjopepipcnmdaa.blendMovedP
