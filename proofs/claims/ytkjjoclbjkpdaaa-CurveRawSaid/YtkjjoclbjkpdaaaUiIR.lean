/- Proved here: what the frames of the claims share: the bounds of an integer that was read, and the end of a row whose call leaves all blocks that there were; no conditions. · an item, as an argument, is made of 22 cells; no conditions. -/
import Derived.Test.YtkjjoclbjkpdaaaRows
import Derived.WalkKit
import Derived.ProofKit
import Derived.OpenShut
import Derived.Below
import Derived.ChangeSame
import Derived.Test.YtkjjoclbjkpdaaaNv4R
import Derived.Carry
namespace Go.Proofs.Ytkjjoclbjkpdaaa
open Go.ChangeShapes Go.WideShapes Go.ChangeAt Go.RowKit
set_option linter.unusedVariables false
theorem bd64 {a : Int} (h : (Lit.int .i64 a).wf = true) : -9223372036854775808 ≤ a ∧ a ≤ 9223372036854775807 := bounds_i64 h
/- the end of a row whose call has left all blocks that there were -/
theorem post_kept {H : Type} {enc : TypeId × Value → H} {P : Program} {f : Func} {s : ChangeSpec} {apart fresh handsOn again : Bool} {W W' : World} {args : Array Value} {v : Value} {ds gs : List (DataW H)} {before pa pv : List MemPlace}
    (hW : DataW.Whole enc P f.params.toList s.vars apart W args.toList ds gs before) (hb : Below W.heap.size W W')
    (hres : ∀ (b : Nat) (sp : Nat → Bool) (hd : Bool), DataW.TrodAll enc P W' b sp hd f.resultTypes.toList (v.resultList f.resultTypes.size) (s.fn H (ds ++ gs)).results [])
    (hargs : ∀ sp : Nat → Bool, (∀ p ∈ before, sp p.block = true) → DataW.TrodAll enc P W' 0 sp true f.params.toList args.toList (s.fn H (ds ++ gs)).args pa)
    (hvars : ∀ sp : Nat → Bool, (∀ p ∈ before, sp p.block = true) → DataW.TrodVars enc P W' sp s.vars (s.fn H (ds ++ gs)).vars pv)
    (hps : before = pa ++ pv)
    (hok : ∀ (j : Nat) (t : TypeId) (r : Value), f.resultTypes[j]? = some t → (v.resultList f.resultTypes.size)[j]? = some r → Value.okWide P W' .any 0 t r) :
    s.post enc P f apart fresh handsOn again W args v W' := by
  have lt : ∀ p ∈ before, p.block < W.heap.size := fun p hp => hW.lt p hp
  have old : ∀ p ∈ before, (fun b => decide (b < W.heap.size)) p.block = true := fun p hp => decide_eq_true (lt p hp)
  have split : ∀ p, p ∈ before → p ∈ pa ∨ p ∈ pv := fun p hp => List.mem_append.1 (hps ▸ hp)
  refine ⟨ds, gs, before, [], pa, pv, hW, hres _ _ _, hargs _ old, hvars _ old, World.keptBut_mono (fun p hp => ⟨hp, Or.inr (split p hp)⟩) (hb.frame (· ∈ before)), fun _ => ?_⟩
  obtain ⟨_, _, _, _, _, hz, hn⟩ := hW
  refine ⟨hok, _, _, ([] ++ pa) ++ pv, ⟨[] ++ pa, pv, trodAll_append (hargs _ (fun _ _ => rfl)) (hres _ _ _), hvars _ (fun _ _ => rfl), rfl, fun b off hp => ?_, fun ha => ?_⟩, ?_⟩
  · have hin : MemPlace.cell b off ∈ before := by rw [hps]; simpa using hp
    rw [hb.frozen (lt _ hin)]
    exact hz b off hin
  · have h := hn ha
    rw [hps] at h
    simpa using h
  · intro p hp _
    rw [hps]
    simpa using hp
end Go.Proofs.Ytkjjoclbjkpdaaa
namespace Go.Proofs.Ytkjjoclbjkpdaaa
open Go.ChangeShapes Go.WideShapes Go.ChangeAt Go.RowKit
set_option linter.unusedVariables false
theorem array22 {α : Type} {cs : Array α} (h : cs.size = 22) : ∃ c0 c1 c2 c3 c4 c5 c6 c7 c8 c9 c10 c11 c12 c13 c14 c15 c16 c17 c18 c19 c20 c21, cs = #[c0, c1, c2, c3, c4, c5, c6, c7, c8, c9, c10, c11, c12, c13, c14, c15, c16, c17, c18, c19, c20, c21] := by
  obtain ⟨l⟩ := cs
  match l, h with
  | [c0, c1, c2, c3, c4, c5, c6, c7, c8, c9, c10, c11, c12, c13, c14, c15, c16, c17, c18, c19, c20, c21], _ => exact ⟨c0, c1, c2, c3, c4, c5, c6, c7, c8, c9, c10, c11, c12, c13, c14, c15, c16, c17, c18, c19, c20, c21, rfl⟩
set_option maxRecDepth 100000 in
theorem cell_int {W : World} {base : Nat} {v : Value} (h : Cell.okWide Try.prog W .any base 3 v) : ∃ x, v = .int .i64 x := by
  unfold Cell.okWide at h
  rw [Try.underlying3] at h
  cases v <;> simp_all [Cell.ok, Try.underlying3]
set_option maxRecDepth 100000 in
theorem cell_bool {W : World} {base : Nat} {v : Value} (h : Cell.okWide Try.prog W .any base 4 v) : ∃ x, v = .bool x := by
  unfold Cell.okWide at h
  rw [Try.underlying4] at h
  cases v <;> simp_all [Cell.ok, Try.underlying4]
set_option maxRecDepth 100000 in
theorem item_of {W : World} {v : Value} {base : Nat} (hok : Value.okWide Try.prog W .any base 27 v) : ∃ t : Itm, v = .agg (itL t).toArray := by
  obtain ⟨cs, rfl, hsz, ts, hts, _, hc⟩ : ∃ cs, v = .agg cs ∧ cs.size = Try.prog.cellsOf 27 ∧ Row.okWide Try.prog W .any base 27 cs := by
    simpa [Value.okWide, Try.underlying27] using hok
  rw [show Try.prog.cellsOf 27 = 22 by kernel_rfl] at hsz
  have e : Try.prog.cellTypes Try.prog.depth 27 = some [3, 3, 3, 3, 3, 3, 3, 3, 3, 3, 3, 3, 3, 4, 3, 4, 3, 3, 3, 3, 3, 4] := by kernel_rfl
  rw [e] at hts
  obtain rfl := (Option.some.inj hts).symm
  obtain ⟨c0, c1, c2, c3, c4, c5, c6, c7, c8, c9, c10, c11, c12, c13, c14, c15, c16, c17, c18, c19, c20, c21, rfl⟩ := array22 hsz
  have ki : ∀ (i : Nat) (v : Value), (#[c0, c1, c2, c3, c4, c5, c6, c7, c8, c9, c10, c11, c12, c13, c14, c15, c16, c17, c18, c19, c20, c21] : Array Value)[i]? = some v → [3, 3, 3, 3, 3, 3, 3, 3, 3, 3, 3, 3, 3, 4, 3, 4, 3, 3, 3, 3, 3, 4][i % 22]? = some 3 → ∃ x, v = .int .i64 x := by
    intro i v hv hu
    obtain ⟨u, hu2, hk⟩ := hc i v hv
    have : some u = some 3 := hu2.symm.trans hu
    rw [Option.some.inj this] at hk
    exact cell_int hk
  have kb : ∀ (i : Nat) (v : Value), (#[c0, c1, c2, c3, c4, c5, c6, c7, c8, c9, c10, c11, c12, c13, c14, c15, c16, c17, c18, c19, c20, c21] : Array Value)[i]? = some v → [3, 3, 3, 3, 3, 3, 3, 3, 3, 3, 3, 3, 3, 4, 3, 4, 3, 3, 3, 3, 3, 4][i % 22]? = some 4 → ∃ x, v = .bool x := by
    intro i v hv hu
    obtain ⟨u, hu2, hk⟩ := hc i v hv
    have : some u = some 4 := hu2.symm.trans hu
    rw [Option.some.inj this] at hk
    exact cell_bool hk
  obtain ⟨x0, rfl⟩ := ki 0 _ rfl rfl
  obtain ⟨x1, rfl⟩ := ki 1 _ rfl rfl
  obtain ⟨x2, rfl⟩ := ki 2 _ rfl rfl
  obtain ⟨x3, rfl⟩ := ki 3 _ rfl rfl
  obtain ⟨x4, rfl⟩ := ki 4 _ rfl rfl
  obtain ⟨x5, rfl⟩ := ki 5 _ rfl rfl
  obtain ⟨x6, rfl⟩ := ki 6 _ rfl rfl
  obtain ⟨x7, rfl⟩ := ki 7 _ rfl rfl
  obtain ⟨x8, rfl⟩ := ki 8 _ rfl rfl
  obtain ⟨x9, rfl⟩ := ki 9 _ rfl rfl
  obtain ⟨x10, rfl⟩ := ki 10 _ rfl rfl
  obtain ⟨x11, rfl⟩ := ki 11 _ rfl rfl
  obtain ⟨x12, rfl⟩ := ki 12 _ rfl rfl
  obtain ⟨x13, rfl⟩ := kb 13 _ rfl rfl
  obtain ⟨x14, rfl⟩ := ki 14 _ rfl rfl
  obtain ⟨x15, rfl⟩ := kb 15 _ rfl rfl
  obtain ⟨x16, rfl⟩ := ki 16 _ rfl rfl
  obtain ⟨x17, rfl⟩ := ki 17 _ rfl rfl
  obtain ⟨x18, rfl⟩ := ki 18 _ rfl rfl
  obtain ⟨x19, rfl⟩ := ki 19 _ rfl rfl
  obtain ⟨x20, rfl⟩ := ki 20 _ rfl rfl
  obtain ⟨x21, rfl⟩ := kb 21 _ rfl rfl
  exact ⟨⟨x0, x1, x2, x3, x4, x5, x6, x7, x8, x9, x10, x11, x12, x13, x14, x15, x16, x17, x18, x19, x20, x21⟩, rfl⟩
end Go.Proofs.Ytkjjoclbjkpdaaa
