/- Proved here: what the frames of the claims share: the bounds of an integer that was read, and the end of a row whose call leaves all blocks that there were; no conditions. · a list of numbers, as an argument, can be read; no conditions. -/
import Derived.Test.YtkjjoclbjkpdaaaRows
import Derived.WalkKit
import Derived.ProofKit
import Derived.OpenShut
import Derived.Below
import Derived.ChangeSame
import Derived.Test.YtkjjoclbjkpdaaaNd8J
import Derived.ChangeSlices
import Derived.Carry
namespace Go.Proofs.Ytkjjoclbjkpdaaa
open Go.ChangeShapes Go.WideShapes Go.ChangeAt Go.RowKit
set_option linter.unusedVariables false
theorem bd64 {a : Int} (h : (Lit.int .i64 a).wf = true) : -9223372036854775808 ≤ a ∧ a ≤ 9223372036854775807 := bounds_i64 h
/- the end of a row whose call has left all blocks that there were -/
theorem post_kept {H : Type} {enc : TypeId × Value → H} {P : Program} {f : Func} {s : ChangeSpec} {apart fresh handsOn again : Bool} {W W' : World} {args : Array Value} {v : Value} {ds gs : List (DataW H)} {before pa pv : List MemPlace}
    (hW : DataW.Whole enc P f.params.toList s.vars apart W args.toList ds gs before) (hb : Below W.heap.size W W')
    (hres : ∀ (b : Nat) (sp : Nat → Bool) (hd : Bool), DataW.TrodAll enc P W' b sp hd f.resultTypes.toList (v.resultList f.resultTypes.size) (s.fn H (ds ++ gs)).results [])
    (hargs : ∀ sp : Nat → Bool, (∀ p ∈ before, sp p.block = true) → DataW.TrodAll enc P W' 0 sp true f.params.toList args.toList (s.fn H (ds ++ gs)).args pa)
    (hvars : ∀ sp : Nat → Bool, (∀ p ∈ before, sp p.block = true) → DataW.TrodVars enc P W' sp s.vars (s.fn H (ds ++ gs)).vars pv)
    (hps : before = pa ++ pv)
    (hok : ∀ (j : Nat) (t : TypeId) (r : Value), f.resultTypes[j]? = some t → (v.resultList f.resultTypes.size)[j]? = some r → Value.okWide P W' .any 0 t r) :
    s.post enc P f apart fresh handsOn again W args v W' := by
  have lt : ∀ p ∈ before, p.block < W.heap.size := fun p hp => hW.lt p hp
  have old : ∀ p ∈ before, (fun b => decide (b < W.heap.size)) p.block = true := fun p hp => decide_eq_true (lt p hp)
  have split : ∀ p, p ∈ before → p ∈ pa ∨ p ∈ pv := fun p hp => List.mem_append.1 (hps ▸ hp)
  refine ⟨ds, gs, before, [], pa, pv, hW, hres _ _ _, hargs _ old, hvars _ old, World.keptBut_mono (fun p hp => ⟨hp, Or.inr (split p hp)⟩) (hb.frame (· ∈ before)), fun _ => ?_⟩
  obtain ⟨_, _, _, _, _, hz, hn⟩ := hW
  refine ⟨hok, _, _, ([] ++ pa) ++ pv, ⟨[] ++ pa, pv, trodAll_append (hargs _ (fun _ _ => rfl)) (hres _ _ _), hvars _ (fun _ _ => rfl), rfl, fun b off hp => ?_, fun ha => ?_⟩, ?_⟩
  · have hin : MemPlace.cell b off ∈ before := by rw [hps]; simpa using hp
    rw [hb.frozen (lt _ hin)]
    exact hz b off hin
  · have h := hn ha
    rw [hps] at h
    simpa using h
  · intro p hp _
    rw [hps]
    simpa using hp
end Go.Proofs.Ytkjjoclbjkpdaaa
namespace Go.Proofs.Ytkjjoclbjkpdaaa
open Go.ChangeShapes Go.WideShapes Go.ChangeAt Go.RowKit
set_option linter.unusedVariables false
theorem cell_lt {W : World} {a : Addr} {v : Value} (h : W.cell? a = some v) : a.block < W.heap.size := by
  cases hb : W.heap[a.block]? with
  | none => simp [World.cell?, hb] at h
  | some o => exact (Array.getElem?_eq_some_iff.1 hb).1
set_option maxRecDepth 100000 in
theorem ns_of {H : Type} {enc : TypeId × Value → H} {W : World} {v : Value} {d : DataW H} {ps : List MemPlace} {base : Nat}
    (hok : Value.okWide Try.prog W .any base 22 v) (h : DataW.Trod enc Try.prog W 0 (fun _ => true) true 22 v d ps) : Ns W.heap.size v W := by
  obtain ⟨a0, len, cap, rfl⟩ := okWide_slice Try.underlying22 hok
  obtain ⟨fuel, hf⟩ := h
  rcases open_ints Try.underlying22 Try.underlying3 (by kernel_rfl) hf with ⟨hcs, hx⟩ | ⟨a, len', cap', zs, hcs, _, hl, hm, hz, hx, hcell, hwz⟩
  · simp [Value.cells] at hcs
    obtain ⟨rfl, rfl, rfl⟩ := hcs
    exact ⟨none, 0, 0, rfl, Nat.zero_le _, fun j hj => absurd hj (by omega)⟩
  · simp [Value.cells] at hcs
    obtain ⟨rfl, rfl, rfl⟩ := hcs
    simp only [if_true] at hz
    refine ⟨some a, len, cap, rfl, Nat.le_trans hl hm, fun j hj => ⟨a, zs.getD j 0, rfl, ?_, hcell j (by omega), ?_⟩⟩
    · have := cell_lt (hcell j (by omega))
      rwa [add_block] at this
    · refine bd64 (hwz _ ?_)
      have hj' : j < zs.length := by omega
      rw [show zs.getD j 0 = zs[j] by simp [List.getD, hj']]
      exact List.getElem_mem hj'
end Go.Proofs.Ytkjjoclbjkpdaaa
