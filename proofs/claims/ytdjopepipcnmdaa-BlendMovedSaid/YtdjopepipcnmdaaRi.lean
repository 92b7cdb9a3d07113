/- Proved here: a region that draws its order, by an invariant over what has been carried out; frames that agree but in some slots; no conditions. -/
import Derived.WalkKit
import Derived.ProofKit
import Derived.Orders
import Derived.Below
import Derived.Test.YtdjopepipcnmdaaBk1
namespace Go.Proofs.Ytdjopepipcnmdaa
open Go.RowKit
set_option linter.unusedVariables false
set_option linter.unusedSimpArgs false
theorem ready_all {md : Region.Mode} {l : List Oper} {listed : Array Bool} (hz : listed.size = l.length) (hord : ∀ (i : Nat) (o : Oper), l[i]? = some o → ∀ e ∈ o.after, e.on < i)
    (hr : Region.ready md l.toArray listed = []) : ∀ i, i < l.length → listed.getD i false = true := by
  intro i
  induction i using Nat.strongRecOn with
  | _ i ih =>
    intro hi
    cases hb : listed.getD i false
    · exfalso
      have ho : l[i]? = some l[i] := List.getElem?_eq_getElem hi
      have : i ∈ Region.ready md l.toArray listed := by
        refine mem_ready.2 ⟨?_, l[i], by simp [ho], fun e he _ => ih e.on (hord i _ ho e he) (Nat.lt_trans (hord i _ ho e he) hi)⟩
        simp [Array.getD, hz, hi] at hb ⊢
        exact hb
      rw [hr] at this
      cases this
    · rfl
theorem getD_or (listed : Array Bool) (i : Nat) (hi : i < listed.size) : (fun k => (listed.setIfInBounds i true).getD k false) = fun k => k == i || listed.getD k false := by
  funext k
  simp only [Array.getD_eq_getD_getElem?, Array.getElem?_setIfInBounds]
  by_cases h : k = i
  · subst h; simp [hi]
  · rw [if_neg (fun e => h e.symm)]; simp [h]
theorem count_or (listed : Array Bool) (i : Nat) (hi : i < listed.size) (hf : listed.getD i true = false) : (listed.setIfInBounds i true).toList.count true = listed.toList.count true + 1 := by
  simp [Array.getD, hi] at hf
  rw [Array.toList_setIfInBounds, List.count_set (by simpa using hi)]
  simp [hf]
theorem wpAny_inv {P : Program} {l : List Oper} {Q : Exit → Act → World → Prop} (I : (Nat → Bool) → Act → World → Prop)
    (hord : ∀ (i : Nat) (o : Oper), l[i]? = some o → ∀ e ∈ o.after, e.on < i) (hgd : ∀ (i : Nat) (o : Oper), l[i]? = some o → o.guard = none)
    (hs : ∀ (i : Nat) (o : Oper), l[i]? = some o → ∀ (L : Nat → Bool) a w, I L a w → L i = false → (∀ e ∈ o.after, Region.binds .any e = true → L e.on = true) → ∀ K : Act → World → Prop, (∀ a' w', I (fun k => k == i || L k) a' w' → K a' w') → o.wp P a w K Q)
    (hQ : ∀ L a w, I L a w → (∀ i, i < l.length → L i = true) → Q .normal a w) :
    ∀ (fuel : Nat) (listed : Array Bool) (a : Act) (w : World), listed.size = l.length → listed.toList.count true + fuel = l.length → I (fun k => listed.getD k false) a w → wpAny P .any l.toArray Q fuel listed a w
  | 0, listed, a, w, hz, hc, hI => by
    have hall : ∀ b ∈ listed.toList, true = b := List.count_eq_length.1 (by simpa [hz] using hc)
    have hl : ∀ i, i < l.length → listed.getD i false = true := fun i hi => by
      have := hall (listed[i]'(by omega)) (by simp)
      simp [Array.getD, hz, hi, ← this]
    refine ⟨List.eq_nil_iff_forall_not_mem.2 fun i hi => ?_, hQ _ a w hI hl⟩
    obtain ⟨h0, o, ho, _⟩ := mem_ready.1 hi
    have hlt : i < l.length := by have := (Array.getElem?_eq_some_iff.1 ho).1; simpa using this
    have := hl i hlt
    simp [Array.getD, hz, hlt] at h0 this
    rw [h0] at this; cases this
  | fuel + 1, listed, a, w, hz, hc, hI => by
    refine ⟨fun hr => hQ _ a w hI (ready_all hz hord hr), fun i hi => ?_⟩
    obtain ⟨h0, o, ho, hall⟩ := mem_ready.1 hi
    have hlt : i < l.length := by have := (Array.getElem?_eq_some_iff.1 ho).1; simpa using this
    have ho' : l[i]? = some o := by simpa using ho
    have hd : listed.getD i false = false := by simpa [Array.getD, hz, hlt] using h0
    unfold wpOp
    simp only [ho]
    have hw : Region.wanted o (yielded l.toArray a.tmps) = true := by simp [Region.wanted, hgd i o ho']
    rw [if_pos hw]
    refine .inl (hs i o ho' _ a w hI hd hall _ fun a' w' hI' => ?_)
    refine wpAny_inv I hord hgd hs hQ fuel _ a' w' (by simpa using hz) ?_ ?_
    · rw [count_or listed i (by omega) h0]; omega
    · rw [getD_or listed i (by omega)]; exact hI'
theorem lex_ok {l : List Oper} (h : (l.zipIdx.all fun p => p.1.guard.isNone && p.1.after.all fun e => decide (e.on < p.2)) = true) :
    (∀ (i : Nat) (o : Oper), l[i]? = some o → ∀ e ∈ o.after, e.on < i) ∧ ∀ (i : Nat) (o : Oper), l[i]? = some o → o.guard = none := by
  have k : ∀ (i : Nat) (o : Oper), l[i]? = some o → o.guard.isNone = true ∧ o.after.all (fun e => decide (e.on < i)) = true := by
    intro i o ho
    have hm : (o, i) ∈ l.zipIdx := by
      rw [List.mem_iff_getElem?]
      exact ⟨i, by rw [List.getElem?_zipIdx, ho]; simp⟩
    have := List.all_eq_true.1 h _ hm
    simpa using this
  refine ⟨fun i o ho e he => ?_, fun i o ho => ?_⟩
  · have := (k i o ho).2
    rw [Array.all_eq_true_iff_forall_mem] at this
    exact of_decide_eq_true (this e he)
  · exact Option.isNone_iff_eq_none.1 (k i o ho).1
/-- a region that draws its order: an invariant that each operation hands on serves every order -/
theorem wp_region_inv {P : Program} {id : Nat} {l : List Oper} {Q : Exit → Act → World → Prop} {a : Act} {w : World} (I : (Nat → Bool) → Act → World → Prop) (hm : P.follows .mixedOrders = true)
    (hlex : (l.zipIdx.all fun p => p.1.guard.isNone && p.1.after.all fun e => decide (e.on < p.2)) = true)
    (h0 : I (fun _ => false) a w.drew)
    (hs : ∀ (i : Nat) (o : Oper), l[i]? = some o → ∀ (L : Nat → Bool) a w, I L a w → L i = false → (∀ e ∈ o.after, Region.binds .any e = true → L e.on = true) → ∀ K : Act → World → Prop, (∀ a' w', I (fun k => k == i || L k) a' w' → K a' w') → o.wp P a w K Q)
    (hQ : ∀ L a w, I L a w → (∀ i, i < l.length → L i = true) → Q .normal a w) : (Code.region id l.toArray true).wp P Q a w := by
  refine wp_region_any hm (wpAny_inv I (lex_ok hlex).1 (lex_ok hlex).2 hs hQ _ _ a _ (by simp) (by simp [List.count_replicate]) ?_)
  have e : (fun k => (Array.replicate l.length false).getD k false) = fun _ => false := by
    funext k; simp [Array.getD]
  show I (fun k => (Array.replicate l.toArray.size false).getD k false) a w.drew
  rw [show l.toArray.size = l.length by simp, e]
  exact h0
/-- frames that agree but in the slots of a list -/
structure OffOf (D : List Nat) (A a : Act) : Prop where
  defers : a.defers = A.defers
  size : a.tmps.size = A.tmps.size
  off : ∀ d, d ∉ D → a.tmps[d]? = A.tmps[d]?
theorem OffOf.refl (D : List Nat) (A : Act) : OffOf D A A := ⟨rfl, rfl, fun _ _ => rfl⟩
theorem OffOf.put {D : List Nat} {A a : Act} (h : OffOf D A a) {d : Nat} (hd : d ∈ D) (v : Value) : OffOf D A (a.put (some d) v) :=
  ⟨h.defers, by simp [Act.put, h.size], fun k hk => by
    have : d ≠ k := fun e => hk (e ▸ hd)
    simp [Act.put, Array.getElem?_setIfInBounds, this, h.off k hk]⟩
theorem OffOf.eval {D : List Nat} {A a : Act} (h : OffOf D A a) {t : Nat} (ht : t ∉ D) : a.eval (.tmp t) = A.eval (.tmp t) := by
  have := h.off t ht
  simp only [Act.eval, Array.getD_eq_getD_getElem?, this]
theorem eval_of {a : Act} {t : Nat} {v : Value} (h : a.tmps[t]? = some v) : a.eval (.tmp t) = v := by
  simp only [Act.eval, Array.getD_eq_getD_getElem?, h]; rfl
theorem put_at {a : Act} {d : Nat} (v : Value) (h : d < a.tmps.size) : (a.put (some d) v).tmps[d]? = some v := by
  simp [Act.put, h]
theorem put_ne {a : Act} {d t : Nat} {u : Value} (v : Value) (hne : d ≠ t) (h : a.tmps[t]? = some u) : (a.put (some d) v).tmps[t]? = some u := by
  simp [Act.put, Array.getElem?_setIfInBounds, hne, h]
theorem foldl_puts (f : Nat → Value) : ∀ (D : List Nat) (A : Act), (D.foldl (fun x d => x.put (some d) (f d)) A).defers = A.defers ∧ (D.foldl (fun x d => x.put (some d) (f d)) A).tmps.size = A.tmps.size ∧
    (∀ k, k ∉ D → (D.foldl (fun x d => x.put (some d) (f d)) A).tmps[k]? = A.tmps[k]?) ∧ ∀ k, k ∈ D → k < A.tmps.size → (D.foldl (fun x d => x.put (some d) (f d)) A).tmps[k]? = some (f k)
  | [], A => ⟨rfl, rfl, fun _ _ => rfl, fun _ h => nomatch h⟩
  | d :: D, A => by
    obtain ⟨h1, h2, h3, h4⟩ := foldl_puts f D (A.put (some d) (f d))
    refine ⟨h1, by simpa [Act.put] using h2, fun k hk => ?_, fun k hk hs => ?_⟩
    · rw [List.mem_cons, not_or] at hk
      show (D.foldl _ (A.put (some d) (f d))).tmps[k]? = _
      rw [h3 k hk.2]
      simp only [Act.put, Array.getElem?_setIfInBounds]
      rw [if_neg (fun e => hk.1 e.symm)]
    · show (D.foldl _ (A.put (some d) (f d))).tmps[k]? = _
      by_cases hm : k ∈ D
      · exact h4 k hm (by simpa [Act.put] using hs)
      · rw [h3 k hm]
        rcases List.mem_cons.1 hk with rfl | h
        · exact put_at _ hs
        · exact absurd h hm
/-- a frame out of what is known of its slots -/
theorem OffOf.rebuild {D : List Nat} {A a : Act} (h : OffOf D A a) (f : Nat → Value) (hf : ∀ d ∈ D, a.tmps[d]? = some (f d)) : a = D.foldl (fun x d => x.put (some d) (f d)) A := by
  obtain ⟨h1, h2, h3, h4⟩ := foldl_puts f D A
  have ht : a.tmps = (D.foldl (fun x d => x.put (some d) (f d)) A).tmps := by
    refine Array.ext_getElem? fun k => ?_
    by_cases hk : k ∈ D
    · have hs : k < a.tmps.size := (Array.getElem?_eq_some_iff.1 (hf k hk)).1
      rw [hf k hk, h4 k hk (by have := h.size; omega)]
    · rw [h.off k hk, h3 k hk]
  cases a
  cases hb : D.foldl (fun x d => x.put (some d) (f d)) A
  rw [hb] at ht h1
  simp at ht h1
  have := h.defers
  simp at this
  rw [ht, this, h1]
theorem Row.fresh (w : World) (v0 v1 v2 : Value) (T : TypeId) (G : Nat → Value) : Row w.heap.size 3 0 G (w.alloc (.cells #[v0, v1, v2] T)) := by
  have k : ∀ j, j < 3 → j = 0 ∨ j = 1 ∨ j = 2 := by omega
  refine ⟨fun j hj => absurd hj (by omega), fun j hj => ?_, fun j hj => ?_, by simp⟩ <;> rcases k j hj with rfl | rfl | rfl <;> simp [go_sem]
theorem Row.other {g g' m i : Nat} {G : Nat → Value} {w : World} (h : Row g m i G w) (hne : g ≠ g') (o : Nat) (v : Value) : Row g m i G (w.setCell ⟨g', o, none⟩ v) :=
  ⟨fun j hj => (World.cell?_setCell_other w ⟨g', o, none⟩ ⟨g, j, none⟩ v (fun e => hne (congrArg Addr.block e).symm)).trans (h.cell j hj),
   fun j hj => (h.ex j hj).imp fun u hu => (World.cell?_setCell_other w ⟨g', o, none⟩ ⟨g, j, none⟩ v (fun e => hne (congrArg Addr.block e).symm)).trans hu,
   fun j hj => by simpa [go_sem] using h.frz j hj, by simpa using h.lt⟩
theorem Row.other3 {g g' m i : Nat} {G : Nat → Value} {w : World} (h : Row g m i G w) (hne : g ≠ g') (v0 v1 v2 : Value) : Row g m i G (((w.setCell ⟨g', 0, none⟩ v0).setCell ⟨g', 1, none⟩ v1).setCell ⟨g', 2, none⟩ v2) :=
  ((h.other hne 0 v0).other hne 1 v1).other hne 2 v2
theorem lf_two {B N : Nat} {cs : List (Addr × Value)} {w0 w : World} {g0 g1 : Nat} {x0 x1 x2 y0 y1 y2 : Int} (h : Lf B N cs w0 w) (r0 : Row g0 3 3 (fun i => .int .i64 (cp x0 x1 x2 i)) w) (r1 : Row g1 3 3 (fun i => .int .i64 (cp y0 y1 y2 i)) w) (n0 : N ≤ g0) (n1 : N ≤ g1) :
    Lf B w.heap.size ((⟨g0, 0, none⟩, .int .i64 x0) :: (⟨g0, 1, none⟩, .int .i64 x1) :: (⟨g0, 2, none⟩, .int .i64 x2) :: (⟨g1, 0, none⟩, .int .i64 y0) :: (⟨g1, 1, none⟩, .int .i64 y1) :: (⟨g1, 2, none⟩, .int .i64 y2) :: cs) w0 w := by
  refine ⟨?_, ?_, ?_, Nat.le_refl _, h.be, Nat.le_trans h.le h.lt⟩
  · simp only [List.forall_mem_cons]
    exact ⟨r0.cell 0 (by decide), r0.cell 1 (by decide), r0.cell 2 (by decide), r1.cell 0 (by decide), r1.cell 1 (by decide), r1.cell 2 (by decide), h.cells⟩
  · simp only [List.forall_mem_cons]
    exact ⟨r0.frz 0 (by decide), r0.frz 1 (by decide), r0.frz 2 (by decide), r1.frz 0 (by decide), r1.frz 1 (by decide), r1.frz 2 (by decide), h.frz⟩
  · simp only [List.forall_mem_cons]
    exact ⟨r0.lt, r0.lt, r0.lt, r1.lt, r1.lt, r1.lt, fun p hp => Nat.lt_of_lt_of_le (h.inn p hp) h.lt⟩
end Go.Proofs.Ytdjopepipcnmdaa
