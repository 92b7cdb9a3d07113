/- Proved here: VecProducts returns true for every argument; no conditions but that integers are ints. -/
import Derived.Test.YtlblodiamcnnpaaVw3
import Derived.Test.YtlblodiamcnnpaaUwQ
import Derived.Deep.DeepCutAuto
import Derived.Deep.CutBlock
namespace Go.Proofs.Ytlblodiamcnnpaa
open Go.RowKit
set_option linter.unusedVariables false
set_option linter.unusedSimpArgs false
theorem smI_Sm (v : Int) : Sm (smI v) := by have := smI_bd v; exact ⟨by omega, by omega⟩
set_option maxHeartbeats 1000000 in
theorem point_ex (x y : Int) (w : World) (h : -9223372036854775808 ≤ x) (h2 : x ≤ 9223372036854775807) (g : -9223372036854775808 ≤ y) (g2 : y ≤ 9223372036854775807) :
    Calls Try.prog 31 #[.agg #[.int .i64 x, .int .i64 y]] w fun e w' => e = .returned (.agg #[.int .i64 (smI x), .int .i64 (smI y)]) ∧ w' = ((w.alloc (.cells #[.int .i64 x, .int .i64 y] 33)).alloc (.cells #[.int .i64 (smI x), .int .i64 (smI y)] 33)).drew := by
  go_enter Try.func31, Try.ntmps31
  go_wp2_with fail
  refine wp_region_still_tail 7 (by kernel_rfl) (by kernel_rfl) ?_
  simp only [List.take_succ_cons, List.take_zero, List.drop_succ_cons, List.drop_zero]
  change wpStill _ _ (World.drew _) _ _ _
  repeat (first | still_step | still_call (small_st _ _ (by assumption) (by assumption)))
  refine wpStill_nil ?_
  change wpList _ _ _ _ _ (World.drew _)
  go_wp2_with fail
  exact bodyPost_ret (v := .agg #[.int .i64 (smI x), .int .i64 (smI y)]) (by simp [results, Try.results31, go_sem]) rfl ⟨rfl, rfl⟩
set_option maxHeartbeats 1000000 in
theorem vector_ex (x y z : Int) (w : World) (h : -9223372036854775808 ≤ x) (h2 : x ≤ 9223372036854775807) (g : -9223372036854775808 ≤ y) (g2 : y ≤ 9223372036854775807) (k : -9223372036854775808 ≤ z) (k2 : z ≤ 9223372036854775807) :
    Calls Try.prog 14 #[.agg #[.int .i64 x, .int .i64 y, .int .i64 z]] w fun e w' => e = .returned (.agg #[.int .i64 (smI x), .int .i64 (smI y), .int .i64 (smI z)]) ∧ w' = ((w.alloc (.cells #[.int .i64 x, .int .i64 y, .int .i64 z] 23)).alloc (.cells #[.int .i64 (smI x), .int .i64 (smI y), .int .i64 (smI z)] 23)).drew := by
  go_enter Try.func14, Try.ntmps14
  go_wp2_with fail
  refine wp_region_still_tail 10 (by kernel_rfl) (by kernel_rfl) ?_
  simp only [List.take_succ_cons, List.take_zero, List.drop_succ_cons, List.drop_zero]
  change wpStill _ _ (World.drew _) _ _ _
  repeat (first | still_step | still_call (small_st _ _ (by assumption) (by assumption)))
  refine wpStill_nil ?_
  change wpList _ _ _ _ _ (World.drew _)
  go_wp2_with fail
  exact bodyPost_ret (v := .agg #[.int .i64 (smI x), .int .i64 (smI y), .int .i64 (smI z)]) (by simp [results, Try.results14, go_sem]) rfl ⟨rfl, rfl⟩
/-- a class of worlds: two points lie at n and n + 1 -/
structure Two (B n : Nat) (w0 : World) (a b x y : Int) (w : World) : Prop where
  c0 : w.cell? ⟨n, 0, none⟩ = some (.int .i64 a)
  c1 : w.cell? ⟨n, 1, none⟩ = some (.int .i64 b)
  d0 : w.cell? ⟨n + 1, 0, none⟩ = some (.int .i64 x)
  d1 : w.cell? ⟨n + 1, 1, none⟩ = some (.int .i64 y)
  lt : n + 1 < w.heap.size
  be : Below B w0 w
  le : B ≤ n
theorem Two.next {B n : Nat} {w0 w w' : World} {a b x y : Int} (h : Two B n w0 a b x y w) (hb : Below w.heap.size w w') : Two B n w0 a b x y w' := by
  have l := h.lt
  exact ⟨(hb.cell (by show n < _; omega)).trans h.c0, (hb.cell (by show n < _; omega)).trans h.c1, (hb.cell (by show n + 1 < _; omega)).trans h.d0, (hb.cell (by show n + 1 < _; omega)).trans h.d1, Nat.lt_of_lt_of_le l hb.size, h.be.trans (hb.mono (by have := h.le; omega)), h.le⟩
theorem Calls.cls {f : FuncId} {args : Array Value} {w : World} {v : Value} {C : World → Prop} (h : Calls Try.prog f args w fun e w' => e = .returned v ∧ Below w.heap.size w w') (hC : ∀ w', Below w.heap.size w w' → C w') : Calls Try.prog f args w fun e w' => e = .returned v ∧ C w' :=
  h.mono fun e w' ⟨he, hb⟩ => ⟨he, hC w' hb⟩
set_option maxHeartbeats 1000000 in
theorem law_products (a b x y : Int) (w : World) (h1 : -9223372036854775808 ≤ a) (h2 : a ≤ 9223372036854775807) (h3 : -9223372036854775808 ≤ b) (h4 : b ≤ 9223372036854775807) (h5 : -9223372036854775808 ≤ x) (h6 : x ≤ 9223372036854775807) (h7 : -9223372036854775808 ≤ y) (h8 : y ≤ 9223372036854775807) :
    Calls Try.prog 8 #[.agg #[.int .i64 a, .int .i64 b], .agg #[.int .i64 x, .int .i64 y]] w fun e w' => e = .returned (.bool true) ∧ Below w.heap.size w w' := by
  have P1 := fun w => Lib.hid (point_ex a b w h1 h2 h3 h4)
  have P2 := fun w => Lib.hid (point_ex x y w h5 h6 h7 h8)
  have S1 := smI_Sm a
  have S2 := smI_Sm b
  have S3 := smI_Sm x
  have S4 := smI_Sm y
  go_enter Try.func8, Try.ntmps8
  go_wp2_with fail
  go_cut [5] (fun s wx => s = .agg #[.int .i64 a, .int .i64 b] ∧ Two w.heap.size w.heap.size w (smI a) (smI b) (smI x) (smI y) wx)
  case first =>
    go_region_with (first
      | (go_at_call_of 31 a; refine (P1 _).out.mono ?_; rintro e w2 ⟨rfl, rfl⟩)
      | (go_at_call_of 31 x; refine (P2 _).out.mono ?_; rintro e w3 ⟨rfl, rfl⟩))
    all_goals
      go_wp2_with fail
      go_meet
      refine ⟨rfl, ?_⟩
      constructor <;> first | (simp [go_sem]; done) | (repeat (first | exact Below.refl _ _ | assumption | refine Below.drew ?_ | (refine Below.alloc ?_ (by simp <;> omega) _) | (refine Below.setCell ?_ (by simp <;> omega) _)))
  case rest =>
    obtain ⟨rfl, hT⟩ := hcut
    go_wp2_with fail
    (refine wp_region_class (Two w.heap.size w.heap.size w (smI a) (smI b) (smI x) (smI y)) (hT.next (Below.refl _ _).drew) (by kernel_rfl) (by kernel_rfl) ?_; repeat (refine wpQuiet_step (fun qK9 qH9 => ?_); go_simp; first | (refine qH9 _ ?_; clear qH9 qK9) | (apply Exists.intro; refine ⟨?_, qH9 _ ?_⟩; (first | (intros; rfl) | ((intro wx hC; first | (go_at_call 18; exact Calls.cls (awake_any _) (fun _ => hC.next)) | (go_at_call 32; exact Calls.cls (crossP_any _ _ _ _ _ S1 S2 S3 S4) (fun _ => hC.next)) | (go_at_call 33; exact Calls.cls (crossR_any _ _ _ _ _ S1 S2 S3 S4) (fun _ => hC.next)) | (go_at_call 23; exact Calls.cls (innerP_any _ _ _ _ _ S1 S2 S3 S4) (fun _ => hC.next)) | (go_at_call 34; exact Calls.cls (innerR_any _ _ _ _ _ S1 S2 S3 S4) (fun _ => hC.next)) | (have k0 := hC.c0; have k1 := hC.c1; have k2 := hC.d0; have k3 := hC.d1; go_simp; done) | (have k0 := hC.c0; have k1 := hC.c1; have k2 := hC.d0; have k3 := hC.d1; go_simp; rfl)))); clear qH9 qK9)))
    refine wpQuiet_nil ?_
    intro wy hC
    go_wp2_with fail
    go_ret
    exact ⟨rfl, hC.be⟩
end Go.Proofs.Ytlblodiamcnnpaa
