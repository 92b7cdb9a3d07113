/- Proved here: what the small functions of package vec and of its statements return: vectors and points by value; every argument. -/
import Derived.Test.YtlblodiamcnnpaaUw1
import Derived.Deep.RegionWith
import Derived.Deep.QuietTactic
import Derived.BigQuiet
import Derived.StillTailTactics
namespace Go.Proofs.Ytlblodiamcnnpaa
open Go.RowKit
set_option linter.unusedVariables false
def vecV (x y z : Int) : Value := .agg #[.int .i64 x, .int .i64 y, .int .i64 z]
def ptV (u w : Int) : Value := .agg #[.int .i64 u, .int .i64 w]
def smI (v : Int) : Int := -4194304 + v % 8388609
theorem smI_bd (v : Int) : -4194304 ≤ smI v ∧ smI v ≤ 4194304 := by unfold smI; omega
theorem small_any (v : Int) (w : World) (h : -9223372036854775808 ≤ v) (h2 : v ≤ 9223372036854775807) :
    Calls Try.prog 35 #[.int .i64 v] w fun e w' => e = .returned (.int .i64 (smI v)) ∧ w = w' := by
  go_enter Try.func35, Try.ntmps35
  go_wp2_with fail
  refine (between_any _ _ _ _ h h2 (by omega) (by omega) (by omega) (by omega)).mono ?_
  rintro e w' ⟨rfl, rfl⟩
  go_wp2_with fail
  go_ret
  exact ⟨congrArg Ending.returned (congrArg (Value.int IntKind.i64) (by unfold smI; omega)), rfl⟩
theorem small_st (v : Int) (w : World) (h : -9223372036854775808 ≤ v) (h2 : v ≤ 9223372036854775807) :
    Calls Try.prog 35 #[.int .i64 v] w fun e w' => e = .returned (.int .i64 (smI v)) ∧ w' = w := (small_any v w h h2).mono fun e w' ⟨he, hw⟩ => ⟨he, hw.symm⟩
set_option maxHeartbeats 1000000 in
theorem vector_any (x y z : Int) (w : World) (h : -9223372036854775808 ≤ x) (h2 : x ≤ 9223372036854775807) (g : -9223372036854775808 ≤ y) (g2 : y ≤ 9223372036854775807) (k : -9223372036854775808 ≤ z) (k2 : z ≤ 9223372036854775807) :
    Calls Try.prog 14 #[.agg #[.int .i64 x, .int .i64 y, .int .i64 z]] w fun e w' => e = .returned (.agg #[.int .i64 (smI x), .int .i64 (smI y), .int .i64 (smI z)]) ∧ Below w.heap.size w w' := by
  go_enter Try.func14, Try.ntmps14
  go_wp2_with fail
  refine wp_region_still_tail 10 (by kernel_rfl) (by kernel_rfl) ?_
  simp only [List.take_succ_cons, List.take_zero, List.drop_succ_cons, List.drop_zero]
  change wpStill _ _ (World.drew _) _ _ _
  repeat (first | still_step | still_call (small_st _ _ (by assumption) (by assumption)))
  refine wpStill_nil ?_
  change wpList _ _ _ _ _ (World.drew _)
  go_wp2_with fail
  exact bodyPost_ret (v := .agg #[.int .i64 (smI x), .int .i64 (smI y), .int .i64 (smI z)]) (by simp [results, Try.results14, go_sem]) rfl ⟨rfl, (((Below.refl _ _).alloc (Nat.le_refl _) _).alloc (by simp) _).drew⟩
set_option maxHeartbeats 1000000 in
theorem point_any (x y : Int) (w : World) (h : -9223372036854775808 ≤ x) (h2 : x ≤ 9223372036854775807) (g : -9223372036854775808 ≤ y) (g2 : y ≤ 9223372036854775807) :
    Calls Try.prog 31 #[.agg #[.int .i64 x, .int .i64 y]] w fun e w' => e = .returned (.agg #[.int .i64 (smI x), .int .i64 (smI y)]) ∧ Below w.heap.size w w' := by
  go_enter Try.func31, Try.ntmps31
  go_wp2_with fail
  refine wp_region_still_tail 7 (by kernel_rfl) (by kernel_rfl) ?_
  simp only [List.take_succ_cons, List.take_zero, List.drop_succ_cons, List.drop_zero]
  change wpStill _ _ (World.drew _) _ _ _
  repeat (first | still_step | still_call (small_st _ _ (by assumption) (by assumption)))
  refine wpStill_nil ?_
  change wpList _ _ _ _ _ (World.drew _)
  go_wp2_with fail
  exact bodyPost_ret (v := .agg #[.int .i64 (smI x), .int .i64 (smI y)]) (by simp [results, Try.results31, go_sem]) rfl ⟨rfl, (((Below.refl _ _).alloc (Nat.le_refl _) _).alloc (by simp) _).drew⟩
set_option maxHeartbeats 1000000 in
theorem addP_any (a b c x y z : Int) (w : World) (h1 : -9223372036854775808 ≤ a + x) (h2 : a + x ≤ 9223372036854775807) (h3 : -9223372036854775808 ≤ b + y) (h4 : b + y ≤ 9223372036854775807) (h5 : -9223372036854775808 ≤ c + z) (h6 : c + z ≤ 9223372036854775807) :
    Calls Try.prog 20 #[.agg #[.int .i64 a, .int .i64 b, .int .i64 c], .agg #[.int .i64 x, .int .i64 y, .int .i64 z]] w fun e w' => e = .returned (.agg #[.int .i64 (a + x), .int .i64 (b + y), .int .i64 (c + z)]) ∧ Below w.heap.size w w' := by
  go_enter Try.func20, Try.ntmps20
  go_wp2_with fail
  exact bodyPost_ret (v := .agg #[.int .i64 (a + x), .int .i64 (b + y), .int .i64 (c + z)]) (by simp [results, Try.results20, go_sem]) rfl ⟨rfl, ((((Below.refl _ _).alloc (Nat.le_refl _) _).alloc (by simp) _).alloc (by simp; omega) _)⟩
set_option maxHeartbeats 1000000 in
theorem addR_any (a b c x y z : Int) (w : World) (h1 : -9223372036854775808 ≤ a + x) (h2 : a + x ≤ 9223372036854775807) (h3 : -9223372036854775808 ≤ b + y) (h4 : b + y ≤ 9223372036854775807) (h5 : -9223372036854775808 ≤ c + z) (h6 : c + z ≤ 9223372036854775807) :
    Calls Try.prog 27 #[.agg #[.int .i64 a, .int .i64 b, .int .i64 c], .agg #[.int .i64 x, .int .i64 y, .int .i64 z]] w fun e w' => e = .returned (.agg #[.int .i64 (a + x), .int .i64 (b + y), .int .i64 (c + z)]) ∧ Below w.heap.size w w' := by
  go_enter Try.func27, Try.ntmps27
  go_wp2_with fail
  exact bodyPost_ret (v := .agg #[.int .i64 (a + x), .int .i64 (b + y), .int .i64 (c + z)]) (by simp [results, Try.results27, go_sem]) rfl ⟨rfl, ((((Below.refl _ _).alloc (Nat.le_refl _) _).alloc (by simp) _).alloc (by simp; omega) _)⟩
set_option maxHeartbeats 1000000 in
theorem subP_any (a b c x y z : Int) (w : World) (h1 : -9223372036854775808 ≤ a - x) (h2 : a - x ≤ 9223372036854775807) (h3 : -9223372036854775808 ≤ b - y) (h4 : b - y ≤ 9223372036854775807) (h5 : -9223372036854775808 ≤ c - z) (h6 : c - z ≤ 9223372036854775807) :
    Calls Try.prog 28 #[.agg #[.int .i64 a, .int .i64 b, .int .i64 c], .agg #[.int .i64 x, .int .i64 y, .int .i64 z]] w fun e w' => e = .returned (.agg #[.int .i64 (a - x), .int .i64 (b - y), .int .i64 (c - z)]) ∧ Below w.heap.size w w' := by
  go_enter Try.func28, Try.ntmps28
  go_wp2_with fail
  exact bodyPost_ret (v := .agg #[.int .i64 (a - x), .int .i64 (b - y), .int .i64 (c - z)]) (by simp [results, Try.results28, go_sem]) rfl ⟨rfl, ((((Below.refl _ _).alloc (Nat.le_refl _) _).alloc (by simp) _).alloc (by simp; omega) _)⟩
set_option maxHeartbeats 1000000 in
theorem subR_any (a b c x y z : Int) (w : World) (h1 : -9223372036854775808 ≤ a - x) (h2 : a - x ≤ 9223372036854775807) (h3 : -9223372036854775808 ≤ b - y) (h4 : b - y ≤ 9223372036854775807) (h5 : -9223372036854775808 ≤ c - z) (h6 : c - z ≤ 9223372036854775807) :
    Calls Try.prog 29 #[.agg #[.int .i64 a, .int .i64 b, .int .i64 c], .agg #[.int .i64 x, .int .i64 y, .int .i64 z]] w fun e w' => e = .returned (.agg #[.int .i64 (a - x), .int .i64 (b - y), .int .i64 (c - z)]) ∧ Below w.heap.size w w' := by
  go_enter Try.func29, Try.ntmps29
  go_wp2_with fail
  exact bodyPost_ret (v := .agg #[.int .i64 (a - x), .int .i64 (b - y), .int .i64 (c - z)]) (by simp [results, Try.results29, go_sem]) rfl ⟨rfl, ((((Below.refl _ _).alloc (Nat.le_refl _) _).alloc (by simp) _).alloc (by simp; omega) _)⟩
theorem mul_bd {x y B D : Int} (h1 : -B ≤ x) (h2 : x ≤ B) (h3 : -D ≤ y) (h4 : y ≤ D) : -(B * D) ≤ x * y ∧ x * y ≤ B * D := by
  have a1 := Int.mul_nonneg (a := B - x) (b := D - y) (by omega) (by omega)
  have a2 := Int.mul_nonneg (a := B + x) (b := D + y) (by omega) (by omega)
  have a3 := Int.mul_nonneg (a := B - x) (b := D + y) (by omega) (by omega)
  have a4 := Int.mul_nonneg (a := B + x) (b := D - y) (by omega) (by omega)
  constructor <;> grind
/-- a component of a small vector -/
def Sm (x : Int) : Prop := -8388608 ≤ x ∧ x ≤ 8388608
theorem Sm.mul {x y : Int} (h : Sm x) (g : Sm y) : -70368744177664 ≤ x * y ∧ x * y ≤ 70368744177664 := mul_bd h.1 h.2 g.1 g.2
set_option maxHeartbeats 1000000 in
theorem dotP_any (a b c x y z : Int) (w : World) (ha : Sm a) (hb : Sm b) (hc : Sm c) (hx : Sm x) (hy : Sm y) (hz : Sm z) :
    Calls Try.prog 22 #[.agg #[.int .i64 a, .int .i64 b, .int .i64 c], .agg #[.int .i64 x, .int .i64 y, .int .i64 z]] w fun e w' => e = .returned (.int .i64 (a * x + b * y + c * z)) ∧ Below w.heap.size w w' := by
  obtain ⟨h1, h2⟩ := ha.mul hx
  obtain ⟨h3, h4⟩ := hb.mul hy
  obtain ⟨h5, h6⟩ := hc.mul hz
  go_enter Try.func22, Try.ntmps22
  go_wp2_with fail
  go_ret
  exact ⟨rfl, (((Below.refl _ _).alloc (Nat.le_refl _) _).alloc (by simp) _)⟩
set_option maxHeartbeats 1000000 in
theorem dotR_any (a b c x y z : Int) (w : World) (ha : Sm a) (hb : Sm b) (hc : Sm c) (hx : Sm x) (hy : Sm y) (hz : Sm z) :
    Calls Try.prog 30 #[.agg #[.int .i64 a, .int .i64 b, .int .i64 c], .agg #[.int .i64 x, .int .i64 y, .int .i64 z]] w fun e w' => e = .returned (.int .i64 (a * x + b * y + c * z)) ∧ Below w.heap.size w w' := by
  obtain ⟨h1, h2⟩ := ha.mul hx
  obtain ⟨h3, h4⟩ := hb.mul hy
  obtain ⟨h5, h6⟩ := hc.mul hz
  go_enter Try.func30, Try.ntmps30
  go_wp2_with fail
  go_ret
  exact ⟨rfl, (((Below.refl _ _).alloc (Nat.le_refl _) _).alloc (by simp) _)⟩
set_option maxHeartbeats 1000000 in
theorem crossP_any (a b x y : Int) (w : World) (ha : Sm a) (hb : Sm b) (hx : Sm x) (hy : Sm y) :
    Calls Try.prog 32 #[.agg #[.int .i64 a, .int .i64 b], .agg #[.int .i64 x, .int .i64 y]] w fun e w' => e = .returned (.int .i64 (a * y - b * x)) ∧ Below w.heap.size w w' := by
  obtain ⟨h1, h2⟩ := ha.mul hy
  obtain ⟨h3, h4⟩ := hb.mul hx
  go_enter Try.func32, Try.ntmps32
  go_wp2_with fail
  go_ret
  exact ⟨rfl, (((Below.refl _ _).alloc (Nat.le_refl _) _).alloc (by simp) _)⟩
set_option maxHeartbeats 1000000 in
theorem crossR_any (a b x y : Int) (w : World) (ha : Sm a) (hb : Sm b) (hx : Sm x) (hy : Sm y) :
    Calls Try.prog 33 #[.agg #[.int .i64 a, .int .i64 b], .agg #[.int .i64 x, .int .i64 y]] w fun e w' => e = .returned (.int .i64 (a * y - b * x)) ∧ Below w.heap.size w w' := by
  obtain ⟨h1, h2⟩ := ha.mul hy
  obtain ⟨h3, h4⟩ := hb.mul hx
  go_enter Try.func33, Try.ntmps33
  go_wp2_with fail
  go_ret
  exact ⟨rfl, (((Below.refl _ _).alloc (Nat.le_refl _) _).alloc (by simp) _)⟩
set_option maxHeartbeats 1000000 in
theorem innerP_any (a b x y : Int) (w : World) (ha : Sm a) (hb : Sm b) (hx : Sm x) (hy : Sm y) :
    Calls Try.prog 23 #[.agg #[.int .i64 a, .int .i64 b], .agg #[.int .i64 x, .int .i64 y]] w fun e w' => e = .returned (.int .i64 (a * x + b * y)) ∧ Below w.heap.size w w' := by
  obtain ⟨h1, h2⟩ := ha.mul hx
  obtain ⟨h3, h4⟩ := hb.mul hy
  go_enter Try.func23, Try.ntmps23
  go_wp2_with fail
  go_ret
  exact ⟨rfl, (((Below.refl _ _).alloc (Nat.le_refl _) _).alloc (by simp) _)⟩
set_option maxHeartbeats 1000000 in
theorem innerR_any (a b x y : Int) (w : World) (ha : Sm a) (hb : Sm b) (hx : Sm x) (hy : Sm y) :
    Calls Try.prog 34 #[.agg #[.int .i64 a, .int .i64 b], .agg #[.int .i64 x, .int .i64 y]] w fun e w' => e = .returned (.int .i64 (a * x + b * y)) ∧ Below w.heap.size w w' := by
  obtain ⟨h1, h2⟩ := ha.mul hx
  obtain ⟨h3, h4⟩ := hb.mul hy
  go_enter Try.func34, Try.ntmps34
  go_wp2_with fail
  go_ret
  exact ⟨rfl, (((Below.refl _ _).alloc (Nat.le_refl _) _).alloc (by simp) _)⟩
end Go.Proofs.Ytlblodiamcnnpaa
