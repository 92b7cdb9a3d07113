/- Proved here: the products of two spokes, of the program and of the reference; the reference's product of two words and its comparison; ranges of the arguments as stated. -/
import Derived.Test.YtiolnpkieooceaaKa2
namespace Go.Proofs.Ytiolnpkieooceaa
open Go.RowKit
set_option linter.unusedVariables false
def Sk (u w : Int) : Prop := (-67108864 ≤ u ∧ u ≤ 67108864) ∧ -67108864 ≤ w ∧ w ≤ 67108864
theorem mul_bdK {x y : Int} (h1 : -67108864 ≤ x) (h2 : x ≤ 67108864) (h3 : -67108864 ≤ y) (h4 : y ≤ 67108864) : -4503599627370496 ≤ x * y ∧ x * y ≤ 4503599627370496 := by
  have e : (x * y).natAbs ≤ 67108864 * 67108864 := by rw [Int.natAbs_mul]; exact Nat.mul_le_mul (by omega) (by omega)
  omega
set_option maxHeartbeats 1000000 in
theorem dotP_any (aU aW aR aH bU bW bR bH : Int) (w : World) (hp : Sk aU aW) (hq : Sk bU bW) :
    Calls Try.prog 27 #[.agg #[.int .i64 aU, .int .i64 aW, .int .i64 aR, .int .i64 aH], .agg #[.int .i64 bU, .int .i64 bW, .int .i64 bR, .int .i64 bH]] w fun e w' => e = .returned (.int .i64 (aU * bU + aW * bW)) ∧ Below w.heap.size w w' := by
  obtain ⟨h1, h2⟩ := mul_bdK hp.1.1 hp.1.2 hq.1.1 hq.1.2
  obtain ⟨h3, h4⟩ := mul_bdK hp.2.1 hp.2.2 hq.2.1 hq.2.2
  clear hp hq
  go_enter Try.func27, Try.ntmps27
  go_wp2_with fail
  go_ret
  exact ⟨rfl, (((Below.refl _ _).alloc (Nat.le_refl _) _).alloc (by simp) _)⟩
set_option maxHeartbeats 1000000 in
theorem crossP_any (aU aW aR aH bU bW bR bH : Int) (w : World) (hp : Sk aU aW) (hq : Sk bU bW) :
    Calls Try.prog 28 #[.agg #[.int .i64 aU, .int .i64 aW, .int .i64 aR, .int .i64 aH], .agg #[.int .i64 bU, .int .i64 bW, .int .i64 bR, .int .i64 bH]] w fun e w' => e = .returned (.int .i64 (aU * bW - aW * bU)) ∧ Below w.heap.size w w' := by
  obtain ⟨h1, h2⟩ := mul_bdK hp.1.1 hp.1.2 hq.2.1 hq.2.2
  obtain ⟨h3, h4⟩ := mul_bdK hp.2.1 hp.2.2 hq.1.1 hq.1.2
  clear hp hq
  go_enter Try.func28, Try.ntmps28
  go_wp2_with fail
  go_ret
  exact ⟨rfl, (((Below.refl _ _).alloc (Nat.le_refl _) _).alloc (by simp) _)⟩
set_option maxHeartbeats 1000000 in
theorem dotR_any (aU aW aR aH bU bW bR bH : Int) (w : World) (hp : Sk aU aW) (hq : Sk bU bW) :
    Calls Try.prog 18 #[.agg #[.int .i64 aU, .int .i64 aW, .int .i64 aR, .int .i64 aH], .agg #[.int .i64 bU, .int .i64 bW, .int .i64 bR, .int .i64 bH]] w fun e w' => e = .returned (.int .i64 (aU * bU + aW * bW)) ∧ Below w.heap.size w w' := by
  obtain ⟨h1, h2⟩ := mul_bdK hp.1.1 hp.1.2 hq.1.1 hq.1.2
  obtain ⟨h3, h4⟩ := mul_bdK hp.2.1 hp.2.2 hq.2.1 hq.2.2
  clear hp hq
  go_enter Try.func18, Try.ntmps18
  go_wp2_with fail
  go_ret
  exact ⟨rfl, (((Below.refl _ _).alloc (Nat.le_refl _) _).alloc (by simp) _)⟩
set_option maxHeartbeats 1000000 in
theorem crossR_any (aU aW aR aH bU bW bR bH : Int) (w : World) (hp : Sk aU aW) (hq : Sk bU bW) :
    Calls Try.prog 20 #[.agg #[.int .i64 aU, .int .i64 aW, .int .i64 aR, .int .i64 aH], .agg #[.int .i64 bU, .int .i64 bW, .int .i64 bR, .int .i64 bH]] w fun e w' => e = .returned (.int .i64 (aU * bW - aW * bU)) ∧ Below w.heap.size w w' := by
  obtain ⟨h1, h2⟩ := mul_bdK hp.1.1 hp.1.2 hq.2.1 hq.2.2
  obtain ⟨h3, h4⟩ := mul_bdK hp.2.1 hp.2.2 hq.1.1 hq.1.2
  clear hp hq
  go_enter Try.func20, Try.ntmps20
  go_wp2_with fail
  go_ret
  exact ⟨rfl, (((Below.refl _ _).alloc (Nat.le_refl _) _).alloc (by simp) _)⟩
set_option maxHeartbeats 1000000 in
theorem half_any (a b : Int) (w : World) (ha : -67108864 ≤ a) (ha2 : a ≤ 67108864) (hb : -67108864 ≤ b) (hb2 : b ≤ 67108864) :
    Calls Try.prog 30 #[.int .i64 a, .int .i64 b] w fun e w' => e = .returned (.int .i64 ((a + b + 1) / 2)) ∧ w = w' := by
  go_enter Try.func30, Try.ntmps30
  go_wp2_with fail
  go_ret
  exact ⟨rfl, rfl⟩
end Go.Proofs.Ytiolnpkieooceaa
