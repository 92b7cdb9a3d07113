/- Proved here: what Sqrt of package wide returns; every argument. -/
import Derived.Test.YtdjopepipcnmdaaWr3
namespace Go.Proofs.Ytdjopepipcnmdaa
open Go.RowKit
set_option linter.unusedVariables false
def sqG (n m : Int) : Bool := decide (0 ≤ n ∧ 0 ≤ m ∧ m ≤ 2)
def sqV (n m : Int) : Int := if sqG n m then sgV (rootN n.toNat m) false else 0
def sqO (n m : Int) : Bool := if sqG n m then sgO (rootN n.toNat m) false else false
set_option maxHeartbeats 1000000 in
theorem sqrt_yes (n m : Int) (w : World) (h0 : 0 ≤ n) (h1 : n ≤ 9223372036854775807) (hm : 0 ≤ m) (hm2 : m ≤ 2) :
    Calls Try.prog 50 #[.int .i64 n, .int .i64 m] w fun e w' => e = .returned (.tuple #[.int .i64 (sgV (rootN n.toNat m) false), .bool (sgO (rootN n.toNat m) false)]) ∧ Below w.heap.size w w' := by
  obtain ⟨k, rfl⟩ := Int.eq_ofNat_of_zero_le h0
  have hk : k < 18446744073709551616 := by omega
  have HR := fun w => Lib.hid (root_any k m (Nat.lt_trans hk (by decide)) w)
  have e1 : k / 18446744073709551616 = 0 := Nat.div_eq_of_lt hk
  have e2 : k % 18446744073709551616 = k := Nat.mod_eq_of_lt hk
  unfold pairV at HR
  rw [e1, e2] at HR
  clear e1 e2 hk
  have HK := Lib.hid (known_yes m w hm hm2)
  have e0 : decide ((k : Int) < 0) = false := by simp
  go_enter Try.func50, Try.ntmps50
  go_wp2_with fail
  refine HK.out.mono ?_
  rintro e w' ⟨rfl, rfl⟩
  go_wp2_with fail
  refine (HR _).out.mono ?_
  rintro e w1 ⟨rfl, hb1⟩
  go_wp2_with fail
  go_ret2
  exact ⟨rfl, hb1⟩
set_option maxHeartbeats 1000000 in
theorem sqrt_neg (n m : Int) (w : World) (h0 : n < 0) :
    Calls Try.prog 50 #[.int .i64 n, .int .i64 m] w fun e w' => e = .returned (.tuple #[.int .i64 0, .bool false]) ∧ Below w.heap.size w w' := by
  go_enter Try.func50, Try.ntmps50
  go_wp2_with fail
  go_ret2
  exact ⟨rfl, Below.refl _ _⟩
set_option maxHeartbeats 1000000 in
theorem sqrt_mode (n m : Int) (w : World) (h0 : 0 ≤ n) (hm : m < 0 ∨ 2 < m) :
    Calls Try.prog 50 #[.int .i64 n, .int .i64 m] w fun e w' => e = .returned (.tuple #[.int .i64 0, .bool false]) ∧ Below w.heap.size w w' := by
  have HK := Lib.hid (known_no m w hm)
  have e0 : decide (n < 0) = false := by simp; omega
  clear hm
  go_enter Try.func50, Try.ntmps50
  go_wp2_with fail
  refine HK.out.mono ?_
  rintro e w' ⟨rfl, rfl⟩
  go_wp2_with fail
  go_ret2
  exact ⟨rfl, Below.refl _ _⟩
/-- WHAT Sqrt GIVES -/
theorem sqrt_any (n m : Int) (w : World) (h1 : n ≤ 9223372036854775807) :
    Calls Try.prog 50 #[.int .i64 n, .int .i64 m] w fun e w' => e = .returned (.tuple #[.int .i64 (sqV n m), .bool (sqO n m)]) ∧ Below w.heap.size w w' := by
  unfold sqV sqO
  by_cases h0 : 0 ≤ n
  · by_cases hm : 0 ≤ m ∧ m ≤ 2
    · have e : sqG n m = true := decide_eq_true (by omega)
      rw [e]; exact sqrt_yes n m w h0 h1 hm.1 hm.2
    · have e : sqG n m = false := decide_eq_false (by omega)
      rw [e]; exact sqrt_mode n m w h0 (by omega)
  · have e : sqG n m = false := decide_eq_false (by omega)
    rw [e]; exact sqrt_neg n m w (by omega)
end Go.Proofs.Ytdjopepipcnmdaa
