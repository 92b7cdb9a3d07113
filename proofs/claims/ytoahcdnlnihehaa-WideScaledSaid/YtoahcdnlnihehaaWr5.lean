/- Proved here: what Root of package wide returns; every argument. -/
import Derived.Test.YtoahcdnlnihehaaWr4
namespace Go.Proofs.Ytoahcdnlnihehaa
open Go.RowKit
set_option linter.unusedVariables false
def roG (a b m : Int) : Bool := decide (0 ≤ a ∧ 0 ≤ b ∧ 0 ≤ m ∧ m ≤ 2)
def roV (a b m : Int) : Int := if roG a b m then sgV (rootN (a.toNat * b.toNat) m) false else 0
def roO (a b m : Int) : Bool := if roG a b m then sgO (rootN (a.toNat * b.toNat) m) false else false
set_option maxHeartbeats 1000000 in
theorem rootF_yes (a b m : Int) (w : World) (ha : 0 ≤ a) (ha1 : a ≤ 9223372036854775807) (hb : 0 ≤ b) (hb1 : b ≤ 9223372036854775807) (hm : 0 ≤ m) (hm2 : m ≤ 2) :
    Calls Try.prog 28 #[.int .i64 a, .int .i64 b, .int .i64 m] w fun e w' => e = .returned (.tuple #[.int .i64 (sgV (rootN (a.toNat * b.toNat) m) false), .bool (sgO (rootN (a.toNat * b.toNat) m) false)]) ∧ Below w.heap.size w w' := by
  obtain ⟨x, rfl⟩ := Int.eq_ofNat_of_zero_le ha
  obtain ⟨y, rfl⟩ := Int.eq_ofNat_of_zero_le hb
  have hP : x * y < 85070591730234615865843651857942052864 := by
    have h := Nat.mul_le_mul (show x ≤ 9223372036854775807 by omega) (show y ≤ 9223372036854775807 by omega)
    exact Nat.lt_of_le_of_lt h (by decide)
  have HR := fun w => Lib.hid (root_any (x * y) m hP w)
  have HX : Hid (x < 18446744073709551616) := by show x < _; omega
  have HY : Hid (y < 18446744073709551616) := by show y < _; omega
  clear hP
  have HK := Lib.hid (known_yes m w hm hm2)
  have e0 : decide ((x : Int) < 0) = false := by simp
  have e1 : decide ((y : Int) < 0) = false := by simp
  go_enter Try.func28, Try.ntmps28
  go_wp2_with fail
  refine HK.out.mono ?_
  rintro e w' ⟨rfl, rfl⟩
  go_wp2_with fail
  refine (product_any x y HX.out HY.out _).mono ?_
  rintro e w1 ⟨rfl, hb1⟩
  go_wp2_with fail
  refine (HR _).out.mono ?_
  rintro e w2 ⟨rfl, hb2⟩
  go_wp2_with fail
  go_ret2
  exact ⟨rfl, btW hb1 hb2⟩
set_option maxHeartbeats 1000000 in
theorem rootF_no (a b m : Int) (w : World) (h : a < 0 ∨ b < 0 ∨ m < 0 ∨ 2 < m) :
    Calls Try.prog 28 #[.int .i64 a, .int .i64 b, .int .i64 m] w fun e w' => e = .returned (.tuple #[.int .i64 0, .bool false]) ∧ Below w.heap.size w w' := by
  by_cases ha : a < 0
  · clear h
    go_enter Try.func28, Try.ntmps28
    go_wp2_with fail
    go_ret2
    exact ⟨rfl, Below.refl _ _⟩
  by_cases hb : b < 0
  · have e0 : decide (a < 0) = false := by simpa using ha
    clear h
    go_enter Try.func28, Try.ntmps28
    go_wp2_with fail
    go_ret2
    exact ⟨rfl, Below.refl _ _⟩
  have HK := Lib.hid (known_no m w (by omega))
  have e0 : decide (a < 0) = false := by simpa using ha
  have e1 : decide (b < 0) = false := by simpa using hb
  clear h
  go_enter Try.func28, Try.ntmps28
  go_wp2_with fail
  refine HK.out.mono ?_
  rintro e w' ⟨rfl, rfl⟩
  go_wp2_with fail
  go_ret2
  exact ⟨rfl, Below.refl _ _⟩
/-- WHAT Root GIVES -/
theorem rootF_any (a b m : Int) (w : World) (ha1 : a ≤ 9223372036854775807) (hb1 : b ≤ 9223372036854775807) :
    Calls Try.prog 28 #[.int .i64 a, .int .i64 b, .int .i64 m] w fun e w' => e = .returned (.tuple #[.int .i64 (roV a b m), .bool (roO a b m)]) ∧ Below w.heap.size w w' := by
  unfold roV roO
  by_cases h : 0 ≤ a ∧ 0 ≤ b ∧ 0 ≤ m ∧ m ≤ 2
  · have e : roG a b m = true := decide_eq_true h
    rw [e]; exact rootF_yes a b m w h.1 ha1 h.2.1 hb1 h.2.2.1 h.2.2.2
  · have e : roG a b m = false := decide_eq_false h
    rw [e]; exact rootF_no a b m w (by omega)
end Go.Proofs.Ytoahcdnlnihehaa
