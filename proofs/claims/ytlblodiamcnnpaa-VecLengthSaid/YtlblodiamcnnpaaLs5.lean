/- Proved here: the reference's magnitude, modes and product; no conditions but that integers are ints. -/
import Derived.Test.YtlblodiamcnnpaaLr4
import Derived.Test.YtlblodiamcnnpaaWr4
namespace Go.Proofs.Ytlblodiamcnnpaa
open Go.RowKit
set_option linter.unusedVariables false
set_option maxHeartbeats 400000 in
theorem magR_any (n : Int) (w : World) (h1 : -9223372036854775808 ≤ n) (h2 : n ≤ 9223372036854775807) :
    Calls Try.prog 62 #[.int .i64 n] w fun e w' => e = .returned (.int .u64 (n.natAbs : Int)) ∧ w = w' := by
  by_cases h : n < 0
  · go_enter Try.func62, Try.ntmps62
    go_wp2
    go_ret
    exact ⟨ret_u64 (by omega), rfl⟩
  · go_enter Try.func62, Try.ntmps62
    go_wp2
    go_ret
    exact ⟨ret_u64 (by omega), rfl⟩
theorem rightR_yes (m : Int) (w : World) (h1 : 0 ≤ m) (h2 : m ≤ 2) :
    Calls Try.prog 55 #[.int .i64 m] w fun e w' => e = .returned (.bool true) ∧ w = w' := by
  have h3 : m = 0 ∨ m = 1 ∨ m = 2 := by omega
  rcases h3 with rfl | rfl | rfl <;>
  · go_enter Try.func55, Try.ntmps55
    go_wp2
    go_ret
    exact ⟨rfl, rfl⟩
theorem rightR_no (m : Int) (w : World) (h : m < 0 ∨ 2 < m) :
    Calls Try.prog 55 #[.int .i64 m] w fun e w' => e = .returned (.bool false) ∧ w = w' := by
  have e0 : (m == 0) = false := by simp; omega
  have e1 : (m == 1) = false := by simp; omega
  have e2 : (m == 2) = false := by simp; omega
  clear h
  go_enter Try.func55, Try.ntmps55
  go_wp2
  go_ret
  exact ⟨rfl, rfl⟩
theorem abs4 {a : Int} (h1 : -9223372036854775808 ≤ a) (h2 : a ≤ 9223372036854775807) : a.natAbs < 18446744073709551616 ∧ (dg a.natAbs).length ≤ 4 := by
  have h : a.natAbs < 18446744073709551616 := by omega
  exact ⟨h, dg_len 4 _ h⟩
theorem prod8 {X Y : Nat} (h1 : X < 18446744073709551616) (h2 : Y < 18446744073709551616) : (dg (X * Y)).length ≤ 8 := dg_len 8 _ (Nat.lt_of_lt_of_le (Nat.mul_lt_mul'' h1 h2) (by decide))
set_option maxHeartbeats 1000000 in
theorem productR_any (a b : Int) (w : World) (la : -9223372036854775808 ≤ a) (ha : a ≤ 9223372036854775807) (lb : -9223372036854775808 ≤ b) (hb : b ≤ 9223372036854775807) :
    Calls Try.prog 57 #[.int .i64 a, .int .i64 b] w fun e w' => ∃ r, e = .returned r ∧ Sl w' r (dg (a.natAbs * b.natAbs)) ∧ Below w.heap.size w w' := by
  have HA := Lib.hid (abs4 la ha)
  have HB := Lib.hid (abs4 lb hb)
  go_enter Try.func57, Try.ntmps57
  go_wp2_with fail
  refine (magR_any a _ la ha).mono ?_
  rintro e w' ⟨rfl, rfl⟩
  go_wp2_with fail
  refine (limbs_any _ HA.out.1 _).mono ?_
  rintro e w1 ⟨u, rfl, hu, hb1⟩
  go_wp2_with fail
  refine (magR_any b _ lb hb).mono ?_
  rintro e w' ⟨rfl, rfl⟩
  go_wp2_with fail
  refine (limbs_any _ HB.out.1 _).mono ?_
  rintro e w2 ⟨v, rfl, hv, hb2⟩
  go_wp2_with fail
  refine (mulL_any _ _ u v _ (hu.next hb2) hv (by have := HA.out.2; omega) (by have := HB.out.2; omega)).mono ?_
  rintro e w3 ⟨r, rfl, hr, hb3⟩
  go_wp2_with fail
  go_ret
  exact ⟨_, rfl, hr, btW (btW hb1 hb2) hb3⟩
end Go.Proofs.Ytlblodiamcnnpaa
