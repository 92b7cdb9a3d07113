/- Proved here: what Over of package wide returns, refusals too; and the sanity check of the laws on package wide returns true. -/
import Derived.Test.YtoahcdnlnihehaaWo2
import Derived.Test.YtoahcdnlnihehaaWr5
import Derived.Test.YtoahcdnlnihehaaWq1
import Derived.Test.YtoahcdnlnihehaaWq2
import Derived.Test.YtoahcdnlnihehaaWc1
namespace Go.Proofs.Ytoahcdnlnihehaa
open Go.RowKit
set_option linter.unusedVariables false
set_option maxHeartbeats 1000000 in
theorem over_no (a b n m : Int) (w : World) (ha : -9223372036854775808 ≤ a) (ha2 : a ≤ 9223372036854775807) (hb : -9223372036854775808 ≤ b) (hb2 : b ≤ 9223372036854775807) (h : 2147483648 < a.natAbs ∨ 2147483648 < b.natAbs ∨ n < 1 ∨ 4611686018427387904 < n ∨ m < 0 ∨ 2 < m) :
    Calls Try.prog 25 #[.int .i64 a, .int .i64 b, .int .i64 n, .int .i64 m] w fun e w' => e = .returned (.tuple #[.int .i64 0, .bool false]) ∧ Below w.heap.size w w' := by
  have SA := fun w => Lib.hid (size_any a w ha ha2)
  have SB := fun w => Lib.hid (size_any b w hb hb2)
  by_cases c1 : 2147483648 < a.natAbs
  · clear h
    go_enter Try.func25, Try.ntmps25
    go_wp2_with fail
    refine (SA _).out.mono ?_
    rintro e w' ⟨rfl, rfl⟩
    go_wp2_with fail
    go_ret2
    exact ⟨rfl, Below.refl _ _⟩
  by_cases c2 : 2147483648 < b.natAbs
  · clear h
    go_enter Try.func25, Try.ntmps25
    go_wp2_with fail
    refine (SA _).out.mono ?_
    rintro e w' ⟨rfl, rfl⟩
    go_wp2_with fail
    refine (SB _).out.mono ?_
    rintro e w' ⟨rfl, rfl⟩
    go_wp2_with fail
    go_ret2
    exact ⟨rfl, Below.refl _ _⟩
  by_cases c3 : n < 1
  · clear h
    go_enter Try.func25, Try.ntmps25
    go_wp2_with fail
    refine (SA _).out.mono ?_
    rintro e w' ⟨rfl, rfl⟩
    go_wp2_with fail
    refine (SB _).out.mono ?_
    rintro e w' ⟨rfl, rfl⟩
    go_wp2_with fail
    go_ret2
    exact ⟨rfl, Below.refl _ _⟩
  by_cases c4 : 4611686018427387904 < n
  · clear h
    go_enter Try.func25, Try.ntmps25
    go_wp2_with fail
    refine (SA _).out.mono ?_
    rintro e w' ⟨rfl, rfl⟩
    go_wp2_with fail
    refine (SB _).out.mono ?_
    rintro e w' ⟨rfl, rfl⟩
    go_wp2_with fail
    go_ret2
    exact ⟨rfl, Below.refl _ _⟩
  · have HK := Lib.hid (known_no m w (by omega))
    clear h
    go_enter Try.func25, Try.ntmps25
    go_wp2_with fail
    refine (SA _).out.mono ?_
    rintro e w' ⟨rfl, rfl⟩
    go_wp2_with fail
    refine (SB _).out.mono ?_
    rintro e w' ⟨rfl, rfl⟩
    go_wp2_with fail
    refine HK.out.mono ?_
    rintro e w' ⟨rfl, rfl⟩
    go_wp2_with fail
    go_ret2
    exact ⟨rfl, Below.refl _ _⟩
/-- WHAT Over GIVES -/
theorem over_any (a b n m : Int) (w : World) (ha : -9223372036854775808 ≤ a) (ha2 : a ≤ 9223372036854775807) (hb : -9223372036854775808 ≤ b) (hb2 : b ≤ 9223372036854775807) :
    Calls Try.prog 25 #[.int .i64 a, .int .i64 b, .int .i64 n, .int .i64 m] w fun e w' => e = .returned (.tuple #[.int .i64 (ovV a b n m), .bool (ovO a b n m)]) ∧ Below w.heap.size w w' := by
  unfold ovV ovO
  by_cases h : a.natAbs ≤ 2147483648 ∧ b.natAbs ≤ 2147483648 ∧ 1 ≤ n ∧ n ≤ 4611686018427387904 ∧ 0 ≤ m ∧ m ≤ 2
  · have e : ovG a b n m = true := decide_eq_true h
    rw [e]; exact over_yes a b n m w h.1 h.2.1 h.2.2.1 h.2.2.2.1 h.2.2.2.2.1 h.2.2.2.2.2
  · have e : ovG a b n m = false := decide_eq_false h
    rw [e]; exact over_no a b n m w ha ha2 hb hb2 (by omega)
theorem aw_md : mdV 7 (-1) 2 2 = -3 ∧ mdO 7 (-1) 2 2 = true := by decide +kernel
theorem aw_sq : sqV 12 2 = 3 ∧ sqO 12 2 = true := by decide +kernel
theorem aw_ov : ovV 10 10 2 1 = 71 ∧ ovO 10 10 2 1 = true := by decide +kernel
theorem aw_cmp : cmpZ (2 * 3) (1 * 5) = 1 := by decide +kernel
set_option maxHeartbeats 1000000 in
theorem awake_any (w : World) : Calls Try.prog 17 #[] w fun e w' => e = .returned (.bool true) ∧ Below w.heap.size w w' := by
  have M1 := fun w => Lib.hid (muldiv_any 7 (-1) 2 2 w (by omega) (by omega) (by omega) (by omega) (by omega) (by omega))
  have S1 := fun w => Lib.hid (sqrt_any 12 2 w (by omega))
  have O1 := fun w => Lib.hid (over_any 10 10 2 1 w (by omega) (by omega) (by omega) (by omega))
  have C1 := fun w => Lib.hid (cmp_any 2 3 1 5 w (by omega) (by omega) (by omega) (by omega) (by omega) (by omega) (by omega) (by omega))
  rw [aw_md.1, aw_md.2] at M1
  rw [aw_sq.1, aw_sq.2] at S1
  rw [aw_ov.1, aw_ov.2] at O1
  rw [aw_cmp] at C1
  go_enter Try.func17, Try.ntmps17
  go_wp2_with fail
  refine (M1 _).out.mono ?_
  rintro e w1 ⟨rfl, hb1⟩
  go_wp2_with fail
  refine (S1 _).out.mono ?_
  rintro e w2 ⟨rfl, hb2⟩
  go_wp2_with fail
  refine (O1 _).out.mono ?_
  rintro e w3 ⟨rfl, hb3⟩
  go_wp2_with fail
  refine (C1 _).out.mono ?_
  rintro e w4 ⟨rfl, hb4⟩
  go_wp2_with fail
  go_ret
  exact ⟨rfl, btW (btW (btW hb1 hb2) hb3) hb4⟩
end Go.Proofs.Ytoahcdnlnihehaa
