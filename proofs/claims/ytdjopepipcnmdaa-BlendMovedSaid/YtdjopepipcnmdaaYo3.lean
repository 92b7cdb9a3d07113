/- Proved here: what Over of package wide returns, refusals too. -/
import Derived.Test.YtdjopepipcnmdaaYo2
import Derived.Test.YtdjopepipcnmdaaWq2
namespace Go.Proofs.Ytdjopepipcnmdaa
open Go.RowKit
set_option linter.unusedVariables false
set_option maxHeartbeats 1000000 in
theorem over_no (a b n m : Int) (w : World) (ha : -9223372036854775808 ≤ a) (ha2 : a ≤ 9223372036854775807) (hb : -9223372036854775808 ≤ b) (hb2 : b ≤ 9223372036854775807) (h : 2147483648 < a.natAbs ∨ 2147483648 < b.natAbs ∨ n < 1 ∨ 4611686018427387904 < n ∨ m < 0 ∨ 2 < m) :
    Calls Try.prog 30 #[.int .i64 a, .int .i64 b, .int .i64 n, .int .i64 m] w fun e w' => e = .returned (.tuple #[.int .i64 0, .bool false]) ∧ Below w.heap.size w w' := by
  have SA := fun w => Lib.hid (size_any a w ha ha2)
  have SB := fun w => Lib.hid (size_any b w hb hb2)
  by_cases c1 : 2147483648 < a.natAbs
  · clear h
    go_enter Try.func30, Try.ntmps30
    go_wp2_with fail
    refine (SA _).out.mono ?_
    rintro e w' ⟨rfl, rfl⟩
    go_wp2_with fail
    go_ret2
    exact ⟨rfl, Below.refl _ _⟩
  by_cases c2 : 2147483648 < b.natAbs
  · clear h
    go_enter Try.func30, Try.ntmps30
    go_wp2_with fail
    refine (SA _).out.mono ?_
    rintro e w' ⟨rfl, rfl⟩
    go_wp2_with fail
    refine (SB _).out.mono ?_
    rintro e w' ⟨rfl, rfl⟩
    go_wp2_with fail
    go_ret2
    exact ⟨rfl, Below.refl _ _⟩
  by_cases c3 : n < 1
  · clear h
    go_enter Try.func30, Try.ntmps30
    go_wp2_with fail
    refine (SA _).out.mono ?_
    rintro e w' ⟨rfl, rfl⟩
    go_wp2_with fail
    refine (SB _).out.mono ?_
    rintro e w' ⟨rfl, rfl⟩
    go_wp2_with fail
    go_ret2
    exact ⟨rfl, Below.refl _ _⟩
  by_cases c4 : 4611686018427387904 < n
  · clear h
    go_enter Try.func30, Try.ntmps30
    go_wp2_with fail
    refine (SA _).out.mono ?_
    rintro e w' ⟨rfl, rfl⟩
    go_wp2_with fail
    refine (SB _).out.mono ?_
    rintro e w' ⟨rfl, rfl⟩
    go_wp2_with fail
    go_ret2
    exact ⟨rfl, Below.refl _ _⟩
  · have HK := Lib.hid (known_no m w (by omega))
    clear h
    go_enter Try.func30, Try.ntmps30
    go_wp2_with fail
    refine (SA _).out.mono ?_
    rintro e w' ⟨rfl, rfl⟩
    go_wp2_with fail
    refine (SB _).out.mono ?_
    rintro e w' ⟨rfl, rfl⟩
    go_wp2_with fail
    refine HK.out.mono ?_
    rintro e w' ⟨rfl, rfl⟩
    go_wp2_with fail
    go_ret2
    exact ⟨rfl, Below.refl _ _⟩
/-- WHAT Over GIVES -/
theorem over_any (a b n m : Int) (w : World) (ha : -9223372036854775808 ≤ a) (ha2 : a ≤ 9223372036854775807) (hb : -9223372036854775808 ≤ b) (hb2 : b ≤ 9223372036854775807) :
    Calls Try.prog 30 #[.int .i64 a, .int .i64 b, .int .i64 n, .int .i64 m] w fun e w' => e = .returned (.tuple #[.int .i64 (ovV a b n m), .bool (ovO a b n m)]) ∧ Below w.heap.size w w' := by
  unfold ovV ovO
  by_cases h : a.natAbs ≤ 2147483648 ∧ b.natAbs ≤ 2147483648 ∧ 1 ≤ n ∧ n ≤ 4611686018427387904 ∧ 0 ≤ m ∧ m ≤ 2
  · have e : ovG a b n m = true := decide_eq_true h
    rw [e]; exact over_yes a b n m w h.1 h.2.1 h.2.2.1 h.2.2.2.1 h.2.2.2.2.1 h.2.2.2.2.2
  · have e : ovG a b n m = false := decide_eq_false h
    rw [e]; exact over_no a b n m w ha ha2 hb hb2 (by omega)
end Go.Proofs.Ytdjopepipcnmdaa
