/- Proved here: what grows of package wide returns; every argument. -/
import Derived.Test.YtdjopepipcnmdaaWw3
namespace Go.Proofs.Ytdjopepipcnmdaa
open Go.RowKit
set_option linter.unusedVariables false
theorem grI_0 (more : Int) (so neg : Bool) : grI 0 more so neg = (so && neg) := if_pos rfl
theorem grI_1 (more : Int) (so neg : Bool) : grI 1 more so neg = (so && !neg) := by unfold grI; rw [if_neg (by decide), if_pos rfl]
theorem grI_2 {m more : Int} (so neg : Bool) (h0 : m ≠ 0) (h1 : m ≠ 1) : grI m more so neg = (decide (0 < more) || (decide (more = 0) && !neg)) := by unfold grI; rw [if_neg h0, if_neg h1]
set_option maxHeartbeats 1000000 in
theorem grows_any (m more : Int) (so neg : Bool) (w : World) :
    Calls Try.prog 47 #[.int .i64 m, .int .i64 more, .bool so, .bool neg] w fun e w' => e = .returned (.bool (grI m more so neg)) ∧ w = w' := by
  by_cases h0 : m = 0
  · subst h0
    rw [grI_0]
    cases so <;> cases neg <;>
    · go_enter Try.func47, Try.ntmps47
      go_wp2
      go_ret
      exact ⟨rfl, rfl⟩
  by_cases h1 : m = 1
  · subst h1
    rw [grI_1]
    cases so <;> cases neg <;>
    · go_enter Try.func47, Try.ntmps47
      go_wp2
      go_ret
      exact ⟨rfl, rfl⟩
  have e0 : (m == 0) = false := by simpa using h0
  have e1 : (m == 1) = false := by simpa using h1
  rw [grI_2 so neg h0 h1]
  clear h0 h1
  by_cases h2 : 0 < more
  · rw [decide_eq_true h2, Bool.true_or]
    go_enter Try.func47, Try.ntmps47
    go_wp2
    go_ret
    exact ⟨rfl, rfl⟩
  have e2 : decide (0 < more) = false := decide_eq_false h2
  by_cases h3 : more = 0
  · subst h3
    rw [e2]
    cases neg <;>
    · go_enter Try.func47, Try.ntmps47
      go_wp2
      go_ret
      exact ⟨rfl, rfl⟩
  have e3 : (more == 0) = false := by simpa using h3
  rw [e2, decide_eq_false h3, Bool.false_and, Bool.or_false]
  clear h3
  go_enter Try.func47, Try.ntmps47
  go_wp2
  go_ret
  exact ⟨rfl, rfl⟩
end Go.Proofs.Ytdjopepipcnmdaa
