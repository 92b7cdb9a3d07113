/- Proved here: what sign, signed and grows of package wide return; every argument. -/
import Derived.Test.YtdjopepipcnmdaaWw1
namespace Go.Proofs.Ytdjopepipcnmdaa
open Go.RowKit
set_option linter.unusedVariables false
def sgI (a b : Int) : Int := if a = 0 ∨ b = 0 then 0 else if (a < 0 ∧ b < 0) ∨ (0 < a ∧ 0 < b) then 1 else -1
theorem sgI_zero {a b : Int} (h : a = 0 ∨ b = 0) : sgI a b = 0 := if_pos h
theorem sgI_pos {a b : Int} (h : (a < 0 ∧ b < 0) ∨ (0 < a ∧ 0 < b)) : sgI a b = 1 := by unfold sgI; rw [if_neg (by omega), if_pos h]
theorem sgI_neg {a b : Int} (h : (a < 0 ∧ 0 < b) ∨ (0 < a ∧ b < 0)) : sgI a b = -1 := by unfold sgI; rw [if_neg (by omega), if_neg (by omega)]
set_option maxHeartbeats 400000 in
theorem sign_any (a b : Int) (w : World) :
    Calls Try.prog 46 #[.int .i64 a, .int .i64 b] w fun e w' => e = .returned (.int .i64 (sgI a b)) ∧ w = w' := by
  by_cases ha : a = 0
  · rw [sgI_zero (Or.inl ha)]
    subst ha
    go_enter Try.func46, Try.ntmps46
    go_wp2
    go_ret
    exact ⟨rfl, rfl⟩
  have ea : (a == 0) = false := by simpa using ha
  by_cases hb : b = 0
  · rw [sgI_zero (Or.inr hb)]
    subst hb
    clear ha
    go_enter Try.func46, Try.ntmps46
    go_wp2
    go_ret
    exact ⟨rfl, rfl⟩
  have eb : (b == 0) = false := by simpa using hb
  by_cases la : a < 0 <;> by_cases lb : b < 0
  · rw [sgI_pos (by omega)]
    clear ha hb
    go_enter Try.func46, Try.ntmps46
    go_wp2
    go_ret
    exact ⟨rfl, rfl⟩
  · rw [sgI_neg (by omega)]
    have d : decide (b < 0) = false := by simpa using lb
    clear ha hb
    go_enter Try.func46, Try.ntmps46
    go_wp2
    go_ret
    exact ⟨rfl, rfl⟩
  · rw [sgI_neg (by omega)]
    have d : decide (a < 0) = false := by simpa using la
    clear ha hb
    go_enter Try.func46, Try.ntmps46
    go_wp2
    go_ret
    exact ⟨rfl, rfl⟩
  · rw [sgI_pos (by omega)]
    have d : decide (a < 0) = false := by simpa using la
    have d2 : decide (b < 0) = false := by simpa using lb
    clear ha hb
    go_enter Try.func46, Try.ntmps46
    go_wp2
    go_ret
    exact ⟨rfl, rfl⟩
/-- a number with a sign, if it is an int -/
def sgV (n : Nat) (neg : Bool) : Int := if neg then (if n ≤ 9223372036854775808 then -(n : Int) else 0) else (if n < 9223372036854775808 then (n : Int) else 0)
def sgO (n : Nat) (neg : Bool) : Bool := if neg then decide (n ≤ 9223372036854775808) else decide (n < 9223372036854775808)
theorem ret_ibw {a b : Int} {c d : Bool} (h : a = b) (g : c = d) : Ending.returned (.tuple #[.int .i64 a, .bool c]) = .returned (.tuple #[.int .i64 b, .bool d]) := by rw [h, g]
set_option maxHeartbeats 400000 in
theorem signed_any (n : Nat) (neg : Bool) (hn : n < 18446744073709551616) (w : World) :
    Calls Try.prog 48 #[.int .u64 n, .bool neg] w fun e w' => e = .returned (.tuple #[.int .i64 (sgV n neg), .bool (sgO n neg)]) ∧ w = w' := by
  have hn2 : (n : Int) ≤ 18446744073709551615 := by omega
  cases neg
  · by_cases h : (n : Int) < 9223372036854775808
    · have e1 : sgV n false = n := by unfold sgV; rw [if_neg (by decide), if_pos (by omega)]
      have e2 : sgO n false = true := by unfold sgO; rw [if_neg (by decide)]; exact decide_eq_true (by omega)
      rw [e1, e2]
      clear e1 e2 hn
      go_enter Try.func48, Try.ntmps48
      go_wp2
      go_ret2
      exact ⟨ret_ibw (by omega) rfl, rfl⟩
    · have e1 : sgV n false = 0 := by unfold sgV; rw [if_neg (by decide), if_neg (by omega)]
      have e2 : sgO n false = false := by unfold sgO; rw [if_neg (by decide)]; exact decide_eq_false (by omega)
      rw [e1, e2]
      clear e1 e2 hn
      go_enter Try.func48, Try.ntmps48
      go_wp2
      go_ret2
      exact ⟨rfl, rfl⟩
  · by_cases h : (n : Int) ≤ 9223372036854775808
    · have e1 : sgV n true = -(n : Int) := by unfold sgV; rw [if_pos rfl, if_pos (by omega)]
      have e2 : sgO n true = true := by unfold sgO; rw [if_pos rfl]; exact decide_eq_true (by omega)
      rw [e1, e2]
      clear e1 e2 hn
      go_enter Try.func48, Try.ntmps48
      go_wp2
      go_ret2
      refine ⟨ret_ibw ?_ rfl, rfl⟩
      unfold wrap64; rw [IntKind.wrap_u64]; omega
    · have e1 : sgV n true = 0 := by unfold sgV; rw [if_pos rfl, if_neg (by omega)]
      have e2 : sgO n true = false := by unfold sgO; rw [if_pos rfl]; exact decide_eq_false (by omega)
      rw [e1, e2]
      clear e1 e2 hn
      go_enter Try.func48, Try.ntmps48
      go_wp2
      go_ret2
      exact ⟨rfl, rfl⟩
/-- whether the truncated absolute value grows by 1 -/
def grI (m more : Int) (some neg : Bool) : Bool := if m = 0 then some && neg else if m = 1 then some && !neg else decide (0 < more) || (decide (more = 0) && !neg)
end Go.Proofs.Ytdjopepipcnmdaa
