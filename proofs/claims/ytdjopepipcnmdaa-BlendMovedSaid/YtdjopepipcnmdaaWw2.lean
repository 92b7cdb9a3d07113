/- Proved here: what compare of package wide returns, for all numbers of 128 bits. -/
import Derived.Test.YtdjopepipcnmdaaWw1
namespace Go.Proofs.Ytdjopepipcnmdaa
open Go.RowKit
set_option linter.unusedVariables false
def cmpP (a b c d : Int) : Int := if a < c ∨ (a = c ∧ b < d) then -1 else if a = c ∧ b = d then 0 else 1
theorem cmpP_lt {a b c d : Int} (h : a < c ∨ (a = c ∧ b < d)) : cmpP a b c d = -1 := if_pos h
theorem cmpP_eq (a b : Int) : cmpP a b a b = 0 := by unfold cmpP; rw [if_neg (by omega), if_pos (by omega)]
theorem cmpP_gt {a b c d : Int} (h : ¬ (a < c ∨ (a = c ∧ b < d))) (h2 : ¬ (a = c ∧ b = d)) : cmpP a b c d = 1 := by unfold cmpP; rw [if_neg h, if_neg h2]
theorem ab2 {w : World} (o o' : Obj) : Below w.heap.size w ((w.alloc o).alloc o') := ((Below.refl _ _).alloc (Nat.le_refl _) _).alloc (by simp) _
set_option maxHeartbeats 400000 in
theorem compare_raw (a b c d : Int) (w : World) (ha : 0 ≤ a) (hb : 0 ≤ b) (hc : 0 ≤ c) (hd : 0 ≤ d) :
    Calls Try.prog 56 #[.agg #[.int .u64 a, .int .u64 b], .agg #[.int .u64 c, .int .u64 d]] w fun e w' => e = .returned (.int .i64 (cmpP a b c d)) ∧ Below w.heap.size w w' := by
  by_cases h1 : a < c
  · have e := cmpP_lt (a := a) (b := b) (c := c) (d := d) (Or.inl h1)
    rw [e]
    clear e
    go_enter Try.func56, Try.ntmps56
    go_wp2
    go_ret
    exact ⟨rfl, ab2 _ _⟩
  by_cases h2 : a = c
  · subst h2
    have f0 : decide (a < a) = false := by simp
    by_cases h3 : b < d
    · have e := cmpP_lt (a := a) (b := b) (c := a) (d := d) (Or.inr ⟨rfl, h3⟩)
      rw [e]
      clear e h1
      go_enter Try.func56, Try.ntmps56
      go_wp2
      go_ret
      exact ⟨rfl, ab2 _ _⟩
    by_cases h4 : b = d
    · subst h4
      rw [cmpP_eq]
      clear h1 h3
      have f1 : decide (b < b) = false := by simp
      go_enter Try.func56, Try.ntmps56
      go_wp2
      go_ret
      exact ⟨rfl, ab2 _ _⟩
    · have e1 : (b == d) = false := by simpa using h4
      have f1 : decide (b < d) = false := by simpa using h3
      have e := cmpP_gt (a := a) (b := b) (c := a) (d := d) (by omega) (by omega)
      rw [e]
      clear e h1
      go_enter Try.func56, Try.ntmps56
      go_wp2
      go_ret
      exact ⟨rfl, ab2 _ _⟩
  · have e1 : (a == c) = false := by simpa using h2
    have f1 : decide (a < c) = false := by simpa using h1
    have e := cmpP_gt (a := a) (b := b) (c := c) (d := d) (by omega) (by omega)
    rw [e]
    clear e
    go_enter Try.func56, Try.ntmps56
    go_wp2
    go_ret
    exact ⟨rfl, ab2 _ _⟩
/-- comparison of numbers -/
def cmpN (P Q : Nat) : Int := if P < Q then -1 else if P = Q then 0 else 1
theorem cmpP_N (P Q : Nat) : cmpP ((P / 18446744073709551616 : Nat) : Int) ((P % 18446744073709551616 : Nat) : Int) ((Q / 18446744073709551616 : Nat) : Int) ((Q % 18446744073709551616 : Nat) : Int) = cmpN P Q := by
  unfold cmpN
  by_cases h1 : P < Q
  · rw [if_pos h1]; exact cmpP_lt (by omega)
  · by_cases h2 : P = Q
    · subst h2; rw [if_neg h1, if_pos rfl]; exact cmpP_eq _ _
    · rw [if_neg h1, if_neg h2]; exact cmpP_gt (by omega) (by omega)
theorem compare_any (P Q : Nat) (w : World) :
    Calls Try.prog 56 #[pairV P, pairV Q] w fun e w' => e = .returned (.int .i64 (cmpN P Q)) ∧ Below w.heap.size w w' := by
  have h := compare_raw ((P / 18446744073709551616 : Nat) : Int) ((P % 18446744073709551616 : Nat) : Int) ((Q / 18446744073709551616 : Nat) : Int) ((Q % 18446744073709551616 : Nat) : Int) w (by omega) (by omega) (by omega) (by omega)
  rw [cmpP_N] at h
  exact h
end Go.Proofs.Ytdjopepipcnmdaa
