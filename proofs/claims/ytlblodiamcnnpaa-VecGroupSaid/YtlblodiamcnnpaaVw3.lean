/- Proved here: what Within, Length and the sanity check of the statements on vectors return; every argument in the stated ranges. -/
import Derived.Test.YtlblodiamcnnpaaVw2
namespace Go.Proofs.Ytlblodiamcnnpaa
open Go.RowKit
set_option linter.unusedVariables false
def inI (n : Int) : Bool := decide (-1048576 ≤ n ∧ n ≤ 1048576)
theorem inside_any (n : Int) (w : World) : Calls Try.prog 42 #[.int .i64 n] w fun e w' => e = .returned (.bool (inI n)) ∧ w = w' := by
  by_cases h1 : -1048576 ≤ n
  · by_cases h2 : n ≤ 1048576
    · have e : inI n = true := decide_eq_true ⟨h1, h2⟩
      rw [e]; clear e
      go_enter Try.func42, Try.ntmps42
      go_wp2
      go_ret
      exact ⟨rfl, rfl⟩
    · have e : inI n = false := decide_eq_false (fun g => h2 g.2)
      have d : decide (n ≤ 1048576) = false := decide_eq_false h2
      rw [e]; clear e
      go_enter Try.func42, Try.ntmps42
      go_wp2
      go_ret
      exact ⟨rfl, rfl⟩
  · have e : inI n = false := decide_eq_false (fun g => h1 g.1)
    have d : decide (-1048576 ≤ n) = false := decide_eq_false h1
    rw [e]; clear e
    go_enter Try.func42, Try.ntmps42
    go_wp2
    go_ret
    exact ⟨rfl, rfl⟩
theorem inR_any (n : Int) (w : World) : Calls Try.prog 43 #[.int .i64 n, .int .i64 1048576] w fun e w' => e = .returned (.bool (inI n)) ∧ w = w' := by
  by_cases h1 : -1048576 ≤ n
  · by_cases h2 : n ≤ 1048576
    · have e : inI n = true := decide_eq_true ⟨h1, h2⟩
      rw [e]; clear e
      go_enter Try.func43, Try.ntmps43
      go_wp2
      go_ret
      exact ⟨rfl, rfl⟩
    · have e : inI n = false := decide_eq_false (fun g => h2 g.2)
      have d : decide (n ≤ 1048576) = false := decide_eq_false h2
      rw [e]; clear e
      go_enter Try.func43, Try.ntmps43
      go_wp2
      go_ret
      exact ⟨rfl, rfl⟩
  · have e : inI n = false := decide_eq_false (fun g => h1 g.1)
    have d : decide (-1048576 ≤ n) = false := decide_eq_false h1
    rw [e]; clear e
    go_enter Try.func43, Try.ntmps43
    go_wp2
    go_ret
    exact ⟨rfl, rfl⟩
def wiI (x y z : Int) : Bool := inI x && inI y && inI z
theorem b1 {w : World} (o : Obj) : Below w.heap.size w (w.alloc o) := (Below.refl _ _).alloc (Nat.le_refl _) _
set_option maxHeartbeats 1000000 in
theorem within_any (x y z : Int) (w : World) : Calls Try.prog 25 #[.agg #[.int .i64 x, .int .i64 y, .int .i64 z]] w fun e w' => e = .returned (.bool (wiI x y z)) ∧ Below w.heap.size w w' := by
  have I1 := fun w => Lib.hid (inside_any x w)
  have I2 := fun w => Lib.hid (inside_any y w)
  have I3 := fun w => Lib.hid (inside_any z w)
  unfold wiI
  cases h1 : inI x <;> cases h2 : inI y <;> cases h3 : inI z <;> rw [h1] at I1 <;> rw [h2] at I2 <;> rw [h3] at I3 <;> clear h1 h2 h3
  all_goals
    go_enter Try.func25, Try.ntmps25
    go_wp2_with fail
    refine (I1 _).out.mono ?_
    rintro e w' ⟨rfl, rfl⟩
    go_wp2_with fail
    first
      | (go_ret; exact ⟨rfl, b1 _⟩)
      | (refine (I2 _).out.mono ?_
         rintro e w' ⟨rfl, rfl⟩
         go_wp2_with fail
         first
           | (go_ret; exact ⟨rfl, b1 _⟩)
           | (refine (I3 _).out.mono ?_
              rintro e w' ⟨rfl, rfl⟩
              go_wp2_with fail
              go_ret; exact ⟨rfl, b1 _⟩))
set_option maxHeartbeats 1000000 in
theorem withinR_any (x y z : Int) (w : World) : Calls Try.prog 26 #[.agg #[.int .i64 x, .int .i64 y, .int .i64 z]] w fun e w' => e = .returned (.bool (wiI x y z)) ∧ Below w.heap.size w w' := by
  have I1 := fun w => Lib.hid (inR_any x w)
  have I2 := fun w => Lib.hid (inR_any y w)
  have I3 := fun w => Lib.hid (inR_any z w)
  unfold wiI
  cases h1 : inI x <;> cases h2 : inI y <;> cases h3 : inI z <;> rw [h1] at I1 <;> rw [h2] at I2 <;> rw [h3] at I3 <;> clear h1 h2 h3
  all_goals
    go_enter Try.func26, Try.ntmps26
    go_wp2_with fail
    refine (I1 _).out.mono ?_
    rintro e w' ⟨rfl, rfl⟩
    go_wp2_with fail
    first
      | (go_ret; exact ⟨rfl, b1 _⟩)
      | (refine (I2 _).out.mono ?_
         rintro e w' ⟨rfl, rfl⟩
         go_wp2_with fail
         first
           | (go_ret; exact ⟨rfl, b1 _⟩)
           | (refine (I3 _).out.mono ?_
              rintro e w' ⟨rfl, rfl⟩
              go_wp2_with fail
              go_ret; exact ⟨rfl, b1 _⟩))
set_option maxHeartbeats 1000000 in
theorem length_any (x y z m : Int) (w : World) (hx : Sm x) (hy : Sm y) (hz : Sm z) :
    Calls Try.prog 15 #[.agg #[.int .i64 x, .int .i64 y, .int .i64 z], .int .i64 m] w fun e w' => e = .returned (.tuple #[.int .i64 (sqV (x * x + y * y + z * z) m), .bool (sqO (x * x + y * y + z * z) m)]) ∧ Below w.heap.size w w' := by
  have HB : Hid (x * x + y * y + z * z ≤ 9223372036854775807) := by
    have h1 := hx.mul hx
    have h2 := hy.mul hy
    have h3 := hz.mul hz
    show x * x + y * y + z * z ≤ 9223372036854775807
    omega
  go_enter Try.func15, Try.ntmps15
  go_wp2_with fail
  refine (dotP_any x y z x y z _ hx hy hz hx hy hz).mono ?_
  rintro e w1 ⟨rfl, hb1⟩
  go_wp2_with fail
  refine (sqrt_any _ m _ HB.out).mono ?_
  rintro e w2 ⟨rfl, hb2⟩
  go_wp2_with fail
  go_ret2
  exact ⟨rfl, btW ((b1 _).trans (hb1.mono (by simp))) hb2⟩
theorem aw_len : sqV 169 0 = 13 ∧ sqO 169 0 = true := by decide +kernel
set_option maxHeartbeats 1000000 in
theorem awake_any (w : World) : Calls Try.prog 18 #[] w fun e w' => e = .returned (.bool true) ∧ Below w.heap.size w w' := by
  have HL := fun w => Lib.hid (length_any 3 4 12 0 w ⟨by omega, by omega⟩ ⟨by omega, by omega⟩ ⟨by omega, by omega⟩)
  have e : (3 * 3 + 4 * 4 + 12 * 12 : Int) = 169 := rfl
  rw [e, aw_len.1, aw_len.2] at HL
  clear e
  go_enter Try.func18, Try.ntmps18
  go_wp2_with fail
  refine (HL _).out.mono ?_
  rintro e w1 ⟨rfl, hb1⟩
  go_wp2_with fail
  refine (flatP_18 _ _ _ _).mono ?_
  rintro e w2 ⟨rfl, hb2⟩
  go_wp2_with fail
  go_ret
  exact ⟨rfl, btW hb1 (hb2.alloc hb2.size _)⟩
end Go.Proofs.Ytlblodiamcnnpaa
