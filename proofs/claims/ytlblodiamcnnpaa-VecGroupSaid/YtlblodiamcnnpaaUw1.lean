/- Proved here: what Mod and Between of the package that makes numbers return, for every argument in the stated bounds. -/
import Derived.Test.YtlblodiamcnnpaaRows
import Derived.WalkKit
import Derived.WalkSpells
import Derived.WalkLawsBesides
import Derived.Lib.Hide
namespace Go.Proofs.Ytlblodiamcnnpaa
open Go.RowKit
set_option linter.unusedVariables false

theorem tmod_hi (a : Int) {b : Int} (hb : 0 < b) : a.tmod b < b := Int.tmod_lt_of_pos a hb
theorem tmod_lo (a : Int) {b : Int} (hb : 0 < b) : -b < a.tmod b := by
  have := Int.tmod_lt_of_pos (-a) hb
  rw [Int.neg_tmod] at this; omega
theorem tmod_pos {a b : Int} (hb : 0 < b) (h : 0 ≤ a.tmod b) : a.tmod b = a % b := by
  have h1 := tmod_hi a hb
  have h2 := Int.mul_tdiv_add_tmod a b
  have h4 : (b * a.tdiv b + a.tmod b) % b = a.tmod b := by rw [Int.mul_add_emod_self_left, Int.emod_eq_of_lt h h1]
  rw [h2] at h4; exact h4.symm
theorem tmod_neg' {a b : Int} (hb : 0 < b) (h : a.tmod b < 0) : a.tmod b + b = a % b := by
  have h1 := tmod_lo a hb
  have h2 := Int.mul_tdiv_add_tmod a b
  have h3 : a = b * (a.tdiv b - 1) + (a.tmod b + b) := by rw [Int.mul_sub]; omega
  have h4 : (b * (a.tdiv b - 1) + (a.tmod b + b)) % b = a.tmod b + b := by
    rw [Int.mul_add_emod_self_left, Int.emod_eq_of_lt (by omega) (by omega)]
  rw [← h3] at h4; exact h4.symm

theorem ret_i64 {a b : Int} (h : a = b) : Ending.returned (.int .i64 a) = .returned (.int .i64 b) := by rw [h]
theorem ret_ii {a b c d : Int} (h : a = b) (g : c = d) : Ending.returned (.tuple #[.int .i64 a, .int .i64 c]) = .returned (.tuple #[.int .i64 b, .int .i64 d]) := by rw [h, g]

set_option maxHeartbeats 400000 in
theorem mod_any (a b : Int) (w : World) (ha : -9223372036854775808 ≤ a) (ha2 : a ≤ 9223372036854775807) (hb : 0 < b) (hb2 : b ≤ 9223372036854775807) :
    Calls Try.prog 17 #[.int .i64 a, .int .i64 b] w fun e w' => e = .returned (.int .i64 (a % b)) ∧ w = w' := by
  have h1 := tmod_hi a hb
  have h2 := tmod_lo a hb
  go_enter Try.func17, Try.ntmps17
  go_wp2
  · go_ret; exact ⟨ret_i64 (tmod_neg' hb (by assumption)), rfl⟩
  · go_ret; exact ⟨ret_i64 (tmod_pos hb (by assumption)), rfl⟩
set_option maxHeartbeats 400000 in
theorem between_any (v lo hi : Int) (w : World) (ha : -9223372036854775808 ≤ v) (ha2 : v ≤ 9223372036854775807) (hlo : -4611686018427387904 ≤ lo) (hlh : lo ≤ hi) (hhi : hi ≤ 4611686018427387904) (hd : hi - lo ≤ 9223372036854775806) :
    Calls Try.prog 24 #[.int .i64 v, .int .i64 lo, .int .i64 hi] w fun e w' => e = .returned (.int .i64 (lo + v % (hi - lo + 1))) ∧ w = w' := by
  have h1 := Int.emod_nonneg v (b := hi - lo + 1) (by omega)
  have h2 := Int.emod_lt_of_pos v (b := hi - lo + 1) (by omega)
  go_enter Try.func24, Try.ntmps24
  go_wp2_with (go_at_call 17; refine (mod_any _ _ _ (by omega) (by omega) (by omega) (by omega)).mono ?_; rintro e w' ⟨rfl, rfl⟩)
  go_ret; exact ⟨rfl, rfl⟩

/-- a number in a range, by name -/
theorem between_ex (v lo hi : Int) (w : World) (ha : -9223372036854775808 ≤ v) (ha2 : v ≤ 9223372036854775807) (hlo : -4611686018427387904 ≤ lo) (hlh : lo ≤ hi) (hhi : hi ≤ 4611686018427387904) (hd : hi - lo ≤ 9223372036854775806) :
    Calls Try.prog 24 #[.int .i64 v, .int .i64 lo, .int .i64 hi] w fun e w' => ∃ n : Int, lo ≤ n ∧ n ≤ hi ∧ e = .returned (.int .i64 n) ∧ w = w' := by
  have h1 := Int.emod_nonneg v (b := hi - lo + 1) (by omega)
  have h2 := Int.emod_lt_of_pos v (b := hi - lo + 1) (by omega)
  exact (between_any v lo hi w ha ha2 hlo hlh hhi hd).mono fun e w' ⟨he, hw⟩ => ⟨_, by omega, by omega, he, hw⟩
theorem mod_ex (a b : Int) (w : World) (ha : -9223372036854775808 ≤ a) (ha2 : a ≤ 9223372036854775807) (hb : 0 < b) (hb2 : b ≤ 9223372036854775807) :
    Calls Try.prog 17 #[.int .i64 a, .int .i64 b] w fun e w' => ∃ n : Int, 0 ≤ n ∧ n < b ∧ e = .returned (.int .i64 n) ∧ w = w' :=
  (mod_any a b w ha ha2 hb hb2).mono fun e w' ⟨he, hw⟩ => ⟨_, Int.emod_nonneg a (by omega), Int.emod_lt_of_pos a hb, he, hw⟩
end Go.Proofs.Ytlblodiamcnnpaa
