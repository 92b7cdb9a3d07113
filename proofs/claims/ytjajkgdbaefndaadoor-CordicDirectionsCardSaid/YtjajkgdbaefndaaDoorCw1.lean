/- Proved here: the calls of remainder, Mod, Between and turned return what plain integer functions give, for every argument in the stated bounds. -/
import Derived.Test.YtjajkgdbaefndaaDoorRows
import Derived.WalkKit
import Derived.WalkSpells
import Derived.WalkLawsBesides
import Derived.Lib.Hide
namespace Go.Proofs.YtjajkgdbaefndaaDoor
open Go.RowKit
set_option linter.unusedVariables false

theorem tmod_hi (a : Int) {b : Int} (hb : 0 < b) : a.tmod b < b := Int.tmod_lt_of_pos a hb
theorem tmod_lo (a : Int) {b : Int} (hb : 0 < b) : -b < a.tmod b := by
  have := Int.tmod_lt_of_pos (-a) hb
  rw [Int.neg_tmod] at this; omega
theorem tmod_pos {a b : Int} (hb : 0 < b) (h : 0 ≤ a.tmod b) : a.tmod b = a % b := by
  have h1 := tmod_hi a hb
  have h2 := Int.mul_tdiv_add_tmod a b
  have h4 : (b * a.tdiv b + a.tmod b) % b = a.tmod b := by rw [Int.mul_add_emod_self_left, Int.emod_eq_of_lt h h1]
  rw [h2] at h4; exact h4.symm
theorem tmod_neg' {a b : Int} (hb : 0 < b) (h : a.tmod b < 0) : a.tmod b + b = a % b := by
  have h1 := tmod_lo a hb
  have h2 := Int.mul_tdiv_add_tmod a b
  have h3 : a = b * (a.tdiv b - 1) + (a.tmod b + b) := by rw [Int.mul_sub]; omega
  have h4 : (b * (a.tdiv b - 1) + (a.tmod b + b)) % b = a.tmod b + b := by
    rw [Int.mul_add_emod_self_left, Int.emod_eq_of_lt (by omega) (by omega)]
  rw [← h3] at h4; exact h4.symm

theorem ret_i64 {a b : Int} (h : a = b) : Ending.returned (.int .i64 a) = .returned (.int .i64 b) := by rw [h]
theorem ret_ii {a b c d : Int} (h : a = b) (g : c = d) : Ending.returned (.tuple #[.int .i64 a, .int .i64 c]) = .returned (.tuple #[.int .i64 b, .int .i64 d]) := by rw [h, g]

set_option maxHeartbeats 400000 in
theorem rem_any (a b : Int) (w : World) (ha : -9223372036854775808 ≤ a) (ha2 : a ≤ 9223372036854775807) (hb : 0 < b) (hb2 : b ≤ 9223372036854775807) :
    Calls Tryd.prog 26 #[.int .i64 a, .int .i64 b] w fun e w' => e = .returned (.int .i64 (a % b)) ∧ w = w' := by
  have h1 := tmod_hi a hb
  have h2 := tmod_lo a hb
  go_enter Tryd.func26, Tryd.ntmps26
  go_wp2
  · go_ret; exact ⟨ret_i64 (tmod_neg' hb (by assumption)), rfl⟩
  · go_ret; exact ⟨ret_i64 (tmod_pos hb (by assumption)), rfl⟩
set_option maxHeartbeats 400000 in
theorem mod_any (a b : Int) (w : World) (ha : -9223372036854775808 ≤ a) (ha2 : a ≤ 9223372036854775807) (hb : 0 < b) (hb2 : b ≤ 9223372036854775807) :
    Calls Tryd.prog 16 #[.int .i64 a, .int .i64 b] w fun e w' => e = .returned (.int .i64 (a % b)) ∧ w = w' := by
  have h1 := tmod_hi a hb
  have h2 := tmod_lo a hb
  go_enter Tryd.func16, Tryd.ntmps16
  go_wp2
  · go_ret; exact ⟨ret_i64 (tmod_neg' hb (by assumption)), rfl⟩
  · go_ret; exact ⟨ret_i64 (tmod_pos hb (by assumption)), rfl⟩
set_option maxHeartbeats 400000 in
theorem between_any (v lo hi : Int) (w : World) (ha : -9223372036854775808 ≤ v) (ha2 : v ≤ 9223372036854775807) (hlo : -4611686018427387904 ≤ lo) (hlh : lo ≤ hi) (hhi : hi ≤ 4611686018427387904) (hd : hi - lo ≤ 9223372036854775806) :
    Calls Tryd.prog 17 #[.int .i64 v, .int .i64 lo, .int .i64 hi] w fun e w' => e = .returned (.int .i64 (lo + v % (hi - lo + 1))) ∧ w = w' := by
  have h1 := Int.emod_nonneg v (b := hi - lo + 1) (by omega)
  have h2 := Int.emod_lt_of_pos v (b := hi - lo + 1) (by omega)
  go_enter Tryd.func17, Tryd.ntmps17
  go_wp2_with (go_at_call 16; refine (mod_any _ _ _ (by omega) (by omega) (by omega) (by omega)).mono ?_; rintro e w' ⟨rfl, rfl⟩)
  go_ret; exact ⟨rfl, rfl⟩

/-- k quarter turns -/
def qt : Nat → Int × Int → Int × Int
  | 0, p => p
  | n + 1, p => qt n (wrap64 (-p.2), p.1)
set_option maxHeartbeats 400000 in
theorem turned_any (x y : Int) (k : Nat) (w : World) (hk : k ≤ 9223372036854775807) :
    Calls Tryd.prog 27 #[.int .i64 x, .int .i64 y, .int .i64 k] w fun e w' => e = .returned (.tuple #[.int .i64 (qt k (x, y)).1, .int .i64 (qt k (x, y)).2]) ∧ w = w' := by
  go_enter Tryd.func27, Tryd.ntmps27
  go_wp2
  go_loop [0, 1, 2] (fun a b c => ∃ (u v : Int) (m : Nat), m ≤ k ∧ a = .int .i64 u ∧ b = .int .i64 v ∧ c = .int .i64 m ∧ qt m (u, v) = qt k (x, y)) (fun _ _ c => (intOf c).toNat)
  case atStart => exact ⟨x, y, k, Nat.le_refl _, rfl, rfl, rfl, rfl⟩
  case round =>
    obtain ⟨u, v, m, hm, rfl, rfl, rfl, hq⟩ := hrel
    have H := Lib.hid hq
    clear hq
    cases m with
    | succ m =>
      go_wp2
      go_round
      case rel => exact ⟨wrap64 (-v), u, m, by omega, rfl, rfl, by go_num, H.out⟩
      case measure => simp [intOf]
    | zero =>
      go_wp2
      go_ret2
      have h := H.out
      simp only [qt] at h
      exact ⟨ret_ii (by rw [← h]) (by rw [← h]), rfl⟩
set_option maxHeartbeats 400000 in
theorem turnedRef_any (x y : Int) (k : Nat) (w : World) (hk : k ≤ 9223372036854775807) :
    Calls Tryd.prog 29 #[.int .i64 x, .int .i64 y, .int .i64 k] w fun e w' => e = .returned (.tuple #[.int .i64 (qt k (x, y)).1, .int .i64 (qt k (x, y)).2]) ∧ w = w' := by
  go_enter Tryd.func29, Tryd.ntmps29
  go_wp2
  go_loop [0, 1, 8] (fun a b c => ∃ (u v : Int) (m : Nat), m ≤ k ∧ a = .int .i64 u ∧ b = .int .i64 v ∧ c = .int .i64 ↑(k - m) ∧ qt m (u, v) = qt k (x, y)) (fun _ _ c => k - (intOf c).toNat)
  case atStart => exact ⟨x, y, k, Nat.le_refl _, rfl, rfl, by rw [Nat.sub_self]; rfl, rfl⟩
  case round =>
    obtain ⟨u, v, m, hm, rfl, rfl, rfl, hq⟩ := hrel
    have H := Lib.hid hq
    clear hq
    cases m with
    | succ m =>
      have hlt : k - (m + 1) < k := by omega
      go_wp2
      go_round
      case rel => exact ⟨wrap64 (-v), u, m, by omega, rfl, rfl, by go_num, H.out⟩
      case measure => simp [intOf]; omega
    | zero =>
      go_wp2
      go_ret2
      have h := H.out
      simp only [qt] at h
      exact ⟨ret_ii (by rw [← h]) (by rw [← h]), rfl⟩
end Go.Proofs.YtjajkgdbaefndaaDoor
