/- Proved here: SinCos of the reference returns the results of the same plain functions, for every angle. -/
import Derived.Test.YtjajkgdbaefndaaDoorCw2
namespace Go.Proofs.YtjajkgdbaefndaaDoor
open Go.RowKit
set_option linter.unusedVariables false

set_option maxHeartbeats 400000 in
theorem table_any (w : World) : Calls Tryd.prog 28 #[] w fun e w' => e = .returned (.slice (some ⟨w.heap.size, 0, none⟩) 26 26) ∧ w.alloc (.cells tabV 3) = w' := by
  go_enter Tryd.func28, Tryd.ntmps28
  go_wp2
  go_ret
  exact ⟨rfl, rfl⟩

theorem tab_cell {w wr : World} (hb : Below (w.heap.size + 1) (w.alloc (.cells tabV 3)) wr) (m : Nat) (hm : m < 26) : wr.cell? ⟨w.heap.size, m, none⟩ = some (.int .i64 (tabAt m)) := by
  have e : tabV[m]? = some (.int .i64 (tabAt m)) := by
    have h : tabL.length = 26 := rfl
    simp [tabV, tabAt, List.getD, h, hm]
  rw [hb.cell (p := ⟨w.heap.size, m, none⟩) (by show w.heap.size < _; omega)]
  have h := (MapKept.heap_alloc w (.cells tabV 3)).1
  simp only [World.cell?, h]
  simpa using e

set_option maxHeartbeats 400000 in
theorem sincosRef_yes (a : Int) (w : World) (ha : -9223372036854775808 ≤ a) (ha2 : a ≤ 9223372036854775807)
    (hr : (a % 360000000 - (a % 360000000 + 45000000) / 90000000 * 90000000 != 0) = true) :
    Calls Tryd.prog 15 #[.int .i64 a] w fun e w' => e = .returned (.tuple #[.int .i64 (sinI a), .int .i64 (cosI a)]) ∧ Below w.heap.size w w' := by
  have h1 := Int.emod_nonneg a (b := 360000000) (by omega)
  have h2 := Int.emod_lt_of_pos a (b := 360000000) (by omega)
  have HR : Hid ((scR a != 0) = true) := hr
  go_enter Tryd.func15, Tryd.ntmps15
  go_wp2_with (first | (go_at_call 16; refine (mod_any _ _ _ (by omega) (by omega) (by omega) (by omega)).mono ?_; rintro e w' ⟨rfl, rfl⟩) | (go_at_call 28; refine (table_any _).mono ?_; rintro e w' ⟨rfl, rfl⟩))
  go_loopw [7, 8, 9, 11, 12, 13] (fun x y z i d1 d2 wr => ∃ (u v s : Int) (m : Nat), m ≤ 26 ∧ x = .int .i64 u ∧ y = .int .i64 v ∧ z = .int .i64 s ∧ i = .int .i64 ↑m ∧ itrW m (652032874, 0, scR a * 1000) = (u, v, s) ∧ Below (w.heap.size + 1) (w.alloc (.cells tabV 3)) wr) (fun _ _ _ i _ _ _ => 26 - (intOf i).toNat)
  case atStart => exact ⟨652032874, 0, _, 0, by omega, rfl, rfl, rfl, rfl, rfl, Below.refl _ _⟩
  case round =>
    obtain ⟨u, v, s, m, hm, rfl, rfl, rfl, rfl, hq, hb⟩ := hrel
    have HQ := Lib.hid hq
    clear hq
    by_cases hlt : m < 26
    · have hc := tab_cell hb m hlt
      by_cases hs : 0 ≤ s
      · go_wp2
        go_quiet (fail)
        go_wp2
        go_roundw
        case rel => exact ⟨_, _, _, m + 1, by omega, rfl, rfl, rfl, by go_num, itrW_pos HQ.out hs, below_drewN hb _⟩
        case measure => simp [intOf]; omega
      · go_wp2
        go_quiet (fail)
        go_wp2
        go_roundw
        case rel => exact ⟨_, _, _, m + 1, by omega, rfl, rfl, rfl, by go_num, itrW_neg HQ.out (by omega), below_drewN hb _⟩
        case measure => simp [intOf]; omega
    · obtain rfl : m = 26 := by omega
      go_wp2_with (go_at_call 29; refine (turnedRef_int _ _ _ _ (by omega) (by omega)).mono ?_; rintro e w' ⟨rfl, rfl⟩)
      go_ret2
      have h := sc_end HR.out HQ.out
      exact ⟨ret_ii (by rw [h]) (by rw [h]), ((Below.refl _ _).alloc (Nat.le_refl _) _).trans (hb.mono (by omega))⟩
set_option maxHeartbeats 400000 in
theorem sincosRef_no (a : Int) (w : World) (ha : -9223372036854775808 ≤ a) (ha2 : a ≤ 9223372036854775807)
    (hr : (a % 360000000 - (a % 360000000 + 45000000) / 90000000 * 90000000 != 0) = false) :
    Calls Tryd.prog 15 #[.int .i64 a] w fun e w' => e = .returned (.tuple #[.int .i64 (sinI a), .int .i64 (cosI a)]) ∧ Below w.heap.size w w' := by
  have h1 := Int.emod_nonneg a (b := 360000000) (by omega)
  have h2 := Int.emod_lt_of_pos a (b := 360000000) (by omega)
  have HR : Hid ((scR a != 0) = false) := hr
  go_enter Tryd.func15, Tryd.ntmps15
  go_wp2_with (first | (go_at_call 16; refine (mod_any _ _ _ (by omega) (by omega) (by omega) (by omega)).mono ?_; rintro e w' ⟨rfl, rfl⟩) | (go_at_call 29; refine (turnedRef_int _ _ _ _ (by omega) (by omega)).mono ?_; rintro e w' ⟨rfl, rfl⟩))
  go_ret2
  have h := sc_zero HR.out
  exact ⟨ret_ii (by rw [h]) (by rw [h]), Below.refl _ _⟩
/-- WHAT the reference's SinCos GIVES, FOR EVERY ANGLE -/
theorem sincosRef_any (a : Int) (w : World) (ha : -9223372036854775808 ≤ a) (ha2 : a ≤ 9223372036854775807) :
    Calls Tryd.prog 15 #[.int .i64 a] w fun e w' => e = .returned (.tuple #[.int .i64 (sinI a), .int .i64 (cosI a)]) ∧ Below w.heap.size w w' := by
  cases hr : (a % 360000000 - (a % 360000000 + 45000000) / 90000000 * 90000000 != 0)
  · exact sincosRef_no a w ha ha2 hr
  · exact sincosRef_yes a w ha ha2 hr
end Go.Proofs.YtjajkgdbaefndaaDoor
