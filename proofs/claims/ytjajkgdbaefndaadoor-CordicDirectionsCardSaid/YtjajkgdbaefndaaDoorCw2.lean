/- Proved here: SinCos of the program returns the results of the plain functions sinI and cosI, for every angle, in every world that holds the table. -/
import Derived.Test.YtjajkgdbaefndaaDoorCw1
import Derived.Deep.QuietTactic
import Derived.BigQuiet
namespace Go.Proofs.YtjajkgdbaefndaaDoor
open Go.RowKit
set_option linter.unusedVariables false

def tabL : List Int := [45000000000, 26565051177, 14036243468, 7125016349, 3576334375, 1789910608, 895173710, 447614171, 223810500, 111905677, 55952892, 27976453, 13988227, 6994114, 3497057, 1748528, 874264, 437132, 218566, 109283, 54642, 27321, 13660, 6830, 3415, 1708]
def tabV : Array Value := (tabL.map fun z => Value.int .i64 z).toArray
def tabAt (i : Nat) : Int := tabL.getD i 0
theorem ix0 (w : World) : (Instr.index 37 (.agg tabV) (.int .i64 0)).run Tryd.prog w = .ok (.int .i64 45000000000) w := by kernel_rfl
theorem ix1 (w : World) : (Instr.index 37 (.agg tabV) (.int .i64 1)).run Tryd.prog w = .ok (.int .i64 26565051177) w := by kernel_rfl
theorem ix2 (w : World) : (Instr.index 37 (.agg tabV) (.int .i64 2)).run Tryd.prog w = .ok (.int .i64 14036243468) w := by kernel_rfl
theorem ix3 (w : World) : (Instr.index 37 (.agg tabV) (.int .i64 3)).run Tryd.prog w = .ok (.int .i64 7125016349) w := by kernel_rfl
theorem ix4 (w : World) : (Instr.index 37 (.agg tabV) (.int .i64 4)).run Tryd.prog w = .ok (.int .i64 3576334375) w := by kernel_rfl
theorem ix5 (w : World) : (Instr.index 37 (.agg tabV) (.int .i64 5)).run Tryd.prog w = .ok (.int .i64 1789910608) w := by kernel_rfl
theorem ix6 (w : World) : (Instr.index 37 (.agg tabV) (.int .i64 6)).run Tryd.prog w = .ok (.int .i64 895173710) w := by kernel_rfl
theorem ix7 (w : World) : (Instr.index 37 (.agg tabV) (.int .i64 7)).run Tryd.prog w = .ok (.int .i64 447614171) w := by kernel_rfl
theorem ix8 (w : World) : (Instr.index 37 (.agg tabV) (.int .i64 8)).run Tryd.prog w = .ok (.int .i64 223810500) w := by kernel_rfl
theorem ix9 (w : World) : (Instr.index 37 (.agg tabV) (.int .i64 9)).run Tryd.prog w = .ok (.int .i64 111905677) w := by kernel_rfl
theorem ix10 (w : World) : (Instr.index 37 (.agg tabV) (.int .i64 10)).run Tryd.prog w = .ok (.int .i64 55952892) w := by kernel_rfl
theorem ix11 (w : World) : (Instr.index 37 (.agg tabV) (.int .i64 11)).run Tryd.prog w = .ok (.int .i64 27976453) w := by kernel_rfl
theorem ix12 (w : World) : (Instr.index 37 (.agg tabV) (.int .i64 12)).run Tryd.prog w = .ok (.int .i64 13988227) w := by kernel_rfl
theorem ix13 (w : World) : (Instr.index 37 (.agg tabV) (.int .i64 13)).run Tryd.prog w = .ok (.int .i64 6994114) w := by kernel_rfl
theorem ix14 (w : World) : (Instr.index 37 (.agg tabV) (.int .i64 14)).run Tryd.prog w = .ok (.int .i64 3497057) w := by kernel_rfl
theorem ix15 (w : World) : (Instr.index 37 (.agg tabV) (.int .i64 15)).run Tryd.prog w = .ok (.int .i64 1748528) w := by kernel_rfl
theorem ix16 (w : World) : (Instr.index 37 (.agg tabV) (.int .i64 16)).run Tryd.prog w = .ok (.int .i64 874264) w := by kernel_rfl
theorem ix17 (w : World) : (Instr.index 37 (.agg tabV) (.int .i64 17)).run Tryd.prog w = .ok (.int .i64 437132) w := by kernel_rfl
theorem ix18 (w : World) : (Instr.index 37 (.agg tabV) (.int .i64 18)).run Tryd.prog w = .ok (.int .i64 218566) w := by kernel_rfl
theorem ix19 (w : World) : (Instr.index 37 (.agg tabV) (.int .i64 19)).run Tryd.prog w = .ok (.int .i64 109283) w := by kernel_rfl
theorem ix20 (w : World) : (Instr.index 37 (.agg tabV) (.int .i64 20)).run Tryd.prog w = .ok (.int .i64 54642) w := by kernel_rfl
theorem ix21 (w : World) : (Instr.index 37 (.agg tabV) (.int .i64 21)).run Tryd.prog w = .ok (.int .i64 27321) w := by kernel_rfl
theorem ix22 (w : World) : (Instr.index 37 (.agg tabV) (.int .i64 22)).run Tryd.prog w = .ok (.int .i64 13660) w := by kernel_rfl
theorem ix23 (w : World) : (Instr.index 37 (.agg tabV) (.int .i64 23)).run Tryd.prog w = .ok (.int .i64 6830) w := by kernel_rfl
theorem ix24 (w : World) : (Instr.index 37 (.agg tabV) (.int .i64 24)).run Tryd.prog w = .ok (.int .i64 3415) w := by kernel_rfl
theorem ix25 (w : World) : (Instr.index 37 (.agg tabV) (.int .i64 25)).run Tryd.prog w = .ok (.int .i64 1708) w := by kernel_rfl
theorem idx_tab (i : Nat) (hi : i < 26) (w : World) : (Instr.index 37 (.agg tabV) (.int .i64 i)).run Tryd.prog w = .ok (.int .i64 (tabAt i)) w := by
  match i, hi with
  | 0, _ => exact ix0 w
  | 1, _ => exact ix1 w
  | 2, _ => exact ix2 w
  | 3, _ => exact ix3 w
  | 4, _ => exact ix4 w
  | 5, _ => exact ix5 w
  | 6, _ => exact ix6 w
  | 7, _ => exact ix7 w
  | 8, _ => exact ix8 w
  | 9, _ => exact ix9 w
  | 10, _ => exact ix10 w
  | 11, _ => exact ix11 w
  | 12, _ => exact ix12 w
  | 13, _ => exact ix13 w
  | 14, _ => exact ix14 w
  | 15, _ => exact ix15 w
  | 16, _ => exact ix16 w
  | 17, _ => exact ix17 w
  | 18, _ => exact ix18 w
  | 19, _ => exact ix19 w
  | 20, _ => exact ix20 w
  | 21, _ => exact ix21 w
  | 22, _ => exact ix22 w
  | 23, _ => exact ix23 w
  | 24, _ => exact ix24 w
  | 25, _ => exact ix25 w
  | n + 26, h => omega

/-- one round of the algorithm, as the machine reckons -/
def stpW (i : Nat) (s : Int × Int × Int) : Int × Int × Int :=
  if 0 ≤ s.2.2 then (wrap64 (s.1 - s.2.1 / 2 ^ i), wrap64 (s.2.1 + s.1 / 2 ^ i), wrap64 (s.2.2 - tabAt i)) else (wrap64 (s.1 + s.2.1 / 2 ^ i), wrap64 (s.2.1 - s.1 / 2 ^ i), wrap64 (s.2.2 + tabAt i))
def itrW : Nat → Int × Int × Int → Int × Int × Int
  | 0, s => s
  | n + 1, s => stpW n (itrW n s)
theorem itrW_pos {m : Nat} {s0 : Int × Int × Int} {u v s : Int} (h : itrW m s0 = (u, v, s)) (hs : 0 ≤ s) : itrW (m + 1) s0 = (wrap64 (u - v / 2 ^ m), wrap64 (v + u / 2 ^ m), wrap64 (s - tabAt m)) := by
  simp [itrW, h, stpW, hs]
theorem itrW_neg {m : Nat} {s0 : Int × Int × Int} {u v s : Int} (h : itrW m s0 = (u, v, s)) (hs : ¬ 0 ≤ s) : itrW (m + 1) s0 = (wrap64 (u + v / 2 ^ m), wrap64 (v - u / 2 ^ m), wrap64 (s + tabAt m)) := by
  simp [itrW, h, stpW, hs]
def scR (a : Int) : Int := a % 360000000 - (a % 360000000 + 45000000) / 90000000 * 90000000
def scK (a : Int) : Nat := ((a % 360000000 + 45000000) / 90000000).toNat
def scXY (a : Int) : Int × Int := if scR a = 0 then (1073741824, 0) else ((itrW 26 (652032874, 0, scR a * 1000)).1, (itrW 26 (652032874, 0, scR a * 1000)).2.1)
def sinI (a : Int) : Int := (qt (scK a) (scXY a)).2
def cosI (a : Int) : Int := (qt (scK a) (scXY a)).1

theorem sc_end {a u v s : Int} (hr : (scR a != 0) = true) (h : itrW 26 (652032874, 0, scR a * 1000) = (u, v, s)) : qt ((a % 360000000 + 45000000) / 90000000).toNat (u, v) = (cosI a, sinI a) := by
  have hr' : scR a ≠ 0 := by simpa using hr
  simp [cosI, sinI, scXY, hr', h, scK]
theorem sc_zero {a : Int} (hr : (scR a != 0) = false) : qt ((a % 360000000 + 45000000) / 90000000).toNat (1073741824, 0) = (cosI a, sinI a) := by
  have hr' : scR a = 0 := by simpa using hr
  simp [cosI, sinI, scXY, hr', scK]

theorem turned_int (x y k : Int) (w : World) (hk : 0 ≤ k) (hk2 : k ≤ 9223372036854775807) :
    Calls Tryd.prog 27 #[.int .i64 x, .int .i64 y, .int .i64 k] w fun e w' => e = .returned (.tuple #[.int .i64 (qt k.toNat (x, y)).1, .int .i64 (qt k.toNat (x, y)).2]) ∧ w = w' := by
  obtain ⟨n, rfl⟩ := Int.eq_ofNat_of_zero_le hk
  exact turned_any x y n w (by omega)
theorem turnedRef_int (x y k : Int) (w : World) (hk : 0 ≤ k) (hk2 : k ≤ 9223372036854775807) :
    Calls Tryd.prog 29 #[.int .i64 x, .int .i64 y, .int .i64 k] w fun e w' => e = .returned (.tuple #[.int .i64 (qt k.toNat (x, y)).1, .int .i64 (qt k.toNat (x, y)).2]) ∧ w = w' := by
  obtain ⟨n, rfl⟩ := Int.eq_ofNat_of_zero_le hk
  exact turnedRef_any x y n w (by omega)

set_option maxHeartbeats 400000 in
theorem sincos_yes (a : Int) (w : World) (ha : -9223372036854775808 ≤ a) (ha2 : a ≤ 9223372036854775807) (t : TypeId) (fr : Nat × Nat) (ht : w.heap[0]? = some (.cells tabV t fr))
    (hr : (a % 360000000 - (a % 360000000 + 45000000) / 90000000 * 90000000 != 0) = true) :
    Calls Tryd.prog 14 #[.int .i64 a] w fun e w' => e = .returned (.tuple #[.int .i64 (sinI a), .int .i64 (cosI a)]) ∧ Below w.heap.size w w' := by
  have h1 := Int.emod_nonneg a (b := 360000000) (by omega)
  have h2 := Int.emod_lt_of_pos a (b := 360000000) (by omega)
  have HR : Hid ((scR a != 0) = true) := hr
  go_enter Tryd.func14, Tryd.ntmps14
  go_wp2_with (first | (go_at_call 26; refine (rem_any _ _ _ (by omega) (by omega) (by omega) (by omega)).mono ?_; rintro e w' ⟨rfl, rfl⟩) | (refine wpList_load_row rfl 37 _ rfl 0 rfl t tabV fr _ ht Tryd.underlying37 rfl (by kernel_rfl) ?_))
  go_loopw [6, 7, 9, 26] (fun x y z i wr => ∃ (u v s : Int) (m : Nat), m ≤ 26 ∧ x = .int .i64 u ∧ y = .int .i64 v ∧ z = .int .i64 s ∧ i = .int .i64 ↑m ∧ itrW m (652032874, 0, scR a * 1000) = (u, v, s) ∧ Below w.heap.size w wr) (fun _ _ _ i _ => 26 - (intOf i).toNat)
  case atStart => exact ⟨652032874, 0, _, 0, by omega, rfl, rfl, rfl, rfl, rfl, Below.refl _ _⟩
  case round =>
    obtain ⟨u, v, s, m, hm, rfl, rfl, rfl, rfl, hq, hb⟩ := hrel
    have HQ := Lib.hid hq
    clear hq
    by_cases hlt : m < 26
    · have hix := idx_tab m hlt
      by_cases hs : 0 ≤ s
      · go_wp2
        go_quiet (fail)
        go_wp2
        go_roundw
        case rel => exact ⟨_, _, _, m + 1, by omega, rfl, rfl, rfl, by go_num, itrW_pos HQ.out hs, below_drewN hb _⟩
        case measure => simp [intOf]; omega
      · go_wp2
        go_quiet (fail)
        go_wp2
        go_roundw
        case rel => exact ⟨_, _, _, m + 1, by omega, rfl, rfl, rfl, by go_num, itrW_neg HQ.out (by omega), below_drewN hb _⟩
        case measure => simp [intOf]; omega
    · obtain rfl : m = 26 := by omega
      go_wp2_with (go_at_call 27; refine (turned_int _ _ _ _ (by omega) (by omega)).mono ?_; rintro e w' ⟨rfl, rfl⟩)
      go_ret2
      have h := sc_end HR.out HQ.out
      exact ⟨ret_ii (by rw [h]) (by rw [h]), hb⟩
set_option maxHeartbeats 400000 in
theorem sincos_no (a : Int) (w : World) (ha : -9223372036854775808 ≤ a) (ha2 : a ≤ 9223372036854775807)
    (hr : (a % 360000000 - (a % 360000000 + 45000000) / 90000000 * 90000000 != 0) = false) :
    Calls Tryd.prog 14 #[.int .i64 a] w fun e w' => e = .returned (.tuple #[.int .i64 (sinI a), .int .i64 (cosI a)]) ∧ Below w.heap.size w w' := by
  have h1 := Int.emod_nonneg a (b := 360000000) (by omega)
  have h2 := Int.emod_lt_of_pos a (b := 360000000) (by omega)
  have HR : Hid ((scR a != 0) = false) := hr
  go_enter Tryd.func14, Tryd.ntmps14
  go_wp2_with (first | (go_at_call 26; refine (rem_any _ _ _ (by omega) (by omega) (by omega) (by omega)).mono ?_; rintro e w' ⟨rfl, rfl⟩) | (go_at_call 27; refine (turned_int _ _ _ _ (by omega) (by omega)).mono ?_; rintro e w' ⟨rfl, rfl⟩))
  go_ret2
  have h := sc_zero HR.out
  exact ⟨ret_ii (by rw [h]) (by rw [h]), Below.refl _ _⟩
/-- WHAT SinCos GIVES, FOR EVERY ANGLE -/
theorem sincos_any (a : Int) (w : World) (ha : -9223372036854775808 ≤ a) (ha2 : a ≤ 9223372036854775807) (t : TypeId) (fr : Nat × Nat) (ht : w.heap[0]? = some (.cells tabV t fr)) :
    Calls Tryd.prog 14 #[.int .i64 a] w fun e w' => e = .returned (.tuple #[.int .i64 (sinI a), .int .i64 (cosI a)]) ∧ Below w.heap.size w w' := by
  cases hr : (a % 360000000 - (a % 360000000 + 45000000) / 90000000 * 90000000 != 0)
  · exact sincos_no a w ha ha2 hr
  · exact sincos_yes a w ha ha2 t fr ht hr
end Go.Proofs.YtjajkgdbaefndaaDoor
