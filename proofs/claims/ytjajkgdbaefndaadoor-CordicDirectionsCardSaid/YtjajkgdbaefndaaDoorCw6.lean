/- Proved here: Angle of the reference returns the result of the same plain function; both refuse the origin and points out of range. -/
import Derived.Test.YtjajkgdbaefndaaDoorCw5
namespace Go.Proofs.YtjajkgdbaefndaaDoor
open Go.RowKit
set_option linter.unusedVariables false

set_option maxHeartbeats 400000 in
theorem angleRef_x (x y : Int) (w : World) (hx : -1099511627776 ≤ x) (hx2 : x ≤ 1099511627776) (hy : -1099511627776 ≤ y) (hy2 : y ≤ 1099511627776) (hn0 : x ≠ 0 ∨ y ≠ 0) (h0 : (x == 0) = false) :
    Calls Tryd.prog 22 #[.int .i64 x, .int .i64 y] w fun e w' => e = .returned (.tuple #[.int .i64 (angI x y), .bool true]) ∧ Below w.heap.size w w' := by
  have HN := Lib.hid hn0
  clear hn0
  go_enter Tryd.func22, Tryd.ntmps22
  go_wp2
  go_loop [6, 7, 8] (fun u v k => ∃ (kk uu vv : Int), k = .int .i64 kk ∧ u = .int .i64 uu ∧ v = .int .i64 vv ∧ AngRel x y kk uu vv) (fun u v _ => (qK (intOf u) (intOf v)).toNat)
  case atStart => exact ⟨0, x, y, rfl, rfl, rfl, HN.out, by omega, by omega, by omega, by omega, rfl, rfl⟩
  case round =>
    obtain ⟨k, u, v, rfl, rfl, rfl, hr⟩ := hrel
    have b1 := hr.bu.1
    have b2 := hr.bu.2
    have b3 := hr.bv.1
    have b4 := hr.bv.2
    have b5 := hr.bk.1
    have b6 := hr.bk.2
    by_cases hn : u ≤ 0 ∨ v < -u ∨ u ≤ v
    · have hq := q_step hr.n0 hn
      have HQ := Lib.hid hq
      have HN2 := Lib.hid (hr.next hn)
      clear hq
      by_cases c1 : u ≤ 0
      · clear hn
        have d1 : decide (0 < u) = false := by simpa using c1
        go_wp2
        go_round
        case rel => exact ⟨_, _, _, rfl, rfl, rfl, HN2.out⟩
        case measure => simp [intOf]; have := HQ.out; omega
      · by_cases c2 : v < -u
        · clear hn
          have d0 : 0 < u := by omega
          have d1 : decide (-u ≤ v) = false := by simpa using c2
          go_wp2
          go_round
          case rel => exact ⟨_, _, _, rfl, rfl, rfl, HN2.out⟩
          case measure => simp [intOf]; have := HQ.out; omega
        · have c3 : u ≤ v := by omega
          clear hn
          have d0 : 0 < u := by omega
          have d2 : -u ≤ v := by omega
          have d1 : decide (v < u) = false := by simpa using c3
          go_wp2
          go_round
          case rel => exact ⟨_, _, _, rfl, rfl, rfl, HN2.out⟩
          case measure => simp [intOf]; have := HQ.out; omega
    · have c1 : ¬ u ≤ 0 := by omega
      have c2 : ¬ v < -u := by omega
      have c3 : ¬ u ≤ v := by omega
      clear hn
      have d0 : 0 < u := by omega
      have d1 : -u ≤ v := by omega
      have d2 : v < u := by omega
      by_cases hv : (v != 0) = true
      · go_wp2_with (go_at_call 28; refine (table_any _).mono ?_; rintro e w' ⟨rfl, rfl⟩)
        go_loopw [10, 11, 12, 14, 15, 16] (fun a b z i d1 d2 wr => ∃ (p q r : Int) (m : Nat), m ≤ 26 ∧ a = .int .i64 p ∧ b = .int .i64 q ∧ z = .int .i64 r ∧ i = .int .i64 ↑m ∧ itrA m (u * 1048576, v * 1048576, 0) = (p, q, r) ∧ Below (w.heap.size + 1) (w.alloc (.cells tabV 3)) wr) (fun _ _ _ i _ _ _ => 26 - (intOf i).toNat)
        case atStart => exact ⟨_, _, _, 0, by omega, rfl, rfl, rfl, rfl, rfl, Below.refl _ _⟩
        case round =>
          obtain ⟨p, q, r, m, hm, rfl, rfl, rfl, rfl, hq, hb⟩ := hrel
          have HQ := Lib.hid hq
          clear hq
          by_cases hlt : m < 26
          · have hc := tab_cell hb m hlt
            by_cases hs : 0 ≤ q
            · go_wp2
              go_quiet (fail)
              go_wp2
              go_roundw
              case rel => exact ⟨_, _, _, m + 1, by omega, rfl, rfl, rfl, by go_num, itrA_pos HQ.out hs, below_drewN hb _⟩
              case measure => simp [intOf]; omega
            · go_wp2
              go_quiet (fail)
              go_wp2
              go_roundw
              case rel => exact ⟨_, _, _, m + 1, by omega, rfl, rfl, rfl, by go_num, itrA_neg HQ.out (by omega), below_drewN hb _⟩
              case measure => simp [intOf]; omega
          · obtain rfl : m = 26 := by omega
            have hw := wrap64_bd (r + 500)
            have hk2 := wrap64_bd (k * 90000000 + wrap64 ((wrap64 (wrap64 (r + 500) - wrap64 (r + 500) % 1000)).tdiv 1000))
            go_wp2_with fail
            refine (mod_any _ _ _ (by omega) (by omega) (by omega) (by omega)).mono ?_; rintro e w' ⟨rfl, rfl⟩
            go_wp2_with fail
            refine (mod_any _ _ _ hk2.1 hk2.2 (by omega) (by omega)).mono ?_
            rintro e w' ⟨rfl, rfl⟩
            go_wp2_with fail
            go_ret2
            exact ⟨ret_ib (ang_end hr (by omega) (by simpa using hv) HQ.out), ((Below.refl _ _).alloc (Nat.le_refl _) _).trans (hb.mono (by omega))⟩
      · have hv2 : (v != 0) = false := by simpa using hv
        go_wp2_with (go_at_call 16; refine (mod_any _ _ _ (by omega) (by omega) (by omega) (by omega)).mono ?_; rintro e w' ⟨rfl, rfl⟩)
        go_ret2
        exact ⟨ret_ib (ang_zero hr (by omega) (by simpa using hv2)), Below.refl _ _⟩
set_option maxHeartbeats 400000 in
theorem angleRef_y (x y : Int) (w : World) (hx : -1099511627776 ≤ x) (hx2 : x ≤ 1099511627776) (hy : -1099511627776 ≤ y) (hy2 : y ≤ 1099511627776) (hn0 : x ≠ 0 ∨ y ≠ 0) (h0 : (x == 0) = true) (h1 : (y == 0) = false) :
    Calls Tryd.prog 22 #[.int .i64 x, .int .i64 y] w fun e w' => e = .returned (.tuple #[.int .i64 (angI x y), .bool true]) ∧ Below w.heap.size w w' := by
  have HN := Lib.hid hn0
  clear hn0
  go_enter Tryd.func22, Tryd.ntmps22
  go_wp2
  go_loop [6, 7, 8] (fun u v k => ∃ (kk uu vv : Int), k = .int .i64 kk ∧ u = .int .i64 uu ∧ v = .int .i64 vv ∧ AngRel x y kk uu vv) (fun u v _ => (qK (intOf u) (intOf v)).toNat)
  case atStart => exact ⟨0, x, y, rfl, rfl, rfl, HN.out, by omega, by omega, by omega, by omega, rfl, rfl⟩
  case round =>
    obtain ⟨k, u, v, rfl, rfl, rfl, hr⟩ := hrel
    have b1 := hr.bu.1
    have b2 := hr.bu.2
    have b3 := hr.bv.1
    have b4 := hr.bv.2
    have b5 := hr.bk.1
    have b6 := hr.bk.2
    by_cases hn : u ≤ 0 ∨ v < -u ∨ u ≤ v
    · have hq := q_step hr.n0 hn
      have HQ := Lib.hid hq
      have HN2 := Lib.hid (hr.next hn)
      clear hq
      by_cases c1 : u ≤ 0
      · clear hn
        have d1 : decide (0 < u) = false := by simpa using c1
        go_wp2
        go_round
        case rel => exact ⟨_, _, _, rfl, rfl, rfl, HN2.out⟩
        case measure => simp [intOf]; have := HQ.out; omega
      · by_cases c2 : v < -u
        · clear hn
          have d0 : 0 < u := by omega
          have d1 : decide (-u ≤ v) = false := by simpa using c2
          go_wp2
          go_round
          case rel => exact ⟨_, _, _, rfl, rfl, rfl, HN2.out⟩
          case measure => simp [intOf]; have := HQ.out; omega
        · have c3 : u ≤ v := by omega
          clear hn
          have d0 : 0 < u := by omega
          have d2 : -u ≤ v := by omega
          have d1 : decide (v < u) = false := by simpa using c3
          go_wp2
          go_round
          case rel => exact ⟨_, _, _, rfl, rfl, rfl, HN2.out⟩
          case measure => simp [intOf]; have := HQ.out; omega
    · have c1 : ¬ u ≤ 0 := by omega
      have c2 : ¬ v < -u := by omega
      have c3 : ¬ u ≤ v := by omega
      clear hn
      have d0 : 0 < u := by omega
      have d1 : -u ≤ v := by omega
      have d2 : v < u := by omega
      by_cases hv : (v != 0) = true
      · go_wp2_with (go_at_call 28; refine (table_any _).mono ?_; rintro e w' ⟨rfl, rfl⟩)
        go_loopw [10, 11, 12, 14, 15, 16] (fun a b z i d1 d2 wr => ∃ (p q r : Int) (m : Nat), m ≤ 26 ∧ a = .int .i64 p ∧ b = .int .i64 q ∧ z = .int .i64 r ∧ i = .int .i64 ↑m ∧ itrA m (u * 1048576, v * 1048576, 0) = (p, q, r) ∧ Below (w.heap.size + 1) (w.alloc (.cells tabV 3)) wr) (fun _ _ _ i _ _ _ => 26 - (intOf i).toNat)
        case atStart => exact ⟨_, _, _, 0, by omega, rfl, rfl, rfl, rfl, rfl, Below.refl _ _⟩
        case round =>
          obtain ⟨p, q, r, m, hm, rfl, rfl, rfl, rfl, hq, hb⟩ := hrel
          have HQ := Lib.hid hq
          clear hq
          by_cases hlt : m < 26
          · have hc := tab_cell hb m hlt
            by_cases hs : 0 ≤ q
            · go_wp2
              go_quiet (fail)
              go_wp2
              go_roundw
              case rel => exact ⟨_, _, _, m + 1, by omega, rfl, rfl, rfl, by go_num, itrA_pos HQ.out hs, below_drewN hb _⟩
              case measure => simp [intOf]; omega
            · go_wp2
              go_quiet (fail)
              go_wp2
              go_roundw
              case rel => exact ⟨_, _, _, m + 1, by omega, rfl, rfl, rfl, by go_num, itrA_neg HQ.out (by omega), below_drewN hb _⟩
              case measure => simp [intOf]; omega
          · obtain rfl : m = 26 := by omega
            have hw := wrap64_bd (r + 500)
            have hk2 := wrap64_bd (k * 90000000 + wrap64 ((wrap64 (wrap64 (r + 500) - wrap64 (r + 500) % 1000)).tdiv 1000))
            go_wp2_with fail
            refine (mod_any _ _ _ (by omega) (by omega) (by omega) (by omega)).mono ?_; rintro e w' ⟨rfl, rfl⟩
            go_wp2_with fail
            refine (mod_any _ _ _ hk2.1 hk2.2 (by omega) (by omega)).mono ?_
            rintro e w' ⟨rfl, rfl⟩
            go_wp2_with fail
            go_ret2
            exact ⟨ret_ib (ang_end hr (by omega) (by simpa using hv) HQ.out), ((Below.refl _ _).alloc (Nat.le_refl _) _).trans (hb.mono (by omega))⟩
      · have hv2 : (v != 0) = false := by simpa using hv
        go_wp2_with (go_at_call 16; refine (mod_any _ _ _ (by omega) (by omega) (by omega) (by omega)).mono ?_; rintro e w' ⟨rfl, rfl⟩)
        go_ret2
        exact ⟨ret_ib (ang_zero hr (by omega) (by simpa using hv2)), Below.refl _ _⟩
theorem angleRef_any (x y : Int) (w : World) (hx : -1099511627776 ≤ x) (hx2 : x ≤ 1099511627776) (hy : -1099511627776 ≤ y) (hy2 : y ≤ 1099511627776) (hn0 : x ≠ 0 ∨ y ≠ 0) :
    Calls Tryd.prog 22 #[.int .i64 x, .int .i64 y] w fun e w' => e = .returned (.tuple #[.int .i64 (angI x y), .bool true]) ∧ Below w.heap.size w w' := by
  cases h0 : (x == 0)
  · exact angleRef_x x y w hx hx2 hy hy2 hn0 h0
  · exact angleRef_y x y w hx hx2 hy hy2 hn0 h0 (by simp at h0; simpa [h0] using hn0)
set_option maxHeartbeats 400000 in
theorem angle_no (x y : Int) (w : World) (h : (x = 0 ∧ y = 0) ∨ x < -1099511627776 ∨ 1099511627776 < x ∨ y < -1099511627776 ∨ 1099511627776 < y) :
    Calls Tryd.prog 21 #[.int .i64 x, .int .i64 y] w fun e w' => e = .returned (.tuple #[.int .i64 0, .bool false]) ∧ Below w.heap.size w w' := by
  have HD := Lib.hid h
  clear h
  by_cases h0 : x = 0 ∧ y = 0
  · have e1 : (x == 0) = true := by simp [h0.1]
    have e2 : (y == 0) = true := by simp [h0.2]
    have k1 : ¬ 1099511627776 < x := by omega
    have k2 : ¬ x < -1099511627776 := by omega
    have k3 : ¬ 1099511627776 < y := by omega
    have k4 : ¬ y < -1099511627776 := by omega
    clear HD h0
    go_enter Tryd.func21, Tryd.ntmps21
    go_wp2_with fail
    go_ret2
    exact ⟨rfl, Below.refl _ _⟩
  cases hx0 : (x == 0) <;> cases hy0 : (y == 0)
  all_goals
    have HE := Lib.hid h0
    clear h0
    first
      | (exfalso; have h1 := HE.out; simp at hx0 hy0; omega)
      | (by_cases h1 : x < -1099511627776
         · have k1 : decide (1099511627776 < x) = false := by simp; omega
           go_enter Tryd.func21, Tryd.ntmps21
           go_wp2_with fail
           go_ret2
           exact ⟨rfl, Below.refl _ _⟩
         by_cases h2 : 1099511627776 < x
         · go_enter Tryd.func21, Tryd.ntmps21
           go_wp2_with fail
           go_ret2
           exact ⟨rfl, Below.refl _ _⟩
         by_cases h3 : y < -1099511627776
         · have k1 : decide (1099511627776 < y) = false := by simp; omega
           go_enter Tryd.func21, Tryd.ntmps21
           go_wp2_with fail
           go_ret2
           exact ⟨rfl, Below.refl _ _⟩
         have h4 : 1099511627776 < y := by
           have := HD.out; have := HE.out; omega
         go_enter Tryd.func21, Tryd.ntmps21
         go_wp2_with fail
         go_ret2
         exact ⟨rfl, Below.refl _ _⟩)
set_option maxHeartbeats 400000 in
theorem angleRef_no (x y : Int) (w : World) (h : (x = 0 ∧ y = 0) ∨ x < -1099511627776 ∨ 1099511627776 < x ∨ y < -1099511627776 ∨ 1099511627776 < y) :
    Calls Tryd.prog 22 #[.int .i64 x, .int .i64 y] w fun e w' => e = .returned (.tuple #[.int .i64 0, .bool false]) ∧ Below w.heap.size w w' := by
  have HD := Lib.hid h
  clear h
  by_cases h0 : x = 0 ∧ y = 0
  · have e1 : (x == 0) = true := by simp [h0.1]
    have e2 : (y == 0) = true := by simp [h0.2]
    have k1 : ¬ 1099511627776 < x := by omega
    have k2 : ¬ x < -1099511627776 := by omega
    have k3 : ¬ 1099511627776 < y := by omega
    have k4 : ¬ y < -1099511627776 := by omega
    clear HD h0
    go_enter Tryd.func22, Tryd.ntmps22
    go_wp2_with fail
    go_ret2
    exact ⟨rfl, Below.refl _ _⟩
  cases hx0 : (x == 0) <;> cases hy0 : (y == 0)
  all_goals
    have HE := Lib.hid h0
    clear h0
    first
      | (exfalso; have h1 := HE.out; simp at hx0 hy0; omega)
      | (by_cases h1 : x < -1099511627776
         · have k1 : decide (1099511627776 < x) = false := by simp; omega
           go_enter Tryd.func22, Tryd.ntmps22
           go_wp2_with fail
           go_ret2
           exact ⟨rfl, Below.refl _ _⟩
         by_cases h2 : 1099511627776 < x
         · go_enter Tryd.func22, Tryd.ntmps22
           go_wp2_with fail
           go_ret2
           exact ⟨rfl, Below.refl _ _⟩
         by_cases h3 : y < -1099511627776
         · have k1 : decide (1099511627776 < y) = false := by simp; omega
           go_enter Tryd.func22, Tryd.ntmps22
           go_wp2_with fail
           go_ret2
           exact ⟨rfl, Below.refl _ _⟩
         have h4 : 1099511627776 < y := by
           have := HD.out; have := HE.out; omega
         go_enter Tryd.func22, Tryd.ntmps22
         go_wp2_with fail
         go_ret2
         exact ⟨rfl, Below.refl _ _⟩)
end Go.Proofs.YtjajkgdbaefndaaDoor
