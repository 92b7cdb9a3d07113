/- Proved here: Angle of the program returns the result of the plain function angI, for every point in range but the origin, in every world that holds the table. -/
import Derived.Test.YtjajkgdbaefndaaDoorCw4
namespace Go.Proofs.YtjajkgdbaefndaaDoor
open Go.RowKit
set_option linter.unusedVariables false

/-- one round of P3.3 -/
def stpA (i : Nat) (s : Int × Int × Int) : Int × Int × Int :=
  if 0 ≤ s.2.1 then (wrap64 (s.1 + s.2.1 / 2 ^ i), wrap64 (s.2.1 - s.1 / 2 ^ i), wrap64 (s.2.2 + tabAt i)) else (wrap64 (s.1 - s.2.1 / 2 ^ i), wrap64 (s.2.1 + s.1 / 2 ^ i), wrap64 (s.2.2 - tabAt i))
def itrA : Nat → Int × Int × Int → Int × Int × Int
  | 0, s => s
  | n + 1, s => stpA n (itrA n s)
theorem itrA_pos {m : Nat} {s0 : Int × Int × Int} {u v s : Int} (h : itrA m s0 = (u, v, s)) (hs : 0 ≤ v) : itrA (m + 1) s0 = (wrap64 (u + v / 2 ^ m), wrap64 (v - u / 2 ^ m), wrap64 (s + tabAt m)) := by
  simp [itrA, h, stpA, hs]
theorem itrA_neg {m : Nat} {s0 : Int × Int × Int} {u v s : Int} (h : itrA m s0 = (u, v, s)) (hs : ¬ 0 ≤ v) : itrA (m + 1) s0 = (wrap64 (u - v / 2 ^ m), wrap64 (v + u / 2 ^ m), wrap64 (s - tabAt m)) := by
  simp [itrA, h, stpA, hs]
/-- in the quarter to the right -/
def rightQ (u v : Int) : Prop := 0 < u ∧ -u ≤ v ∧ v < u
/-- the number of quarter turns, and the point in the quarter to the right: by cases, for a point that is not the origin -/
def qK (x y : Int) : Int := if 0 < x ∧ -x ≤ y ∧ y < x then 0 else if 0 < y ∧ -y ≤ -x ∧ -x < y then 1 else if 0 < -x ∧ x ≤ -y ∧ -y < -x then 2 else 3
def qU (x y : Int) : Int := if 0 < x ∧ -x ≤ y ∧ y < x then x else if 0 < y ∧ -y ≤ -x ∧ -x < y then y else if 0 < -x ∧ x ≤ -y ∧ -y < -x then -x else -y
def qV (x y : Int) : Int := if 0 < x ∧ -x ≤ y ∧ y < x then y else if 0 < y ∧ -y ≤ -x ∧ -x < y then -x else if 0 < -x ∧ x ≤ -y ∧ -y < -x then -y else x
theorem qUV (x y : Int) (h : x ≠ 0 ∨ y ≠ 0) : 0 < qU x y ∧ -qU x y ≤ qV x y ∧ qV x y < qU x y := by
  unfold qU qV; (repeat' split) <;> omega

theorem q_step {u v : Int} (h : u ≠ 0 ∨ v ≠ 0) (hn : u ≤ 0 ∨ v < -u ∨ u ≤ v) : 0 < qK u v ∧ qK v (-u) = qK u v - 1 ∧ qU v (-u) = qU u v ∧ qV v (-u) = qV u v := by
  unfold qK qU qV
  refine ⟨?_, ?_, ?_, ?_⟩ <;> (repeat' split) <;> omega
theorem q_done {u v : Int} (hn : ¬ (u ≤ 0 ∨ v < -u ∨ u ≤ v)) : qK u v = 0 ∧ qU u v = u ∧ qV u v = v := by
  unfold qK qU qV
  refine ⟨?_, ?_, ?_⟩ <;> (repeat' split) <;> omega
theorem qK_lo (u v : Int) : 0 ≤ qK u v ∧ qK u v ≤ 3 := by unfold qK; (repeat' split) <;> omega
structure AngRel (x y k u v : Int) : Prop where
  n0 : u ≠ 0 ∨ v ≠ 0
  bu : -1099511627776 ≤ u ∧ u ≤ 1099511627776
  bv : -1099511627776 ≤ v ∧ v ≤ 1099511627776
  bk : 0 ≤ k ∧ k ≤ 3
  kk : k + qK u v = qK x y
  uu : qU u v = qU x y
  vv : qV u v = qV x y
theorem AngRel.next {x y k u v : Int} (h : AngRel x y k u v) (hn : u ≤ 0 ∨ v < -u ∨ u ≤ v) : AngRel x y (k + 1) v (-u) := by
  obtain ⟨n0, bu, bv, bk, kk, uu, vv⟩ := h
  obtain ⟨s1, s2, s3, s4⟩ := q_step n0 hn
  have := qK_lo x y
  exact ⟨by omega, by omega, by omega, by omega, by omega, by omega, by omega⟩

theorem wrap64_bd (n : Int) : -9223372036854775808 ≤ wrap64 n ∧ wrap64 n ≤ 9223372036854775807 := by unfold wrap64; omega

def angR (r : Int) : Int := wrap64 ((wrap64 (wrap64 (r + 500) - wrap64 (r + 500) % 1000)).tdiv 1000)
/-- what Angle gives at a point that is not the origin -/
def angI (x y : Int) : Int := if qV x y = 0 then qK x y * 90000000 % 360000000 else wrap64 (qK x y * 90000000 + angR (itrA 26 (qU x y * 1048576, qV x y * 1048576, 0)).2.2) % 360000000
theorem ang_end {x y k u v p q r : Int} (h : AngRel x y k u v) (hn : ¬ (u ≤ 0 ∨ v < -u ∨ u ≤ v)) (hv : v ≠ 0) (hi : itrA 26 (u * 1048576, v * 1048576, 0) = (p, q, r)) :
    wrap64 (k * 90000000 + wrap64 ((wrap64 (wrap64 (r + 500) - wrap64 (r + 500) % 1000)).tdiv 1000)) % 360000000 = angI x y := by
  obtain ⟨d1, d2, d3⟩ := q_done hn
  have e1 : qK x y = k := by have := h.kk; omega
  have e2 : qU x y = u := by rw [← h.uu, d2]
  have e3 : qV x y = v := by rw [← h.vv, d3]
  unfold angI angR
  rw [e1, e2, e3, hi, if_neg hv]
theorem ang_zero {x y k u v : Int} (h : AngRel x y k u v) (hn : ¬ (u ≤ 0 ∨ v < -u ∨ u ≤ v)) (hv : v = 0) : k * 90000000 % 360000000 = angI x y := by
  obtain ⟨d1, d2, d3⟩ := q_done hn
  have e1 : qK x y = k := by have := h.kk; omega
  have e3 : qV x y = v := by rw [← h.vv, d3]
  unfold angI
  rw [e1, e3, if_pos hv]
theorem ret_ib {a b : Int} {c : Bool} (h : a = b) : Ending.returned (.tuple #[.int .i64 a, .bool c]) = .returned (.tuple #[.int .i64 b, .bool c]) := by rw [h]

set_option maxHeartbeats 400000 in
theorem angle_x (x y : Int) (w : World) (t : TypeId) (fr : Nat × Nat) (ht : w.heap[0]? = some (.cells tabV t fr)) (hx : -1099511627776 ≤ x) (hx2 : x ≤ 1099511627776) (hy : -1099511627776 ≤ y) (hy2 : y ≤ 1099511627776) (hn0 : x ≠ 0 ∨ y ≠ 0) (h0 : (x == 0) = false) :
    Calls Tryd.prog 21 #[.int .i64 x, .int .i64 y] w fun e w' => e = .returned (.tuple #[.int .i64 (angI x y), .bool true]) ∧ Below w.heap.size w w' := by
  have HN := Lib.hid hn0
  clear hn0
  go_enter Tryd.func21, Tryd.ntmps21
  go_wp2
  go_loop [6, 7, 8] (fun k u v => ∃ (kk uu vv : Int), k = .int .i64 kk ∧ u = .int .i64 uu ∧ v = .int .i64 vv ∧ AngRel x y kk uu vv) (fun _ u v => (qK (intOf u) (intOf v)).toNat)
  case atStart => exact ⟨0, x, y, rfl, rfl, rfl, HN.out, by omega, by omega, by omega, by omega, rfl, rfl⟩
  case round =>
    obtain ⟨k, u, v, rfl, rfl, rfl, hr⟩ := hrel
    have b1 := hr.bu.1
    have b2 := hr.bu.2
    have b3 := hr.bv.1
    have b4 := hr.bv.2
    have b5 := hr.bk.1
    have b6 := hr.bk.2
    by_cases hn : u ≤ 0 ∨ v < -u ∨ u ≤ v
    · have hq := q_step hr.n0 hn
      have HQ := Lib.hid hq
      have HN2 := Lib.hid (hr.next hn)
      clear hq
      by_cases c1 : u ≤ 0
      · clear hn
        go_wp2
        go_round
        case rel => exact ⟨_, _, _, rfl, rfl, rfl, HN2.out⟩
        case measure => simp [intOf]; have := HQ.out; omega
      · by_cases c2 : v < -u
        · clear hn
          go_wp2
          go_round
          case rel => exact ⟨_, _, _, rfl, rfl, rfl, HN2.out⟩
          case measure => simp [intOf]; have := HQ.out; omega
        · have c3 : u ≤ v := by omega
          clear hn
          go_wp2
          go_round
          case rel => exact ⟨_, _, _, rfl, rfl, rfl, HN2.out⟩
          case measure => simp [intOf]; have := HQ.out; omega
    · have c1 : ¬ u ≤ 0 := by omega
      have c2 : ¬ v < -u := by omega
      have c3 : ¬ u ≤ v := by omega
      clear hn
      by_cases hv : (v != 0) = true
      · go_wp2_with (refine wpList_load_row rfl 37 _ rfl 0 rfl t tabV fr _ ht Tryd.underlying37 rfl (by kernel_rfl) ?_)
        go_loopw [10, 11, 12, 64] (fun a b z i wr => ∃ (p q r : Int) (m : Nat), m ≤ 26 ∧ a = .int .i64 p ∧ b = .int .i64 q ∧ z = .int .i64 r ∧ i = .int .i64 ↑m ∧ itrA m (u * 1048576, v * 1048576, 0) = (p, q, r) ∧ Below w.heap.size w wr) (fun _ _ _ i _ => 26 - (intOf i).toNat)
        case atStart => exact ⟨_, _, _, 0, by omega, rfl, rfl, rfl, rfl, rfl, Below.refl _ _⟩
        case round =>
          obtain ⟨p, q, r, m, hm, rfl, rfl, rfl, rfl, hq, hb⟩ := hrel
          have HQ := Lib.hid hq
          clear hq
          by_cases hlt : m < 26
          · have hix := idx_tab m hlt
            by_cases hs : 0 ≤ q
            · go_wp2
              go_quiet (fail)
              go_wp2
              go_roundw
              case rel => exact ⟨_, _, _, m + 1, by omega, rfl, rfl, rfl, by go_num, itrA_pos HQ.out hs, below_drewN hb _⟩
              case measure => simp [intOf]; omega
            · go_wp2
              go_quiet (fail)
              go_wp2
              go_roundw
              case rel => exact ⟨_, _, _, m + 1, by omega, rfl, rfl, rfl, by go_num, itrA_neg HQ.out (by omega), below_drewN hb _⟩
              case measure => simp [intOf]; omega
          · obtain rfl : m = 26 := by omega
            have hw := wrap64_bd (r + 500)
            have hk2 := wrap64_bd (k * 90000000 + wrap64 ((wrap64 (wrap64 (r + 500) - wrap64 (r + 500) % 1000)).tdiv 1000))
            go_wp2_with fail
            refine (rem_any _ _ _ (by omega) (by omega) (by omega) (by omega)).mono ?_; rintro e w' ⟨rfl, rfl⟩
            go_wp2_with fail
            refine (rem_any _ _ _ hk2.1 hk2.2 (by omega) (by omega)).mono ?_
            rintro e w' ⟨rfl, rfl⟩
            go_wp2_with fail
            go_ret2
            exact ⟨ret_ib (ang_end hr (by omega) (by simpa using hv) HQ.out), hb⟩
      · have hv2 : (v != 0) = false := by simpa using hv
        go_wp2_with (go_at_call 26; refine (rem_any _ _ _ (by omega) (by omega) (by omega) (by omega)).mono ?_; rintro e w' ⟨rfl, rfl⟩)
        go_ret2
        exact ⟨ret_ib (ang_zero hr (by omega) (by simpa using hv2)), Below.refl _ _⟩
set_option maxHeartbeats 400000 in
theorem angle_y (x y : Int) (w : World) (t : TypeId) (fr : Nat × Nat) (ht : w.heap[0]? = some (.cells tabV t fr)) (hx : -1099511627776 ≤ x) (hx2 : x ≤ 1099511627776) (hy : -1099511627776 ≤ y) (hy2 : y ≤ 1099511627776) (hn0 : x ≠ 0 ∨ y ≠ 0) (h0 : (x == 0) = true) (h1 : (y == 0) = false) :
    Calls Tryd.prog 21 #[.int .i64 x, .int .i64 y] w fun e w' => e = .returned (.tuple #[.int .i64 (angI x y), .bool true]) ∧ Below w.heap.size w w' := by
  have HN := Lib.hid hn0
  clear hn0
  go_enter Tryd.func21, Tryd.ntmps21
  go_wp2
  go_loop [6, 7, 8] (fun k u v => ∃ (kk uu vv : Int), k = .int .i64 kk ∧ u = .int .i64 uu ∧ v = .int .i64 vv ∧ AngRel x y kk uu vv) (fun _ u v => (qK (intOf u) (intOf v)).toNat)
  case atStart => exact ⟨0, x, y, rfl, rfl, rfl, HN.out, by omega, by omega, by omega, by omega, rfl, rfl⟩
  case round =>
    obtain ⟨k, u, v, rfl, rfl, rfl, hr⟩ := hrel
    have b1 := hr.bu.1
    have b2 := hr.bu.2
    have b3 := hr.bv.1
    have b4 := hr.bv.2
    have b5 := hr.bk.1
    have b6 := hr.bk.2
    by_cases hn : u ≤ 0 ∨ v < -u ∨ u ≤ v
    · have hq := q_step hr.n0 hn
      have HQ := Lib.hid hq
      have HN2 := Lib.hid (hr.next hn)
      clear hq
      by_cases c1 : u ≤ 0
      · clear hn
        go_wp2
        go_round
        case rel => exact ⟨_, _, _, rfl, rfl, rfl, HN2.out⟩
        case measure => simp [intOf]; have := HQ.out; omega
      · by_cases c2 : v < -u
        · clear hn
          go_wp2
          go_round
          case rel => exact ⟨_, _, _, rfl, rfl, rfl, HN2.out⟩
          case measure => simp [intOf]; have := HQ.out; omega
        · have c3 : u ≤ v := by omega
          clear hn
          go_wp2
          go_round
          case rel => exact ⟨_, _, _, rfl, rfl, rfl, HN2.out⟩
          case measure => simp [intOf]; have := HQ.out; omega
    · have c1 : ¬ u ≤ 0 := by omega
      have c2 : ¬ v < -u := by omega
      have c3 : ¬ u ≤ v := by omega
      clear hn
      by_cases hv : (v != 0) = true
      · go_wp2_with (refine wpList_load_row rfl 37 _ rfl 0 rfl t tabV fr _ ht Tryd.underlying37 rfl (by kernel_rfl) ?_)
        go_loopw [10, 11, 12, 64] (fun a b z i wr => ∃ (p q r : Int) (m : Nat), m ≤ 26 ∧ a = .int .i64 p ∧ b = .int .i64 q ∧ z = .int .i64 r ∧ i = .int .i64 ↑m ∧ itrA m (u * 1048576, v * 1048576, 0) = (p, q, r) ∧ Below w.heap.size w wr) (fun _ _ _ i _ => 26 - (intOf i).toNat)
        case atStart => exact ⟨_, _, _, 0, by omega, rfl, rfl, rfl, rfl, rfl, Below.refl _ _⟩
        case round =>
          obtain ⟨p, q, r, m, hm, rfl, rfl, rfl, rfl, hq, hb⟩ := hrel
          have HQ := Lib.hid hq
          clear hq
          by_cases hlt : m < 26
          · have hix := idx_tab m hlt
            by_cases hs : 0 ≤ q
            · go_wp2
              go_quiet (fail)
              go_wp2
              go_roundw
              case rel => exact ⟨_, _, _, m + 1, by omega, rfl, rfl, rfl, by go_num, itrA_pos HQ.out hs, below_drewN hb _⟩
              case measure => simp [intOf]; omega
            · go_wp2
              go_quiet (fail)
              go_wp2
              go_roundw
              case rel => exact ⟨_, _, _, m + 1, by omega, rfl, rfl, rfl, by go_num, itrA_neg HQ.out (by omega), below_drewN hb _⟩
              case measure => simp [intOf]; omega
          · obtain rfl : m = 26 := by omega
            have hw := wrap64_bd (r + 500)
            have hk2 := wrap64_bd (k * 90000000 + wrap64 ((wrap64 (wrap64 (r + 500) - wrap64 (r + 500) % 1000)).tdiv 1000))
            go_wp2_with fail
            refine (rem_any _ _ _ (by omega) (by omega) (by omega) (by omega)).mono ?_; rintro e w' ⟨rfl, rfl⟩
            go_wp2_with fail
            refine (rem_any _ _ _ hk2.1 hk2.2 (by omega) (by omega)).mono ?_
            rintro e w' ⟨rfl, rfl⟩
            go_wp2_with fail
            go_ret2
            exact ⟨ret_ib (ang_end hr (by omega) (by simpa using hv) HQ.out), hb⟩
      · have hv2 : (v != 0) = false := by simpa using hv
        go_wp2_with (go_at_call 26; refine (rem_any _ _ _ (by omega) (by omega) (by omega) (by omega)).mono ?_; rintro e w' ⟨rfl, rfl⟩)
        go_ret2
        exact ⟨ret_ib (ang_zero hr (by omega) (by simpa using hv2)), Below.refl _ _⟩
theorem angle_any (x y : Int) (w : World) (t : TypeId) (fr : Nat × Nat) (ht : w.heap[0]? = some (.cells tabV t fr)) (hx : -1099511627776 ≤ x) (hx2 : x ≤ 1099511627776) (hy : -1099511627776 ≤ y) (hy2 : y ≤ 1099511627776) (hn0 : x ≠ 0 ∨ y ≠ 0) :
    Calls Tryd.prog 21 #[.int .i64 x, .int .i64 y] w fun e w' => e = .returned (.tuple #[.int .i64 (angI x y), .bool true]) ∧ Below w.heap.size w w' := by
  cases h0 : (x == 0)
  · exact angle_x x y w t fr ht hx hx2 hy hy2 hn0 h0
  · exact angle_y x y w t fr ht hx hx2 hy hy2 hn0 h0 (by have : x = 0 := by simpa using h0
                                                         have : y ≠ 0 := by omega
                                                         simpa using this)
end Go.Proofs.YtjajkgdbaefndaaDoor
