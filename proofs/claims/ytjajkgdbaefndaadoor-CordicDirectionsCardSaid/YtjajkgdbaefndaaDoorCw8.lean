/- Proved here: CordicRotate, CordicAngle, CordicQuarters, CordicRight return true for every argument, in every world that holds the table; no conditions but that integers are ints. -/
import Derived.Test.YtjajkgdbaefndaaDoorCw7
import Derived.Test.YtjajkgdbaefndaaDoorCxQ
namespace Go.Proofs.YtjajkgdbaefndaaDoor
open Go.RowKit
set_option linter.unusedVariables false

/-- a number in a range, by name -/
theorem between_ex (v lo hi : Int) (w : World) (ha : -9223372036854775808 ≤ v) (ha2 : v ≤ 9223372036854775807) (hlo : -4611686018427387904 ≤ lo) (hlh : lo ≤ hi) (hhi : hi ≤ 4611686018427387904) (hd : hi - lo ≤ 9223372036854775806) :
    Calls Tryd.prog 17 #[.int .i64 v, .int .i64 lo, .int .i64 hi] w fun e w' => ∃ n : Int, lo ≤ n ∧ n ≤ hi ∧ e = .returned (.int .i64 n) ∧ w = w' := by
  have h1 := Int.emod_nonneg v (b := hi - lo + 1) (by omega)
  have h2 := Int.emod_lt_of_pos v (b := hi - lo + 1) (by omega)
  exact (between_any v lo hi w ha ha2 hlo hlh hhi hd).mono fun e w' ⟨he, hw⟩ => ⟨_, by omega, by omega, he, hw⟩
theorem mod_ex (a b : Int) (w : World) (ha : -9223372036854775808 ≤ a) (ha2 : a ≤ 9223372036854775807) (hb : 0 < b) (hb2 : b ≤ 9223372036854775807) :
    Calls Tryd.prog 16 #[.int .i64 a, .int .i64 b] w fun e w' => ∃ n : Int, 0 ≤ n ∧ n < b ∧ e = .returned (.int .i64 n) ∧ w = w' :=
  (mod_any a b w ha ha2 hb hb2).mono fun e w' ⟨he, hw⟩ => ⟨_, Int.emod_nonneg a (by omega), Int.emod_lt_of_pos a hb, he, hw⟩
/-- Rotate of both, whatever the point -/
def inB (x y : Int) : Bool := decide (-4194304 ≤ x ∧ x ≤ 4194304 ∧ -4194304 ≤ y ∧ y ≤ 4194304)
def rX (x y a : Int) : Int := if inB x y then rotX x y a else 0
def rY (x y a : Int) : Int := if inB x y then rotY x y a else 0
theorem rotate_all (x y a : Int) (w : World) (ha : -9223372036854775808 ≤ a) (ha2 : a ≤ 9223372036854775807) (t : TypeId) (fr : Nat × Nat) (ht : w.heap[0]? = some (.cells tabV t fr)) :
    Calls Tryd.prog 19 #[.int .i64 x, .int .i64 y, .int .i64 a] w fun e w' => e = .returned (.tuple #[.int .i64 (rX x y a), .int .i64 (rY x y a), .bool (inB x y)]) ∧ Below w.heap.size w w' := by
  by_cases h : -4194304 ≤ x ∧ x ≤ 4194304 ∧ -4194304 ≤ y ∧ y ≤ 4194304
  · have e : inB x y = true := decide_eq_true h
    have r := rotate_in x y a w ha ha2 t fr ht h.1 h.2.1 h.2.2.1 h.2.2.2
    unfold rX rY; rw [e]; exact r
  · have e : inB x y = false := decide_eq_false h
    have r := rotate_out x y a w (by omega)
    unfold rX rY; rw [e]; exact r
theorem rotateRef_all (x y a : Int) (w : World) (ha : -9223372036854775808 ≤ a) (ha2 : a ≤ 9223372036854775807) :
    Calls Tryd.prog 20 #[.int .i64 x, .int .i64 y, .int .i64 a] w fun e w' => e = .returned (.tuple #[.int .i64 (rX x y a), .int .i64 (rY x y a), .bool (inB x y)]) ∧ Below w.heap.size w w' := by
  by_cases h : -4194304 ≤ x ∧ x ≤ 4194304 ∧ -4194304 ≤ y ∧ y ≤ 4194304
  · have e : inB x y = true := decide_eq_true h
    have r := rotateRef_in x y a w ha ha2 h.1 h.2.1 h.2.2.1 h.2.2.2
    unfold rX rY; rw [e]; exact r
  · have e : inB x y = false := decide_eq_false h
    have r := rotateRef_out x y a w (by omega)
    unfold rX rY; rw [e]; exact r
def inA (x y : Int) : Bool := decide (¬ ((x = 0 ∧ y = 0) ∨ x < -1099511627776 ∨ 1099511627776 < x ∨ y < -1099511627776 ∨ 1099511627776 < y))
def aA (x y : Int) : Int := if inA x y then angI x y else 0
theorem angle_all (x y : Int) (w : World) (t : TypeId) (fr : Nat × Nat) (ht : w.heap[0]? = some (.cells tabV t fr)) :
    Calls Tryd.prog 21 #[.int .i64 x, .int .i64 y] w fun e w' => e = .returned (.tuple #[.int .i64 (aA x y), .bool (inA x y)]) ∧ Below w.heap.size w w' := by
  by_cases h : (x = 0 ∧ y = 0) ∨ x < -1099511627776 ∨ 1099511627776 < x ∨ y < -1099511627776 ∨ 1099511627776 < y
  · have e : inA x y = false := decide_eq_false (fun g => g h)
    have r := angle_no x y w h
    unfold aA; rw [e]; exact r
  · have e : inA x y = true := decide_eq_true h
    have r := angle_any x y w t fr ht (by omega) (by omega) (by omega) (by omega) (by omega)
    unfold aA; rw [e]; exact r
theorem angleRef_all (x y : Int) (w : World) :
    Calls Tryd.prog 22 #[.int .i64 x, .int .i64 y] w fun e w' => e = .returned (.tuple #[.int .i64 (aA x y), .bool (inA x y)]) ∧ Below w.heap.size w w' := by
  by_cases h : (x = 0 ∧ y = 0) ∨ x < -1099511627776 ∨ 1099511627776 < x ∨ y < -1099511627776 ∨ 1099511627776 < y
  · have e : inA x y = false := decide_eq_false (fun g => g h)
    have r := angleRef_no x y w h
    unfold aA; rw [e]; exact r
  · have e : inA x y = true := decide_eq_true h
    have r := angleRef_any x y w (by omega) (by omega) (by omega) (by omega) (by omega)
    unfold aA; rw [e]; exact r
theorem beq_bool (b : Bool) : (b == b) = true := by cases b <;> rfl

set_option maxHeartbeats 400000 in
theorem law_rotate (x y a : Int) (s : Bool) (w : World) (hx : -9223372036854775808 ≤ x) (hx2 : x ≤ 9223372036854775807) (hy : -9223372036854775808 ≤ y) (hy2 : y ≤ 9223372036854775807) (ha : -9223372036854775808 ≤ a) (ha2 : a ≤ 9223372036854775807)
    (t : TypeId) (fr : Nat × Nat) (ht : w.heap[0]? = some (.cells tabV t fr)) :
    Calls Tryd.prog 4 #[.int .i64 x, .int .i64 y, .int .i64 a, .bool s] w fun e w' => e = .returned (.bool true) ∧ Below w.heap.size w w' := by
  cases s
  · go_enter Tryd.func4, Tryd.ntmps4
    go_wp2_with fail
    refine (rotate_all _ _ _ _ ha ha2 t fr ht).mono ?_
    rintro e w1 ⟨rfl, hb1⟩
    have ht1 := bcell0 ht hb1
    go_wp2_with fail
    refine (rotateRef_all _ _ _ _ ha ha2).mono ?_
    rintro e w2 ⟨rfl, hb2⟩
    have ht2 := bcell0 ht1 hb2
    go_wp2_with fail
    refine (awake_any _ t fr ht2).mono ?_
    rintro e w3 ⟨rfl, hb3⟩
    go_wp2_with fail
    go_ret
    exact ⟨rfl, bt (bt hb1 hb2) hb3⟩
  · go_enter Tryd.func4, Tryd.ntmps4
    go_wp2_with fail
    refine (between_ex _ _ _ _ hx hx2 (by omega) (by omega) (by omega) (by omega)).mono ?_
    rintro e w' ⟨n, hn1, hn2, rfl, rfl⟩
    go_wp2_with fail
    refine (between_ex _ _ _ _ hy hy2 (by omega) (by omega) (by omega) (by omega)).mono ?_
    rintro e w' ⟨m, hm1, hm2, rfl, rfl⟩
    go_wp2_with fail
    refine (rotate_all _ _ _ _ ha ha2 t fr ht).mono ?_
    rintro e w1 ⟨rfl, hb1⟩
    have ht1 := bcell0 ht hb1
    go_wp2_with fail
    refine (rotateRef_all _ _ _ _ ha ha2).mono ?_
    rintro e w2 ⟨rfl, hb2⟩
    have ht2 := bcell0 ht1 hb2
    go_wp2_with fail
    refine (awake_any _ t fr ht2).mono ?_
    rintro e w3 ⟨rfl, hb3⟩
    go_wp2_with fail
    go_ret
    exact ⟨rfl, bt (bt hb1 hb2) hb3⟩
set_option maxHeartbeats 400000 in
theorem law_angle (x y : Int) (s : Bool) (w : World) (hx : -9223372036854775808 ≤ x) (hx2 : x ≤ 9223372036854775807) (hy : -9223372036854775808 ≤ y) (hy2 : y ≤ 9223372036854775807)
    (t : TypeId) (fr : Nat × Nat) (ht : w.heap[0]? = some (.cells tabV t fr)) :
    Calls Tryd.prog 5 #[.int .i64 x, .int .i64 y, .bool s] w fun e w' => e = .returned (.bool true) ∧ Below w.heap.size w w' := by
  cases s
  · go_enter Tryd.func5, Tryd.ntmps5
    go_wp2_with fail
    refine (angle_all _ _ _ t fr ht).mono ?_
    rintro e w1 ⟨rfl, hb1⟩
    have ht1 := bcell0 ht hb1
    go_wp2_with fail
    refine (angleRef_all _ _ _).mono ?_
    rintro e w2 ⟨rfl, hb2⟩
    have ht2 := bcell0 ht1 hb2
    go_wp2_with fail
    refine (awake_any _ t fr ht2).mono ?_
    rintro e w3 ⟨rfl, hb3⟩
    go_wp2_with fail
    go_ret
    exact ⟨rfl, bt (bt hb1 hb2) hb3⟩
  · go_enter Tryd.func5, Tryd.ntmps5
    go_wp2_with fail
    refine (between_ex _ _ _ _ hx hx2 (by omega) (by omega) (by omega) (by omega)).mono ?_
    rintro e w' ⟨n, hn1, hn2, rfl, rfl⟩
    go_wp2_with fail
    refine (between_ex _ _ _ _ hy hy2 (by omega) (by omega) (by omega) (by omega)).mono ?_
    rintro e w' ⟨m, hm1, hm2, rfl, rfl⟩
    go_wp2_with fail
    refine (angle_all _ _ _ t fr ht).mono ?_
    rintro e w1 ⟨rfl, hb1⟩
    have ht1 := bcell0 ht hb1
    go_wp2_with fail
    refine (angleRef_all _ _ _).mono ?_
    rintro e w2 ⟨rfl, hb2⟩
    have ht2 := bcell0 ht1 hb2
    go_wp2_with fail
    refine (awake_any _ t fr ht2).mono ?_
    rintro e w3 ⟨rfl, hb3⟩
    go_wp2_with fail
    go_ret
    exact ⟨rfl, bt (bt hb1 hb2) hb3⟩
/-- SinCos at the angles of the law on quarter turns -/
theorem sincos_q1 (a : Int) (w : World) (ha : 0 ≤ a) (ha2 : a < 360000000) (t : TypeId) (fr : Nat × Nat) (ht : w.heap[0]? = some (.cells tabV t fr)) :
    Calls Tryd.prog 14 #[.int .i64 (a + 90000000)] w fun e w' => e = .returned (.tuple #[.int .i64 (cosI a), .int .i64 (wrap64 (-sinI a))]) ∧ Below w.heap.size w w' := by
  have h := sincos_any (a + 90000000) w (by omega) (by omega) t fr ht
  rw [(quarter_fact a).1, (quarter_fact a).2] at h; exact h
theorem sincos_q2 (a : Int) (w : World) (ha : 0 ≤ a) (ha2 : a < 360000000) (t : TypeId) (fr : Nat × Nat) (ht : w.heap[0]? = some (.cells tabV t fr)) :
    Calls Tryd.prog 14 #[.int .i64 (a + 180000000)] w fun e w' => e = .returned (.tuple #[.int .i64 (wrap64 (-sinI a)), .int .i64 (wrap64 (-cosI a))]) ∧ Below w.heap.size w w' := by
  have h := sincos_any (a + 180000000) w (by omega) (by omega) t fr ht
  rw [(half_fact a).1, (half_fact a).2] at h; exact h
theorem sincos_q4 (a : Int) (w : World) (ha : 0 ≤ a) (ha2 : a < 360000000) (t : TypeId) (fr : Nat × Nat) (ht : w.heap[0]? = some (.cells tabV t fr)) :
    Calls Tryd.prog 14 #[.int .i64 (a - 360000000)] w fun e w' => e = .returned (.tuple #[.int .i64 (sinI a), .int .i64 (cosI a)]) ∧ Below w.heap.size w w' := by
  have h := sincos_any (a - 360000000) w (by omega) (by omega) t fr ht
  rw [(full_fact a).1, (full_fact a).2] at h; exact h
set_option maxHeartbeats 400000 in
theorem law_quarters (a : Int) (w : World) (ha : -9223372036854775808 ≤ a) (ha2 : a ≤ 9223372036854775807)
    (t : TypeId) (fr : Nat × Nat) (ht : w.heap[0]? = some (.cells tabV t fr)) :
    Calls Tryd.prog 7 #[.int .i64 a] w fun e w' => e = .returned (.bool true) ∧ Below w.heap.size w w' := by
  go_enter Tryd.func7, Tryd.ntmps7
  go_wp2_with fail
  refine (mod_ex _ _ _ ha ha2 (by omega) (by omega)).mono ?_
  rintro e w' ⟨n, hn1, hn2, rfl, rfl⟩
  go_wp2_with fail
  refine (sincos_any _ _ (by omega) (by omega) t fr ht).mono ?_
  rintro e w1 ⟨rfl, hb1⟩
  have ht1 := bcell0 ht hb1
  go_wp2_with fail
  refine (sincos_q1 _ _ hn1 hn2 t fr ht1).mono ?_
  rintro e w2 ⟨rfl, hb2⟩
  have ht2 := bcell0 ht1 hb2
  go_wp2_with fail
  refine (sincos_q4 _ _ hn1 hn2 t fr ht2).mono ?_
  rintro e w3 ⟨rfl, hb3⟩
  have ht3 := bcell0 ht2 hb3
  go_wp2_with fail
  refine (sincos_q2 _ _ hn1 hn2 t fr ht3).mono ?_
  rintro e w4 ⟨rfl, hb4⟩
  have ht4 := bcell0 ht3 hb4
  go_wp2_with fail
  refine (awake_any _ t fr ht4).mono ?_
  rintro e w5 ⟨rfl, hb5⟩
  go_wp2_with fail
  go_ret
  exact ⟨rfl, bt (bt (bt (bt hb1 hb2) hb3) hb4) hb5⟩
/-- Rotate by right angles -/
theorem rotate_right (x y k : Int) (w : World) (hk : -40 ≤ k) (hk2 : k ≤ 40) (t : TypeId) (fr : Nat × Nat) (ht : w.heap[0]? = some (.cells tabV t fr))
    (hx : -4194304 ≤ x) (hx2 : x ≤ 4194304) (hy : -4194304 ≤ y) (hy2 : y ≤ 4194304) :
    Calls Tryd.prog 19 #[.int .i64 x, .int .i64 y, .int .i64 (k * 90000000)] w fun e w' => e = .returned (.tuple #[.int .i64 (qt (k % 4).toNat (x, y)).1, .int .i64 (qt (k % 4).toNat (x, y)).2, .bool true]) ∧ Below w.heap.size w w' := by
  have h := rotate_in x y (k * 90000000) w (by omega) (by omega) t fr ht hx hx2 hy hy2
  rw [(right_fact x y k hx hx2 hy hy2).1, (right_fact x y k hx hx2 hy hy2).2] at h; exact h
set_option maxHeartbeats 800000 in
theorem law_right (x y k : Int) (w : World) (hx : -9223372036854775808 ≤ x) (hx2 : x ≤ 9223372036854775807) (hy : -9223372036854775808 ≤ y) (hy2 : y ≤ 9223372036854775807) (ha : -9223372036854775808 ≤ k) (ha2 : k ≤ 9223372036854775807)
    (t : TypeId) (fr : Nat × Nat) (ht : w.heap[0]? = some (.cells tabV t fr)) :
    Calls Tryd.prog 10 #[.int .i64 x, .int .i64 y, .int .i64 k] w fun e w' => e = .returned (.bool true) ∧ Below w.heap.size w w' := by
  go_enter Tryd.func10, Tryd.ntmps10
  go_wp2_with fail
  refine (between_ex _ _ _ _ hx hx2 (by omega) (by omega) (by omega) (by omega)).mono ?_
  rintro e w' ⟨p, hp1, hp2, rfl, rfl⟩
  go_wp2_with fail
  refine (between_ex _ _ _ _ hy hy2 (by omega) (by omega) (by omega) (by omega)).mono ?_
  rintro e w' ⟨q, hq1, hq2, rfl, rfl⟩
  go_wp2_with fail
  refine (between_ex _ _ _ _ ha ha2 (by omega) (by omega) (by omega) (by omega)).mono ?_
  rintro e w' ⟨n, hn1, hn2, rfl, rfl⟩
  go_wp2_with fail
  refine (rotate_right _ _ _ _ hn1 hn2 t fr ht hp1 hp2 hq1 hq2).mono ?_
  rintro e w1 ⟨rfl, hb1⟩
  have ht1 := bcell0 ht hb1
  have HM : Hid (∃ m : Nat, n % 4 = m) := ⟨(n % 4).toNat, by omega⟩
  go_wp2_with fail
  refine (mod_any _ _ _ (by omega) (by omega) (by omega) (by omega)).mono ?_
  rintro e w' ⟨rfl, rfl⟩
  obtain ⟨m, hm⟩ := HM.out
  rw [hm, Int.toNat_natCast]
  have hm4 : m < 4 := by omega
  clear HM hm
  obtain ⟨r, hr⟩ : ∃ r, qt m (p, q) = r := ⟨_, rfl⟩
  rw [hr]
  have HR := Lib.hid hr
  clear hr
  go_wp2_with fail
  go_loop [0, 1, 10] (fun a b c => ∃ (u v : Int) (j : Nat), j ≤ m ∧ a = .int .i64 u ∧ b = .int .i64 v ∧ c = .int .i64 j ∧ qt j (u, v) = r) (fun _ _ c => (intOf c).toNat)
  case atStart => exact ⟨p, q, m, Nat.le_refl _, rfl, rfl, rfl, HR.out⟩
  case round =>
    obtain ⟨u, v, j, hj, rfl, rfl, rfl, hq⟩ := hrel
    have HQ := Lib.hid hq
    clear hq
    cases j with
    | succ j =>
      go_wp2
      go_round
      case rel => exact ⟨wrap64 (-v), u, j, by omega, rfl, rfl, by go_num, HQ.out⟩
      case measure => simp [intOf]
    | zero =>
      obtain ⟨r1, r2⟩ := r
      have h := HQ.out
      simp only [qt, Prod.mk.injEq] at h
      obtain ⟨rfl, rfl⟩ := h
      clear HQ HR
      go_wp2_with fail
      refine (awake_any _ t fr ht1).mono ?_
      rintro e w2 ⟨rfl, hb2⟩
      go_wp2_with fail
      go_ret
      exact ⟨rfl, bt hb1 hb2⟩
end Go.Proofs.YtjajkgdbaefndaaDoor
