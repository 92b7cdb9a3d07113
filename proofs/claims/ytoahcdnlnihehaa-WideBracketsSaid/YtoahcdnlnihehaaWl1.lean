/- Proved here: laws on package wide that do without the reference return true for every argument; no conditions but that integers are ints. -/
import Derived.Test.YtoahcdnlnihehaaWp1
import Derived.Test.YtoahcdnlnihehaaUw1
namespace Go.Proofs.Ytoahcdnlnihehaa
open Go.RowKit
set_option linter.unusedVariables false

set_option maxRecDepth 20000 in
set_option maxHeartbeats 2000000 in
theorem law_negates (a b c : Int) (w : World) (la : -9223372036854775808 ≤ a) (ha : a ≤ 9223372036854775807) (lb : -9223372036854775808 ≤ b) (hb : b ≤ 9223372036854775807) (lc : -9223372036854775808 ≤ c) (hc : c ≤ 9223372036854775807) :
    Calls Try.prog 11 #[.int .i64 a, .int .i64 b, .int .i64 c] w fun e w' => e = .returned (.bool true) ∧ Below w.heap.size w w' := by
  by_cases h0 : a = -9223372036854775808
  · subst h0
    go_enter Try.func11, Try.ntmps11
    go_wp2_with fail
    refine (awake_any _).mono ?_
    rintro e w1 ⟨rfl, hb1⟩
    go_wp2_with fail
    go_ret
    exact ⟨rfl, hb1⟩
  · have M1 := fun w => Lib.hid (muldiv_any (-a) b c 0 w (by omega) (by omega) lb hb lc hc)
    have M2 := fun w => Lib.hid (muldiv_any a b c 1 w la ha lb hb lc hc)
    have NF := neg_fact a b c
    have B := mdV_bd (-a) b c 0
    generalize mdV (-a) b c 0 = x at *
    generalize mdO (-a) b c 0 = xo at *
    generalize mdV a b c 1 = y at *
    generalize mdO a b c 1 = yo at *
    obtain ⟨B1, B2⟩ := B
    cases xo
    · clear NF
      go_enter Try.func11, Try.ntmps11
      go_wp2_with fail
      refine (M1 _).out.mono ?_
      rintro e w1 ⟨rfl, hb1⟩
      go_wp2_with fail
      refine (M2 _).out.mono ?_
      rintro e w2 ⟨rfl, hb2⟩
      go_wp2_with fail
      refine (awake_any _).mono ?_
      rintro e w3 ⟨rfl, hb3⟩
      go_wp2_with fail
      go_ret
      exact ⟨rfl, (btW (btW hb1 hb2) hb3)⟩
    · cases yo
      · clear NF
        go_enter Try.func11, Try.ntmps11
        go_wp2_with fail
        refine (M1 _).out.mono ?_
        rintro e w1 ⟨rfl, hb1⟩
        go_wp2_with fail
        refine (M2 _).out.mono ?_
        rintro e w2 ⟨rfl, hb2⟩
        go_wp2_with fail
        refine (awake_any _).mono ?_
        rintro e w3 ⟨rfl, hb3⟩
        go_wp2_with fail
        go_ret
        exact ⟨rfl, (btW (btW hb1 hb2) hb3)⟩
      · have hy : y = -x := NF rfl rfl
        subst hy
        clear NF
        by_cases hx : x = -9223372036854775808
        · subst hx
          go_enter Try.func11, Try.ntmps11
          go_wp2_with fail
          refine (M1 _).out.mono ?_
          rintro e w1 ⟨rfl, hb1⟩
          go_wp2_with fail
          refine (M2 _).out.mono ?_
          rintro e w2 ⟨rfl, hb2⟩
          go_wp2_with fail
          refine (awake_any _).mono ?_
          rintro e w3 ⟨rfl, hb3⟩
          go_wp2_with fail
          go_ret
          exact ⟨rfl, (btW (btW hb1 hb2) hb3)⟩
        · have e0 : (x == -9223372036854775808) = false := by simpa using hx
          go_enter Try.func11, Try.ntmps11
          go_wp2_with fail
          refine (M1 _).out.mono ?_
          rintro e w1 ⟨rfl, hb1⟩
          go_wp2_with fail
          refine (M2 _).out.mono ?_
          rintro e w2 ⟨rfl, hb2⟩
          go_wp2_with fail
          refine (awake_any _).mono ?_
          rintro e w3 ⟨rfl, hb3⟩
          go_wp2_with fail
          go_ret
          exact ⟨rfl, (btW (btW hb1 hb2) hb3)⟩

set_option maxRecDepth 20000 in
set_option maxHeartbeats 2000000 in
theorem law_cancels (a b m : Int) (w : World) (la : -9223372036854775808 ≤ a) (ha : a ≤ 9223372036854775807) (lb : -9223372036854775808 ≤ b) (hb : b ≤ 9223372036854775807) (lm : -9223372036854775808 ≤ m) (hm : m ≤ 9223372036854775807) :
    Calls Try.prog 13 #[.int .i64 a, .int .i64 b, .int .i64 m] w fun e w' => e = .returned (.bool true) ∧ Below w.heap.size w w' := by
  by_cases h0 : b = 0
  · subst h0
    go_enter Try.func13, Try.ntmps13
    go_wp2_with fail
    refine (awake_any _).mono ?_
    rintro e w1 ⟨rfl, hb1⟩
    go_wp2_with fail
    go_ret
    exact ⟨rfl, hb1⟩
  · have g1 := Int.emod_nonneg m (b := 3) (by decide)
    have g2 := Int.emod_lt_of_pos m (b := 3) (by decide)
    have CF := cancel_fact a b (m % 3) h0 (by omega) la ha
    have e0 : (b == 0) = false := by simpa using h0
    have MD := fun w => Lib.hid (mod_any m 3 w lm hm (by omega) (by omega))
    have M1 := fun w => Lib.hid (muldiv_any a b b (m % 3) w la ha lb hb lb hb)
    rw [CF.1, CF.2] at M1
    clear CF h0
    go_enter Try.func13, Try.ntmps13
    go_wp2_with fail
    refine (MD _).out.mono ?_
    rintro e w' ⟨rfl, rfl⟩
    go_wp2_with fail
    refine (M1 _).out.mono ?_
    rintro e w2 ⟨rfl, hb2⟩
    go_wp2_with fail
    refine (awake_any _).mono ?_
    rintro e w3 ⟨rfl, hb3⟩
    go_wp2_with fail
    go_ret
    exact ⟨rfl, (btW hb2 hb3)⟩

set_option maxRecDepth 20000 in
set_option maxHeartbeats 2000000 in
theorem law_refuses (a b n m : Int) (w : World) (la : -9223372036854775808 ≤ a) (ha : a ≤ 9223372036854775807) (lb : -9223372036854775808 ≤ b) (hb : b ≤ 9223372036854775807) (ln : -9223372036854775808 ≤ n) (hn : n ≤ 9223372036854775807) (lm : -9223372036854775808 ≤ m) (hm : m ≤ 9223372036854775807) :
    Calls Try.prog 16 #[.int .i64 a, .int .i64 b, .int .i64 n, .int .i64 m] w fun e w' => e = .returned (.bool true) ∧ Below w.heap.size w w' := by
  have MZ := fun w => Lib.hid (muldiv_any a b 0 0 w la ha lb hb (by omega) (by omega))
  have OZ := fun w => Lib.hid (over_any 2147483649 1 1 0 w (by omega) (by omega) (by omega) (by omega))
  rw [(md_not a b 0 0 (Or.inl rfl)).1, (md_not a b 0 0 (Or.inl rfl)).2] at MZ
  rw [(ov_not 2147483649 1 1 0 (Or.inl (by decide))).1, (ov_not 2147483649 1 1 0 (Or.inl (by decide))).2] at OZ
  by_cases h1 : m < 0
  · have d1 : decide (0 ≤ m) = false := by simp; omega
    have M1 := fun w => Lib.hid (muldiv_any a b n m w la ha lb hb ln hn)
    have S1 := fun w => Lib.hid (sqrt_any a m w ha)
    have R1 := fun w => Lib.hid (rootF_any a b m w ha hb)
    have O1 := fun w => Lib.hid (over_any a b n m w la ha lb hb)
    rw [(md_not a b n m (by omega)).1, (md_not a b n m (by omega)).2] at M1
    rw [(sq_not a m (by omega)).1, (sq_not a m (by omega)).2] at S1
    rw [(ro_not a b m (by omega)).1, (ro_not a b m (by omega)).2] at R1
    rw [(ov_not a b n m (by omega)).1, (ov_not a b n m (by omega)).2] at O1
    go_enter Try.func16, Try.ntmps16
    go_wp2_with fail
    refine (M1 _).out.mono ?_
    rintro e w1 ⟨rfl, hb1⟩
    go_wp2_with fail
    refine (S1 _).out.mono ?_
    rintro e w2 ⟨rfl, hb2⟩
    go_wp2_with fail
    refine (R1 _).out.mono ?_
    rintro e w3 ⟨rfl, hb3⟩
    go_wp2_with fail
    refine (O1 _).out.mono ?_
    rintro e w4 ⟨rfl, hb4⟩
    go_wp2_with fail
    refine (MZ _).out.mono ?_
    rintro e w5 ⟨rfl, hb5⟩
    go_wp2_with fail
    refine (OZ _).out.mono ?_
    rintro e w6 ⟨rfl, hb6⟩
    go_wp2_with fail
    refine (awake_any _).mono ?_
    rintro e w7 ⟨rfl, hb7⟩
    go_wp2_with fail
    go_ret
    exact ⟨rfl, (btW (btW (btW (btW (btW (btW hb1 hb2) hb3) hb4) hb5) hb6) hb7)⟩
  · by_cases h2 : m ≤ 2
    · have d1 : 0 ≤ m := by omega
      have M1 := fun w => Lib.hid (muldiv_any a b n (m + 3) w la ha lb hb ln hn)
      have S1 := fun w => Lib.hid (sqrt_any a (m + 3) w ha)
      have R1 := fun w => Lib.hid (rootF_any a b (m + 3) w ha hb)
      have O1 := fun w => Lib.hid (over_any a b n (m + 3) w la ha lb hb)
      rw [(md_not a b n (m + 3) (by omega)).1, (md_not a b n (m + 3) (by omega)).2] at M1
      rw [(sq_not a (m + 3) (by omega)).1, (sq_not a (m + 3) (by omega)).2] at S1
      rw [(ro_not a b (m + 3) (by omega)).1, (ro_not a b (m + 3) (by omega)).2] at R1
      rw [(ov_not a b n (m + 3) (by omega)).1, (ov_not a b n (m + 3) (by omega)).2] at O1
      go_enter Try.func16, Try.ntmps16
      go_wp2_with fail
      refine (M1 _).out.mono ?_
      rintro e w1 ⟨rfl, hb1⟩
      go_wp2_with fail
      refine (S1 _).out.mono ?_
      rintro e w2 ⟨rfl, hb2⟩
      go_wp2_with fail
      refine (R1 _).out.mono ?_
      rintro e w3 ⟨rfl, hb3⟩
      go_wp2_with fail
      refine (O1 _).out.mono ?_
      rintro e w4 ⟨rfl, hb4⟩
      go_wp2_with fail
      refine (MZ _).out.mono ?_
      rintro e w5 ⟨rfl, hb5⟩
      go_wp2_with fail
      refine (OZ _).out.mono ?_
      rintro e w6 ⟨rfl, hb6⟩
      go_wp2_with fail
      refine (awake_any _).mono ?_
      rintro e w7 ⟨rfl, hb7⟩
      go_wp2_with fail
      go_ret
      exact ⟨rfl, (btW (btW (btW (btW (btW (btW hb1 hb2) hb3) hb4) hb5) hb6) hb7)⟩
    · have d1 : 0 ≤ m := by omega
      have M1 := fun w => Lib.hid (muldiv_any a b n m w la ha lb hb ln hn)
      have S1 := fun w => Lib.hid (sqrt_any a m w ha)
      have R1 := fun w => Lib.hid (rootF_any a b m w ha hb)
      have O1 := fun w => Lib.hid (over_any a b n m w la ha lb hb)
      rw [(md_not a b n m (by omega)).1, (md_not a b n m (by omega)).2] at M1
      rw [(sq_not a m (by omega)).1, (sq_not a m (by omega)).2] at S1
      rw [(ro_not a b m (by omega)).1, (ro_not a b m (by omega)).2] at R1
      rw [(ov_not a b n m (by omega)).1, (ov_not a b n m (by omega)).2] at O1
      go_enter Try.func16, Try.ntmps16
      go_wp2_with fail
      refine (M1 _).out.mono ?_
      rintro e w1 ⟨rfl, hb1⟩
      go_wp2_with fail
      refine (S1 _).out.mono ?_
      rintro e w2 ⟨rfl, hb2⟩
      go_wp2_with fail
      refine (R1 _).out.mono ?_
      rintro e w3 ⟨rfl, hb3⟩
      go_wp2_with fail
      refine (O1 _).out.mono ?_
      rintro e w4 ⟨rfl, hb4⟩
      go_wp2_with fail
      refine (MZ _).out.mono ?_
      rintro e w5 ⟨rfl, hb5⟩
      go_wp2_with fail
      refine (OZ _).out.mono ?_
      rintro e w6 ⟨rfl, hb6⟩
      go_wp2_with fail
      refine (awake_any _).mono ?_
      rintro e w7 ⟨rfl, hb7⟩
      go_wp2_with fail
      go_ret
      exact ⟨rfl, (btW (btW (btW (btW (btW (btW hb1 hb2) hb3) hb4) hb5) hb6) hb7)⟩

set_option maxRecDepth 20000 in
set_option maxHeartbeats 2000000 in
theorem law_order (a b c d : Int) (w : World) (la : -9223372036854775808 ≤ a) (ha : a ≤ 9223372036854775807) (lb : -9223372036854775808 ≤ b) (hb : b ≤ 9223372036854775807) (lc : -9223372036854775808 ≤ c) (hc : c ≤ 9223372036854775807) (ld : -9223372036854775808 ≤ d) (hd : d ≤ 9223372036854775807) :
    Calls Try.prog 12 #[.int .i64 a, .int .i64 b, .int .i64 c, .int .i64 d] w fun e w' => e = .returned (.bool true) ∧ Below w.heap.size w w' := by
  have C1 := fun w => Lib.hid (cmp_any a b c d w la ha lb hb lc hc ld hd)
  have C2 := fun w => Lib.hid (cmp_any c d a b w lc hc ld hd la ha lb hb)
  have C3 := fun w => Lib.hid (cmp_any b a d c w lb hb la ha ld hd lc hc)
  have C4 := fun w => Lib.hid (cmp_any a b b a w la ha lb hb lb hb la ha)
  have C5 := fun w => Lib.hid (cmp_any a b a c w la ha lb hb la ha lc hc)
  rw [cmpZ_swap] at C2
  rw [Int.mul_comm b a, Int.mul_comm d c] at C3
  rw [Int.mul_comm b a, cmpZ_refl] at C4
  obtain ⟨B1, B2⟩ := cmpZ_bd (a * b) (c * d)
  generalize cmpZ (a * b) (c * d) = k at *
  by_cases ha0 : a = 0
  · subst ha0
    have e : cmpZ (0 * b) (0 * c) = 0 := by rw [Int.zero_mul, Int.zero_mul]; rfl
    rw [e] at C5
    go_enter Try.func12, Try.ntmps12
    go_wp2_with fail
    refine (C1 _).out.mono ?_
    rintro e w1 ⟨rfl, hb1⟩
    go_wp2_with fail
    refine (awake_any _).mono ?_
    rintro e w2 ⟨rfl, hb2⟩
    go_wp2_with fail
    refine (C2 _).out.mono ?_
    rintro e w3 ⟨rfl, hb3⟩
    go_wp2_with fail
    refine (C3 _).out.mono ?_
    rintro e w4 ⟨rfl, hb4⟩
    go_wp2_with fail
    refine (C4 _).out.mono ?_
    rintro e w5 ⟨rfl, hb5⟩
    go_wp2_with fail
    refine (C5 _).out.mono ?_
    rintro e w6 ⟨rfl, hb6⟩
    go_wp2_with fail
    go_ret
    exact ⟨rfl, (btW (btW (btW (btW (btW hb1 hb2) hb3) hb4) hb5) hb6)⟩
  · have e0 : (a == 0) = false := by simpa using ha0
    by_cases hbc : b = c
    · subst hbc
      rw [cmpZ_refl] at C5
      go_enter Try.func12, Try.ntmps12
      go_wp2_with fail
      refine (C1 _).out.mono ?_
      rintro e w1 ⟨rfl, hb1⟩
      go_wp2_with fail
      refine (awake_any _).mono ?_
      rintro e w2 ⟨rfl, hb2⟩
      go_wp2_with fail
      refine (C2 _).out.mono ?_
      rintro e w3 ⟨rfl, hb3⟩
      go_wp2_with fail
      refine (C3 _).out.mono ?_
      rintro e w4 ⟨rfl, hb4⟩
      go_wp2_with fail
      refine (C4 _).out.mono ?_
      rintro e w5 ⟨rfl, hb5⟩
      go_wp2_with fail
      refine (C5 _).out.mono ?_
      rintro e w6 ⟨rfl, hb6⟩
      go_wp2_with fail
      go_ret
      exact ⟨rfl, (btW (btW (btW (btW (btW hb1 hb2) hb3) hb4) hb5) hb6)⟩
    · have e1 : (b == c) = false := by simpa using hbc
      by_cases hp : 0 < a
      · by_cases hq : c < b
        · rw [cmpZ_gt (Int.mul_lt_mul_of_pos_left hq hp)] at C5
          clear ha0 hbc
          go_enter Try.func12, Try.ntmps12
          go_wp2_with fail
          refine (C1 _).out.mono ?_
          rintro e w1 ⟨rfl, hb1⟩
          go_wp2_with fail
          refine (awake_any _).mono ?_
          rintro e w2 ⟨rfl, hb2⟩
          go_wp2_with fail
          refine (C2 _).out.mono ?_
          rintro e w3 ⟨rfl, hb3⟩
          go_wp2_with fail
          refine (C3 _).out.mono ?_
          rintro e w4 ⟨rfl, hb4⟩
          go_wp2_with fail
          refine (C4 _).out.mono ?_
          rintro e w5 ⟨rfl, hb5⟩
          go_wp2_with fail
          refine (C5 _).out.mono ?_
          rintro e w6 ⟨rfl, hb6⟩
          go_wp2_with fail
          go_ret
          exact ⟨rfl, (btW (btW (btW (btW (btW hb1 hb2) hb3) hb4) hb5) hb6)⟩
        · rw [cmpZ_lt (Int.mul_lt_mul_of_pos_left (show b < c by omega) hp)] at C5
          clear ha0 hbc
          go_enter Try.func12, Try.ntmps12
          go_wp2_with fail
          refine (C1 _).out.mono ?_
          rintro e w1 ⟨rfl, hb1⟩
          go_wp2_with fail
          refine (awake_any _).mono ?_
          rintro e w2 ⟨rfl, hb2⟩
          go_wp2_with fail
          refine (C2 _).out.mono ?_
          rintro e w3 ⟨rfl, hb3⟩
          go_wp2_with fail
          refine (C3 _).out.mono ?_
          rintro e w4 ⟨rfl, hb4⟩
          go_wp2_with fail
          refine (C4 _).out.mono ?_
          rintro e w5 ⟨rfl, hb5⟩
          go_wp2_with fail
          refine (C5 _).out.mono ?_
          rintro e w6 ⟨rfl, hb6⟩
          go_wp2_with fail
          go_ret
          exact ⟨rfl, (btW (btW (btW (btW (btW hb1 hb2) hb3) hb4) hb5) hb6)⟩
      · by_cases hq : c < b
        · rw [cmpZ_lt (Int.mul_lt_mul_of_neg_left hq (show a < 0 by omega))] at C5
          clear ha0 hbc
          go_enter Try.func12, Try.ntmps12
          go_wp2_with fail
          refine (C1 _).out.mono ?_
          rintro e w1 ⟨rfl, hb1⟩
          go_wp2_with fail
          refine (awake_any _).mono ?_
          rintro e w2 ⟨rfl, hb2⟩
          go_wp2_with fail
          refine (C2 _).out.mono ?_
          rintro e w3 ⟨rfl, hb3⟩
          go_wp2_with fail
          refine (C3 _).out.mono ?_
          rintro e w4 ⟨rfl, hb4⟩
          go_wp2_with fail
          refine (C4 _).out.mono ?_
          rintro e w5 ⟨rfl, hb5⟩
          go_wp2_with fail
          refine (C5 _).out.mono ?_
          rintro e w6 ⟨rfl, hb6⟩
          go_wp2_with fail
          go_ret
          exact ⟨rfl, (btW (btW (btW (btW (btW hb1 hb2) hb3) hb4) hb5) hb6)⟩
        · rw [cmpZ_gt (Int.mul_lt_mul_of_neg_left (show b < c by omega) (show a < 0 by omega))] at C5
          have e2 : (decide (0 < a) == decide (c < b)) = true := by rw [decide_eq_false hp, decide_eq_false hq]; rfl
          clear ha0 hbc
          go_enter Try.func12, Try.ntmps12
          go_wp2_with fail
          refine (C1 _).out.mono ?_
          rintro e w1 ⟨rfl, hb1⟩
          go_wp2_with fail
          refine (awake_any _).mono ?_
          rintro e w2 ⟨rfl, hb2⟩
          go_wp2_with fail
          refine (C2 _).out.mono ?_
          rintro e w3 ⟨rfl, hb3⟩
          go_wp2_with fail
          refine (C3 _).out.mono ?_
          rintro e w4 ⟨rfl, hb4⟩
          go_wp2_with fail
          refine (C4 _).out.mono ?_
          rintro e w5 ⟨rfl, hb5⟩
          go_wp2_with fail
          refine (C5 _).out.mono ?_
          rintro e w6 ⟨rfl, hb6⟩
          go_wp2_with fail
          go_ret
          exact ⟨rfl, (btW (btW (btW (btW (btW hb1 hb2) hb3) hb4) hb5) hb6)⟩

set_option maxRecDepth 20000 in
set_option maxHeartbeats 2000000 in
theorem law_modes (a b c : Int) (w : World) (la : -9223372036854775808 ≤ a) (ha : a ≤ 9223372036854775807) (lb : -9223372036854775808 ≤ b) (hb : b ≤ 9223372036854775807) (lc : -9223372036854775808 ≤ c) (hc : c ≤ 9223372036854775807) :
    Calls Try.prog 9 #[.int .i64 a, .int .i64 b, .int .i64 c] w fun e w' => e = .returned (.bool true) ∧ Below w.heap.size w w' := by
  have M0 := fun w => Lib.hid (muldiv_any a b c 0 w la ha lb hb lc hc)
  have M1 := fun w => Lib.hid (muldiv_any a b c 1 w la ha lb hb lc hc)
  have M2 := fun w => Lib.hid (muldiv_any a b c 2 w la ha lb hb lc hc)
  obtain ⟨u1, u2⟩ := mdV_bd a b c 0
  obtain ⟨v1, v2⟩ := mdV_bd a b c 1
  obtain ⟨t1, t2⟩ := mdV_bd a b c 2
  have CM := fun w => Lib.hid (cmp_any (mdV a b c 0) c a b w u1 u2 lc hc la ha lb hb)
  have MF := modes_fact a b c
  have CE := cmpZ_eq (mdV a b c 0 * c) (a * b)
  have CB := cmpZ_bd (mdV a b c 0 * c) (a * b)
  generalize cmpZ (mdV a b c 0 * c) (a * b) = k at *
  generalize mdV a b c 0 * c = P at *
  generalize a * b = Q at *
  generalize mdV a b c 0 = x at *
  generalize mdO a b c 0 = xo at *
  generalize mdV a b c 1 = y at *
  generalize mdO a b c 1 = yo at *
  generalize mdV a b c 2 = z at *
  generalize mdO a b c 2 = zo at *
  cases xo
  · clear MF
    go_enter Try.func9, Try.ntmps9
    go_wp2_with fail
    refine (M0 _).out.mono ?_
    rintro e w1 ⟨rfl, hb1⟩
    go_wp2_with fail
    refine (M1 _).out.mono ?_
    rintro e w2 ⟨rfl, hb2⟩
    go_wp2_with fail
    refine (M2 _).out.mono ?_
    rintro e w3 ⟨rfl, hb3⟩
    go_wp2_with fail
    refine (awake_any _).mono ?_
    rintro e w4 ⟨rfl, hb4⟩
    go_wp2_with fail
    refine (awake_any _).mono ?_
    rintro e w5 ⟨rfl, hb5⟩
    go_wp2_with fail
    go_ret
    exact ⟨rfl, (btW (btW (btW (btW hb1 hb2) hb3) hb4) hb5)⟩
  · cases yo
    · clear MF
      go_enter Try.func9, Try.ntmps9
      go_wp2_with fail
      refine (M0 _).out.mono ?_
      rintro e w1 ⟨rfl, hb1⟩
      go_wp2_with fail
      refine (M1 _).out.mono ?_
      rintro e w2 ⟨rfl, hb2⟩
      go_wp2_with fail
      refine (M2 _).out.mono ?_
      rintro e w3 ⟨rfl, hb3⟩
      go_wp2_with fail
      refine (awake_any _).mono ?_
      rintro e w4 ⟨rfl, hb4⟩
      go_wp2_with fail
      refine (awake_any _).mono ?_
      rintro e w5 ⟨rfl, hb5⟩
      go_wp2_with fail
      go_ret
      exact ⟨rfl, (btW (btW (btW (btW hb1 hb2) hb3) hb4) hb5)⟩
    · cases zo
      · clear MF
        go_enter Try.func9, Try.ntmps9
        go_wp2_with fail
        refine (M0 _).out.mono ?_
        rintro e w1 ⟨rfl, hb1⟩
        go_wp2_with fail
        refine (M1 _).out.mono ?_
        rintro e w2 ⟨rfl, hb2⟩
        go_wp2_with fail
        refine (M2 _).out.mono ?_
        rintro e w3 ⟨rfl, hb3⟩
        go_wp2_with fail
        refine (awake_any _).mono ?_
        rintro e w4 ⟨rfl, hb4⟩
        go_wp2_with fail
        refine (awake_any _).mono ?_
        rintro e w5 ⟨rfl, hb5⟩
        go_wp2_with fail
        go_ret
        exact ⟨rfl, (btW (btW (btW (btW hb1 hb2) hb3) hb4) hb5)⟩
      · obtain ⟨f1, f2, f3⟩ := MF rfl rfl rfl
        clear MF
        by_cases hyx : y = x
        · subst hyx
          have hk : k = 0 := CE.2 (f3.1 rfl)
          subst hk
          have hz : z = y := by omega
          subst hz
          clear f1 f2 f3 CE CB
          go_enter Try.func9, Try.ntmps9
          go_wp2_with fail
          refine (M0 _).out.mono ?_
          rintro e w1 ⟨rfl, hb1⟩
          go_wp2_with fail
          refine (M1 _).out.mono ?_
          rintro e w2 ⟨rfl, hb2⟩
          go_wp2_with fail
          refine (M2 _).out.mono ?_
          rintro e w3 ⟨rfl, hb3⟩
          go_wp2_with fail
          refine (awake_any _).mono ?_
          rintro e w4 ⟨rfl, hb4⟩
          go_wp2_with fail
          refine (CM _).out.mono ?_
          rintro e w5 ⟨rfl, hb5⟩
          go_wp2_with fail
          go_ret
          exact ⟨rfl, (btW (btW (btW (btW hb1 hb2) hb3) hb4) hb5)⟩
        · have e0 : (y == x) = false := by simpa using hyx
          have hy : y = x + 1 := by omega
          subst hy
          have hk : (k == 0) = false := by simp; intro g; exact hyx (f3.2 (CE.1 g))
          have hz : z = x ∨ z = x + 1 := f2
          clear f1 f2 f3 CE hyx
          rcases hz with hz | hz
          · subst hz
            go_enter Try.func9, Try.ntmps9
            go_wp2_with fail
            refine (M0 _).out.mono ?_
            rintro e w1 ⟨rfl, hb1⟩
            go_wp2_with fail
            refine (M1 _).out.mono ?_
            rintro e w2 ⟨rfl, hb2⟩
            go_wp2_with fail
            refine (M2 _).out.mono ?_
            rintro e w3 ⟨rfl, hb3⟩
            go_wp2_with fail
            refine (awake_any _).mono ?_
            rintro e w4 ⟨rfl, hb4⟩
            go_wp2_with fail
            refine (CM _).out.mono ?_
            rintro e w5 ⟨rfl, hb5⟩
            go_wp2_with fail
            go_ret
            exact ⟨rfl, (btW (btW (btW (btW hb1 hb2) hb3) hb4) hb5)⟩
          · subst hz
            go_enter Try.func9, Try.ntmps9
            go_wp2_with fail
            refine (M0 _).out.mono ?_
            rintro e w1 ⟨rfl, hb1⟩
            go_wp2_with fail
            refine (M1 _).out.mono ?_
            rintro e w2 ⟨rfl, hb2⟩
            go_wp2_with fail
            refine (M2 _).out.mono ?_
            rintro e w3 ⟨rfl, hb3⟩
            go_wp2_with fail
            refine (awake_any _).mono ?_
            rintro e w4 ⟨rfl, hb4⟩
            go_wp2_with fail
            refine (CM _).out.mono ?_
            rintro e w5 ⟨rfl, hb5⟩
            go_wp2_with fail
            go_ret
            exact ⟨rfl, (btW (btW (btW (btW hb1 hb2) hb3) hb4) hb5)⟩

set_option maxRecDepth 20000 in
set_option maxHeartbeats 2000000 in
theorem law_brackets (n : Int) (w : World) (ln : -9223372036854775808 ≤ n) (hn : n ≤ 9223372036854775807) :
    Calls Try.prog 10 #[.int .i64 n] w fun e w' => e = .returned (.bool true) ∧ Below w.heap.size w w' := by
  by_cases h0 : n < 0
  · have S0 := fun w => Lib.hid (sqrt_any n 0 w hn)
    rw [(sq_not n 0 (by omega)).1, (sq_not n 0 (by omega)).2] at S0
    go_enter Try.func10, Try.ntmps10
    go_wp2_with fail
    refine (S0 _).out.mono ?_
    rintro e w1 ⟨rfl, hb1⟩
    go_wp2_with fail
    refine (awake_any _).mono ?_
    rintro e w2 ⟨rfl, hb2⟩
    go_wp2_with fail
    go_ret
    exact ⟨rfl, (btW hb1 hb2)⟩
  · obtain ⟨r0, s0, f0, o0, v0⟩ := sq_rel n 0 (by omega) hn (Or.inl rfl)
    obtain ⟨r1, s1, f1, o1, v1⟩ := sq_rel n 1 (by omega) hn (Or.inr (Or.inl rfl))
    obtain ⟨r2, s2, f2, o2, v2⟩ := sq_rel n 2 (by omega) hn (Or.inr (Or.inr rfl))
    obtain ⟨k1, k2, k3, k4, k5⟩ := brackets_fact s0 s1 s2
    have S0 := fun w => Lib.hid (sqrt_any n 0 w hn)
    have S1 := fun w => Lib.hid (sqrt_any n 1 w hn)
    have S2 := fun w => Lib.hid (sqrt_any n 2 w hn)
    rw [o0, v0] at S0
    rw [o1, v1] at S1
    rw [o2, v2] at S2
    have e := Int.toNat_of_nonneg (show 0 ≤ n by omega)
    have j1 : (r0 : Int) * r0 ≤ n * 1 := by rw [← e, Int.mul_one]; exact_mod_cast k1
    have j2 : n * 1 < ((r0 : Int) + 1) * ((r0 : Int) + 1) := by rw [← e, Int.mul_one]; exact_mod_cast k2
    have j3 : n * 1 ≤ (r1 : Int) * r1 := by rw [← e, Int.mul_one]; exact_mod_cast k3
    have C1 := fun w => Lib.hid (cmp_any r0 r0 n 1 w (by omega) (by omega) (by omega) (by omega) ln hn (by omega) (by omega))
    have C2 := fun w => Lib.hid (cmp_any (r0 + 1) (r0 + 1) n 1 w (by omega) (by omega) (by omega) (by omega) ln hn (by omega) (by omega))
    have C3 := fun w => Lib.hid (cmp_any r1 r1 n 1 w (by omega) (by omega) (by omega) (by omega) ln hn (by omega) (by omega))
    have q1 := cmpZ_le j1
    rw [cmpZ_gt j2] at C2
    have q3 := cmpZ_ge j3
    generalize cmpZ ((r0 : Int) * r0) (n * 1) = c1 at *
    generalize cmpZ ((r1 : Int) * r1) (n * 1) = c3 at *
    have f0' : (r0 : Int) ≤ 3037000501 := by omega
    have f1' : (r1 : Int) ≤ (r0 : Int) + 1 := by omega
    have h0' : 0 ≤ n := by omega
    clear s0 s1 s2 o0 v0 o1 v1 o2 v2 k1 k2 k3 k4 e j1 j2 j3 h0 f0 f1 f2
    rcases k5 with g | g
    · subst g
      go_enter Try.func10, Try.ntmps10
      go_wp2_with fail
      refine (S0 _).out.mono ?_
      rintro e w1 ⟨rfl, hb1⟩
      go_wp2_with fail
      refine (S1 _).out.mono ?_
      rintro e w2 ⟨rfl, hb2⟩
      go_wp2_with fail
      refine (S2 _).out.mono ?_
      rintro e w3 ⟨rfl, hb3⟩
      go_wp2_with fail
      refine (awake_any _).mono ?_
      rintro e w4 ⟨rfl, hb4⟩
      go_wp2_with fail
      refine (C1 _).out.mono ?_
      rintro e w5 ⟨rfl, hb5⟩
      go_wp2_with fail
      refine (C2 _).out.mono ?_
      rintro e w6 ⟨rfl, hb6⟩
      go_wp2_with fail
      refine (C3 _).out.mono ?_
      rintro e w7 ⟨rfl, hb7⟩
      go_wp2_with fail
      go_ret
      exact ⟨rfl, (btW (btW (btW (btW (btW (btW hb1 hb2) hb3) hb4) hb5) hb6) hb7)⟩
    · subst g
      by_cases g : r2 = r0
      · subst g
        go_enter Try.func10, Try.ntmps10
        go_wp2_with fail
        refine (S0 _).out.mono ?_
        rintro e w1 ⟨rfl, hb1⟩
        go_wp2_with fail
        refine (S1 _).out.mono ?_
        rintro e w2 ⟨rfl, hb2⟩
        go_wp2_with fail
        refine (S2 _).out.mono ?_
        rintro e w3 ⟨rfl, hb3⟩
        go_wp2_with fail
        refine (awake_any _).mono ?_
        rintro e w4 ⟨rfl, hb4⟩
        go_wp2_with fail
        refine (C1 _).out.mono ?_
        rintro e w5 ⟨rfl, hb5⟩
        go_wp2_with fail
        refine (C2 _).out.mono ?_
        rintro e w6 ⟨rfl, hb6⟩
        go_wp2_with fail
        refine (C3 _).out.mono ?_
        rintro e w7 ⟨rfl, hb7⟩
        go_wp2_with fail
        go_ret
        exact ⟨rfl, (btW (btW (btW (btW (btW (btW hb1 hb2) hb3) hb4) hb5) hb6) hb7)⟩
      · have e0 : ((r2 : Int) == r0) = false := by simp; omega
        go_enter Try.func10, Try.ntmps10
        go_wp2_with fail
        refine (S0 _).out.mono ?_
        rintro e w1 ⟨rfl, hb1⟩
        go_wp2_with fail
        refine (S1 _).out.mono ?_
        rintro e w2 ⟨rfl, hb2⟩
        go_wp2_with fail
        refine (S2 _).out.mono ?_
        rintro e w3 ⟨rfl, hb3⟩
        go_wp2_with fail
        refine (awake_any _).mono ?_
        rintro e w4 ⟨rfl, hb4⟩
        go_wp2_with fail
        refine (C1 _).out.mono ?_
        rintro e w5 ⟨rfl, hb5⟩
        go_wp2_with fail
        refine (C2 _).out.mono ?_
        rintro e w6 ⟨rfl, hb6⟩
        go_wp2_with fail
        refine (C3 _).out.mono ?_
        rintro e w7 ⟨rfl, hb7⟩
        go_wp2_with fail
        go_ret
        exact ⟨rfl, (btW (btW (btW (btW (btW (btW hb1 hb2) hb3) hb4) hb5) hb6) hb7)⟩

end Go.Proofs.Ytoahcdnlnihehaa
