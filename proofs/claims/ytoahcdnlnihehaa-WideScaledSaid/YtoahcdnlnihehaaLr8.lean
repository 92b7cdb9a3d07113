/- Proved here: the reference's MulDiv gives what the program's gives, for every argument; the laws WideMulDiv and WideQuotient. -/
import Derived.Test.YtoahcdnlnihehaaLr6
import Derived.Test.YtoahcdnlnihehaaLr7
namespace Go.Proofs.Ytoahcdnlnihehaa
open Go.RowKit
set_option linter.unusedVariables false
def mdT (P D : Nat) : Nat := min (P / D) 18446744073709551615
theorem mdT_test {P D t : Nat} (hD : 0 < D) (ht : t < 18446744073709551616) : (cmpN (t * D) P ≤ 0) ↔ t ≤ mdT P D := by
  have h : t * D ≤ P ↔ t ≤ P / D := (Nat.le_div_iff_mul_le hD).symm
  unfold mdT cmpN
  (repeat' split) <;> omega
theorem gr_none (m : Int) (ng : Bool) : grI m (-1) false ng = false := by
  unfold grI; (repeat' split) <;> simp
theorem md_ref (a b c m : Int) (P D T : Nat) (hP : a.natAbs * b.natAbs = P) (hD : c.natAbs = D) (hT : T = min (P / D) 18446744073709551615) (hm : 0 ≤ m) (hm2 : m ≤ 2) (hD0 : 0 < D) :
    sgV (rnN T m (cmpN (P + P) (T * D + T * D + D)) (cmpN P (T * D) == 0) (decide (sgI a b < 0) != decide (c < 0))) (decide (sgI a b < 0) != decide (c < 0)) = mdV a b c m
      ∧ sgO (rnN T m (cmpN (P + P) (T * D + T * D + D)) (cmpN P (T * D) == 0) (decide (sgI a b < 0) != decide (c < 0))) (decide (sgI a b < 0) != decide (c < 0)) = mdO a b c m := by
  have hg : mdG c m = true := decide_eq_true ⟨by omega, hm, hm2⟩
  unfold mdV mdO mdN
  rw [hg, if_pos rfl, if_pos rfl, hP, hD]
  by_cases hs : sgI a b = 0
  · have hP0 : P = 0 := by
      have h := (sgI_mul a b).2.1 hs
      rw [← hP, ← Int.natAbs_mul, h]; rfl
    subst hP0
    have hT0 : T = 0 := by rw [hT, Nat.zero_div]; rfl
    subst hT0
    have hn : ngI a b c = false := by unfold ngI; rw [hs]; simp
    rw [hn]
    have c1 : cmpN (0 + 0) (0 * D + 0 * D + D) = -1 := if_pos (by omega)
    have c2 : cmpN 0 (0 * D) = 0 := by rw [Nat.zero_mul]; rfl
    have c3 : cmpN (2 * (0 % D)) D = -1 := by rw [Nat.zero_mod]; exact if_pos (by omega)
    rw [c1, c2]
    unfold rnN rdN
    rw [c3, Nat.zero_mod, Nat.zero_div]
    generalize (decide (sgI a b < 0) != decide (c < 0)) = ng
    have g1 : grI m (-1) (!((0 : Int) == 0)) ng = false := gr_none m ng
    have g2 : grI m (-1) (decide (0 < 0)) false = false := gr_none m false
    rw [g1, g2]
    cases ng <;> exact ⟨rfl, rfl⟩
  · have hn : ngI a b c = (decide (sgI a b < 0) != decide (c < 0)) := by
      unfold ngI; rw [decide_eq_true (show sgI a b ≠ 0 from hs), Bool.and_true]
    rw [hn]
    generalize (decide (sgI a b < 0) != decide (c < 0)) = ng
    have hdm := Nat.div_add_mod P D
    have hml := Nat.mod_lt P hD0
    by_cases hbig : P / D < 18446744073709551616
    · have e : T = P / D := by omega
      have e2 : P = T * D + P % D := by rw [e, Nat.mul_comm]; exact hdm.symm
      have c1 : cmpN (P + P) (T * D + T * D + D) = cmpN (2 * (P % D)) D := by unfold cmpN; (repeat' split) <;> omega
      have c2 : (!(cmpN P (T * D) == 0)) = decide (0 < P % D) := by
        by_cases h0 : P % D = 0
        · have : cmpN P (T * D) = 0 := by unfold cmpN; rw [if_neg (by omega), if_pos (by omega)]
          rw [this, h0]; rfl
        · have : cmpN P (T * D) = 1 := by unfold cmpN; rw [if_neg (by omega), if_neg (by omega)]
          rw [this, decide_eq_true (show 0 < P % D by omega)]; rfl
      have r : rnN T m (cmpN (P + P) (T * D + T * D + D)) (cmpN P (T * D) == 0) ng = rdN m P D ng := by
        unfold rnN rdN; rw [c1, c2, e]
      rw [r]; exact ⟨rfl, rfl⟩
    · have e : T = 18446744073709551615 := by omega
      have h1 := sg_over (n := rnN T m (cmpN (P + P) (T * D + T * D + D)) (cmpN P (T * D) == 0) ng) ng (by unfold rnN; omega)
      have h2 := sg_over (n := rdN m P D ng) ng (by unfold rdN; omega)
      rw [h1.1, h1.2, h2.1, h2.2]; exact ⟨rfl, rfl⟩
theorem or_shift {T j q : Nat} (h : BI T (j + 1) q) (hT : T < 18446744073709551616) (hk : j + 1 ≤ 64) : bits .or .u64 (q : Int) (IntKind.u64.wrap (2 ^ j)) = ((q + 2 ^ j : Nat) : Int) := by
  have f := h.fits hT hk
  have p0 := Nat.pow_pos (n := j) (show 0 < 2 by decide)
  have e : (2 : Int) ^ j = ((2 ^ j : Nat) : Int) := by simp
  rw [e, wrapU (by omega)]
  exact or_bit (k := j + 1) (by omega) (by omega) h.m (Nat.pow_lt_pow_right (by decide) (by omega))
set_option maxHeartbeats 4000000 in
set_option maxRecDepth 20000 in
theorem muldivR_yes (a b c m : Int) (w : World) (ha : -9223372036854775808 ≤ a) (ha2 : a ≤ 9223372036854775807) (hb : -9223372036854775808 ≤ b) (hb2 : b ≤ 9223372036854775807) (hcl : -9223372036854775808 ≤ c) (hc2 : c ≤ 9223372036854775807)
    (hc : c ≠ 0) (hm : 0 ≤ m) (hm2 : m ≤ 2) :
    Calls Try.prog 21 #[.int .i64 a, .int .i64 b, .int .i64 c, .int .i64 m] w fun e w' => e = .returned (.tuple #[.int .i64 (mdV a b c m), .bool (mdO a b c m)]) ∧ Below w.heap.size w w' := by
  have e0 : (c == 0) = false := by simpa using hc
  have HK := Lib.hid (rightR_yes m w hm hm2)
  have PR := fun w => Lib.hid (productR_any a b w ha ha2 hb hb2)
  have MC := fun w => Lib.hid (magR_any c w hcl hc2)
  have SG := fun w => Lib.hid (signR_any a b w)
  have HD0 : Hid (0 < c.natAbs) := by show 0 < c.natAbs; omega
  have HDL := Lib.hid (abs4 hcl hc2)
  have HPB : Hid (a.natAbs * b.natAbs < 340282366920938463463374607431768211456) := Nat.lt_of_lt_of_le (Nat.mul_lt_mul'' (abs4 ha ha2).1 (abs4 hb hb2).1) (by decide)
  have HPL := Lib.hid (prod8 (abs4 ha ha2).1 (abs4 hb hb2).1)
  obtain ⟨P, hP⟩ : ∃ P, a.natAbs * b.natAbs = P := ⟨_, rfl⟩
  obtain ⟨D, hD⟩ : ∃ D, c.natAbs = D := ⟨_, rfl⟩
  rw [hP] at PR HPL HPB
  rw [hD] at MC HD0 HDL
  have HP := Lib.hid hP
  have HD := Lib.hid hD
  clear hP hD hc
  have HT : Hid (mdT P D < 18446744073709551616) := by show mdT P D < _; unfold mdT; omega
  have HTT := fun t ht => Lib.hid (mdT_test (P := P) (t := t) HD0.out ht)
  have HTE : Hid (mdT P D = min (P / D) 18446744073709551615) := rfl
  generalize mdT P D = T at *
  go_enter Try.func21, Try.ntmps21
  go_wp2_with fail
  refine HK.out.mono ?_
  rintro e w' ⟨rfl, rfl⟩
  go_wp2_with fail
  refine (PR _).out.mono ?_
  rintro e w1 ⟨u, rfl, hu, hb1⟩
  go_wp2_with fail
  refine (MC _).out.mono ?_
  rintro e w' ⟨rfl, rfl⟩
  go_wp2_with fail
  refine (limbs_any D HDL.out.1 _).mono ?_
  rintro e w2 ⟨v, rfl, hv, hb2'⟩
  have HU := Lib.hid (hu.next hb2')
  have HV := Lib.hid hv
  have HB2 := Lib.hid (btW hb1 hb2')
  clear hu hv hb1 hb2'
  go_wp2_with fail
  go_loopw [12, 13] (fun s t wr => ∃ (k q : Nat) (i : Int), s = .int .u64 (q : Int) ∧ t = .int .i64 i ∧ i = (k : Int) - 1 ∧ k ≤ 64 ∧ BI T k q ∧ Below w2.heap.size w2 wr) (fun _ t _ => (intOf t + 1).toNat)
  case atStart => exact ⟨64, 0, _, rfl, rfl, by decide, by decide, BI.start (by have := HT.out; omega), Below.refl _ _⟩
  case round =>
  obtain ⟨k, q, i, rfl, rfl, hi, hk, hbi, hb3⟩ := hrel
  have HBI := Lib.hid hbi
  clear hbi
  rcases Nat.eq_zero_or_pos k with h0 | h0
  · subst h0
    obtain rfl : i = -1 := by omega
    clear hi
    obtain rfl : q = T := HBI.out.done
    have HQL : Hid ((dg q).length ≤ 4) := dg_len 4 q HT.out
    have HTD := Lib.hid (prod8 HT.out HDL.out.1)
    have HTB : Hid (q * D < 340282366920938463463374607431768211456) := Nat.lt_of_lt_of_le (Nat.mul_lt_mul'' HT.out HDL.out.1) (by decide)
    have HL1 : Hid ((dg (P + P)).length ≤ 9) := dg_len 9 _ (Nat.lt_of_lt_of_le (show P + P < 680564733841876926926749214863536422912 by have := HPB.out; omega) (by decide))
    have HL2 : Hid ((dg (q * D + q * D)).length ≤ 9) := dg_len 9 _ (Nat.lt_of_lt_of_le (show q * D + q * D < 680564733841876926926749214863536422912 by have := HTB.out; omega) (by decide))
    have HL3 : Hid ((dg (q * D + q * D + D)).length ≤ 9) := dg_len 9 _ (Nat.lt_of_lt_of_le (show q * D + q * D + D < 680564733841876926945195958937245974528 by have := HTB.out; have := HDL.out.1; omega) (by decide))
    have MR := Lib.hid (md_ref a b c m P D q HP.out HD.out HTE.out hm hm2 HD0.out)
    clear HTT
    go_wp2_with fail
    refine (limbs_any q HT.out _).mono ?_
    rintro e w3 ⟨x1, rfl, h1, hb4⟩
    go_wp2_with fail
    refine (mulL_any q D x1 v w3 h1 (HV.out.next (btW hb3 hb4)) (by have := HQL.out; omega) (by have := HDL.out.2; omega)).mono ?_
    rintro e w4 ⟨y, rfl, hy, hb5⟩
    have HW4 := Lib.hid (btW (btW hb3 hb4) hb5)
    clear hb3 hb4 hb5 h1
    go_wp2_with fail
    refine (addL_any P P u u w4 (HU.out.next HW4.out) (HU.out.next HW4.out) (by have := HPL.out; omega) (by have := HPL.out; omega)).mono ?_
    rintro e w5 ⟨x2, rfl, h2, hb6⟩
    go_wp2_with fail
    refine (addL_any (q * D) (q * D) y y w5 (hy.next hb6) (hy.next hb6) (by have := HTD.out; omega) (by have := HTD.out; omega)).mono ?_
    rintro e w6 ⟨x3, rfl, h3, hb7⟩
    go_wp2_with fail
    refine (addL_any (q * D + q * D) D x3 v w6 h3 (HV.out.next (btW (btW HW4.out hb6) hb7)) (by have := HL2.out; omega) (by have := HDL.out.2; omega)).mono ?_
    rintro e w7 ⟨x4, rfl, h4, hb8⟩
    go_wp2_with fail
    refine (cmpL_any (P + P) (q * D + q * D + D) x2 x4 w7 (h2.next (btW hb7 hb8)) h4 (by have := HL1.out; omega) (by have := HL3.out; omega)).mono ?_
    rintro e w8 ⟨rfl, hb9⟩
    have HW8 := Lib.hid (btW (btW (btW hb6 hb7) hb8) hb9)
    have HY := Lib.hid (hy.next HW8.out)
    clear hb6 hb7 hb8 hb9 h2 h3 h4 hy
    go_wp2_with fail
    refine (SG _).out.mono ?_
    rintro e w' ⟨rfl, rfl⟩
    go_wp2_with fail
    refine (cmpL_any P (q * D) u y w8 (HU.out.next (btW HW4.out HW8.out)) HY.out (by have := HPL.out; omega) (by have := HTD.out; omega)).mono ?_
    rintro e w9 ⟨rfl, hb10⟩
    go_wp2_with fail
    refine (rounded_any _ q _ _ m _ HT.out).mono ?_
    rintro e w10 ⟨rfl, hb11⟩
    go_wp2_with fail
    go_ret2
    exact ⟨ret_ibw MR.out.1 MR.out.2, btW HB2.out (btW (btW (btW HW4.out HW8.out) hb10) hb11)⟩
  · obtain ⟨j, rfl⟩ : ∃ j, k = j + 1 := ⟨k - 1, by omega⟩
    obtain rfl : i = (j : Int) := by omega
    clear hi h0
    have HO := Lib.hid (or_shift HBI.out HT.out (by omega))
    have HF := Lib.hid (HBI.out.fits HT.out (by omega))
    have HY : Hid (q + 2 ^ j ≤ T → BI T j (q + 2 ^ j)) := HBI.out.yes
    have HN : Hid (¬ q + 2 ^ j ≤ T → BI T j q) := HBI.out.no
    go_wp2_with fail
    rw [HO.out]
    obtain ⟨t, ht⟩ : ∃ t, q + 2 ^ j = t := ⟨_, rfl⟩
    rw [ht] at HO HF HY HN ⊢
    clear ht
    refine (limbs_any t HF.out _).mono ?_
    rintro e w3 ⟨x1, rfl, h1, hb4⟩
    go_wp2_with fail
    refine (mulL_any t D x1 v w3 h1 (HV.out.next (btW hb3 hb4)) (by have := dg_len 4 t HF.out; omega) (by have := HDL.out.2; omega)).mono ?_
    rintro e w4 ⟨x2, rfl, h2, hb5⟩
    go_wp2_with fail
    refine (cmpL_any (t * D) P x2 u w4 h2 (HU.out.next (btW (btW hb3 hb4) hb5)) (by have := prod8 HF.out HDL.out.1; omega) (by have := HPL.out; omega)).mono ?_
    rintro e w5 ⟨rfl, hb6⟩
    have HW := Lib.hid (btW (btW (btW hb3 hb4) hb5) hb6)
    clear hb3 hb4 hb5 hb6 h1 h2
    have HC := HTT t HF.out
    by_cases hc : t ≤ T
    · have e1 : decide (cmpN (t * D) P ≤ 0) = true := decide_eq_true (HC.out.2 hc)
      have HQ := Lib.hid (HY.out hc)
      clear HC hc HY HN
      generalize cmpN (t * D) P = z at *
      go_wp2_with fail
      go_roundw
      case rel => exact ⟨j, t, _, by rw [HO.out], rfl, rfl, by omega, HQ.out, HW.out⟩
      case measure => simp [intOf]
    · have e1 : decide (cmpN (t * D) P ≤ 0) = false := decide_eq_false (fun h => hc (HC.out.1 h))
      have HQ := Lib.hid (HN.out hc)
      clear HC hc HY HN
      generalize cmpN (t * D) P = z at *
      go_wp2_with fail
      go_roundw
      case rel => exact ⟨j, q, _, rfl, rfl, rfl, by omega, HQ.out, HW.out⟩
      case measure => simp [intOf]
set_option maxHeartbeats 1000000 in
theorem muldivR_zero (a b m : Int) (w : World) :
    Calls Try.prog 21 #[.int .i64 a, .int .i64 b, .int .i64 0, .int .i64 m] w fun e w' => e = .returned (.tuple #[.int .i64 0, .bool false]) ∧ Below w.heap.size w w' := by
  go_enter Try.func21, Try.ntmps21
  go_wp2_with fail
  go_ret2
  exact ⟨rfl, Below.refl _ _⟩
set_option maxHeartbeats 1000000 in
theorem muldivR_mode (a b c m : Int) (w : World) (hc : c ≠ 0) (hm : m < 0 ∨ 2 < m) :
    Calls Try.prog 21 #[.int .i64 a, .int .i64 b, .int .i64 c, .int .i64 m] w fun e w' => e = .returned (.tuple #[.int .i64 0, .bool false]) ∧ Below w.heap.size w w' := by
  have e0 : (c == 0) = false := by simpa using hc
  have HK := Lib.hid (rightR_no m w hm)
  clear hc hm
  go_enter Try.func21, Try.ntmps21
  go_wp2_with fail
  refine HK.out.mono ?_
  rintro e w' ⟨rfl, rfl⟩
  go_wp2_with fail
  go_ret2
  exact ⟨rfl, Below.refl _ _⟩
theorem muldivR_any (a b c m : Int) (w : World) (ha : -9223372036854775808 ≤ a) (ha2 : a ≤ 9223372036854775807) (hb : -9223372036854775808 ≤ b) (hb2 : b ≤ 9223372036854775807) (hcl : -9223372036854775808 ≤ c) (hc2 : c ≤ 9223372036854775807) :
    Calls Try.prog 21 #[.int .i64 a, .int .i64 b, .int .i64 c, .int .i64 m] w fun e w' => e = .returned (.tuple #[.int .i64 (mdV a b c m), .bool (mdO a b c m)]) ∧ Below w.heap.size w w' := by
  by_cases hc : c = 0
  · rw [(md_not a b c m (Or.inl hc)).1, (md_not a b c m (Or.inl hc)).2]
    subst hc
    exact muldivR_zero a b m w
  · by_cases hm : 0 ≤ m ∧ m ≤ 2
    · exact muldivR_yes a b c m w ha ha2 hb hb2 hcl hc2 hc hm.1 hm.2
    · rw [(md_not a b c m (by omega)).1, (md_not a b c m (by omega)).2]
      exact muldivR_mode a b c m w hc (by omega)
set_option maxHeartbeats 1000000 in
theorem law_muldiv (a b c m : Int) (w : World) (la : -9223372036854775808 ≤ a) (ha : a ≤ 9223372036854775807) (lb : -9223372036854775808 ≤ b) (hb : b ≤ 9223372036854775807) (lc : -9223372036854775808 ≤ c) (hc : c ≤ 9223372036854775807) (lm : -9223372036854775808 ≤ m) (hm : m ≤ 9223372036854775807) :
    Calls Try.prog 4 #[.int .i64 a, .int .i64 b, .int .i64 c, .int .i64 m] w fun e w' => e = .returned (.bool true) ∧ Below w.heap.size w w' := by
  have M1 := fun w => Lib.hid (muldiv_any a b c m w la ha lb hb lc hc)
  have M2 := fun w => Lib.hid (muldivR_any a b c m w la ha lb hb lc hc)
  generalize mdV a b c m = x at *
  generalize mdO a b c m = y at *
  cases y
  all_goals
    go_enter Try.func4, Try.ntmps4
    go_wp2_with fail
    refine (M1 _).out.mono ?_
    rintro e w1 ⟨rfl, hb1⟩
    go_wp2_with fail
    refine (M2 _).out.mono ?_
    rintro e w2 ⟨rfl, hb2⟩
    go_wp2_with fail
    refine (awake_any _).mono ?_
    rintro e w3 ⟨rfl, hb3⟩
    go_wp2_with fail
    go_ret
    exact ⟨rfl, btW (btW hb1 hb2) hb3⟩
set_option maxHeartbeats 1000000 in
theorem law_quotient (a b c m : Int) (w : World) (la : -9223372036854775808 ≤ a) (ha : a ≤ 9223372036854775807) (lb : -9223372036854775808 ≤ b) (hb : b ≤ 9223372036854775807) (lc : -9223372036854775808 ≤ c) (hc : c ≤ 9223372036854775807) (lm : -9223372036854775808 ≤ m) (hm : m ≤ 9223372036854775807) :
    Calls Try.prog 5 #[.int .i64 a, .int .i64 b, .int .i64 c, .int .i64 m] w fun e w' => e = .returned (.bool true) ∧ Below w.heap.size w w' := by
  have MD := fun w => Lib.hid (mod_any m 3 w lm hm (by omega) (by omega))
  have M1 := fun w => Lib.hid (muldiv_any a b c (m % 3) w la ha lb hb lc hc)
  have M2 := fun w => Lib.hid (muldivR_any a b c (m % 3) w la ha lb hb lc hc)
  generalize mdV a b c (m % 3) = x at *
  generalize mdO a b c (m % 3) = y at *
  generalize m % 3 = k at *
  cases y
  all_goals
    go_enter Try.func5, Try.ntmps5
    go_wp2_with fail
    refine (MD _).out.mono ?_
    rintro e w' ⟨rfl, rfl⟩
    go_wp2_with fail
    refine (M1 _).out.mono ?_
    rintro e w1 ⟨rfl, hb1⟩
    go_wp2_with fail
    refine (M2 _).out.mono ?_
    rintro e w2 ⟨rfl, hb2⟩
    go_wp2_with fail
    refine (awake_any _).mono ?_
    rintro e w3 ⟨rfl, hb3⟩
    go_wp2_with fail
    go_ret
    exact ⟨rfl, btW (btW hb1 hb2) hb3⟩
end Go.Proofs.Ytoahcdnlnihehaa
