/- Proved here: the reference's Over gives what the program's gives, for every argument; the laws WideOver and WideScaled. -/
import Derived.Test.YtoahcdnlnihehaaLr9
namespace Go.Proofs.Ytoahcdnlnihehaa
open Go.RowKit
set_option linter.unusedVariables false
theorem ot_test {X d t : Nat} (hd : 0 < d) (hX : X < 340282366920938463463374607431768211456) : (cmpN (t * t * d) X ≤ 0) ↔ t ≤ rtN (X / d) := by
  have hq : X / d < 340282366920938463463374607431768211456 := Nat.lt_of_le_of_lt (Nat.div_le_self _ _) hX
  have h := rt_test (X := X / d) (t := t) hq
  have e : t * t * d ≤ X ↔ t * t ≤ X / d := (Nat.le_div_iff_mul_le hd).symm
  rw [← h]
  unfold cmpN
  (repeat' split) <;> omega
theorem ov_ref (X d m : Nat) (mm : Int) (t T : Nat) (so ng : Bool) (hd : 0 < d) (ht1 : t * t ≤ 4 * X / d) (ht2 : 4 * X / d < (t + 1) * (t + 1)) (hT1 : T * T ≤ X / d) (hT2 : X / d < (T + 1) * (T + 1))
    (hso : so = (decide (0 < 4 * X % d) || decide (t * t ≠ 4 * X / d))) :
    rnN T mm (cmpN (4 * X) ((2 * T + 1) * (2 * T + 1) * d)) (cmpN (T * T * d) X == 0) ng = ovS mm t so ng := by
  have dm := Nat.div_add_mod (4 * X) d
  have ml := Nat.mod_lt (4 * X) hd
  have a1 : t * t * d ≤ 4 * X := (Nat.le_div_iff_mul_le hd).1 ht1
  have a2 : 4 * X < (t + 1) * (t + 1) * d := (Nat.div_lt_iff_lt_mul hd).1 ht2
  have b1 : T * T * d ≤ X := (Nat.le_div_iff_mul_le hd).1 hT1
  have b2 : X < (T + 1) * (T + 1) * d := (Nat.div_lt_iff_lt_mul hd).1 hT2
  have lo : 2 * T ≤ t := by
    refine Nat.le_of_not_lt fun hc => ?_
    have h1 := sq_mono (show t + 1 ≤ 2 * T from hc)
    have h2 := Nat.mul_le_mul_right d h1
    have e : 2 * T * (2 * T) * d = 4 * (T * T * d) := by grind
    omega
  have hi : t < 2 * T + 2 := by
    refine Nat.lt_of_not_le fun hc => ?_
    have h1 := sq_mono hc
    have h2 := Nat.mul_le_mul_right d h1
    have e : (2 * T + 2) * (2 * T + 2) * d = 4 * ((T + 1) * (T + 1) * d) := by grind
    omega
  have hs : so = decide (t * t * d ≠ 4 * X) := by
    rw [hso, ← Bool.decide_or]
    refine decide_eq_decide.mpr ?_
    constructor
    · intro h e
      rcases h with h | h
      · have : 4 * X % d = 0 := by rw [← e]; exact Nat.mul_mod_left _ _
        omega
      · exact h (by rw [← e, Nat.mul_div_cancel _ hd])
    · intro h
      refine Classical.byContradiction fun g => ?_
      obtain ⟨g1, g2⟩ := not_or.mp g
      have g2 := Classical.not_not.mp g2
      have g1 : 4 * X % d = 0 := by omega
      rw [g1, ← g2, Nat.add_zero, Nat.mul_comm] at dm
      exact h dm
  have e1 : (2 * T + 1) * (2 * T + 1) * d = 4 * (T * T * d) + 4 * (T * d) + d := by grind
  have e0 : 2 * T * (2 * T) * d = 4 * (T * T * d) := by grind
  have hex : (!(cmpN (T * T * d) X == 0)) = decide (T * T * d ≠ X) := by
    by_cases h : T * T * d = X
    · have c : cmpN (T * T * d) X = 0 := by unfold cmpN; rw [if_neg (by omega), if_pos h]
      rw [c, decide_eq_false (fun g => g h)]; rfl
    · have c : cmpN (T * T * d) X = -1 := if_pos (by omega)
      rw [c, decide_eq_true h]; rfl
  unfold rnN ovS
  rw [hex, hs]
  rcases (show t = 2 * T ∨ t = 2 * T + 1 by omega) with rfl | rfl
  · have c : cmpN (4 * X) ((2 * T + 1) * (2 * T + 1) * d) = -1 := if_pos a2
    have cm : ovM (2 * T) (decide (2 * T * (2 * T) * d ≠ 4 * X)) = -1 := by unfold ovM; rw [if_neg (by omega)]
    rw [c, cm, show 2 * T / 2 = T by omega, decide_eq_false (show ¬ 2 * T % 2 = 1 by omega), Bool.or_false]
    have : decide (2 * T * (2 * T) * d ≠ 4 * X) = decide (T * T * d ≠ X) := decide_eq_decide.mpr (by omega)
    rw [this]
  · have cm : ovM (2 * T + 1) (decide ((2 * T + 1) * (2 * T + 1) * d ≠ 4 * X)) = cmpN (4 * X) ((2 * T + 1) * (2 * T + 1) * d) := by
      unfold ovM cmpN
      rw [if_pos (by omega)]
      by_cases h : (2 * T + 1) * (2 * T + 1) * d = 4 * X
      · rw [decide_eq_false (fun g => g h), if_neg (by decide), if_neg (by omega), if_pos h.symm]
      · rw [decide_eq_true h, if_pos rfl, if_neg (by omega), if_neg (by omega)]
    rw [cm, show (2 * T + 1) / 2 = T by omega, decide_eq_true (show (2 * T + 1) % 2 = 1 by omega), Bool.or_true, decide_eq_true (show T * T * d ≠ X by omega)]
set_option maxHeartbeats 8000000 in
set_option maxRecDepth 20000 in
theorem overR_yes (a b n m : Int) (w : World) (hX : a.natAbs ≤ 2147483648) (hY : b.natAbs ≤ 2147483648) (hn : 1 ≤ n) (hn2 : n ≤ 4611686018427387904) (hm : 0 ≤ m) (hm2 : m ≤ 2) :
    Calls Try.prog 26 #[.int .i64 a, .int .i64 b, .int .i64 n, .int .i64 m] w fun e w' => e = .returned (.tuple #[.int .i64 (sgV (ovN a b n m) (decide (sgI a b < 0))), .bool (sgO (ovN a b n m) (decide (sgI a b < 0)))]) ∧ Below w.heap.size w w' := by
  obtain ⟨d, rfl⟩ := Int.eq_ofNat_of_zero_le (show 0 ≤ n by omega)
  have SA := fun w => Lib.hid (magR_any a w (by omega) (by omega))
  have SB := fun w => Lib.hid (magR_any b w (by omega) (by omega))
  have SG := fun w => Lib.hid (signR_any a b w)
  have HK := Lib.hid (rightR_yes m w hm hm2)
  have PR := fun w => Lib.hid (productR_any a b w (by omega) (by omega) (by omega) (by omega))
  have hp1 := prod_le hX hY
  have hd0 : 0 < d := by omega
  have hd1 : d < 18446744073709551616 := by omega
  have HDL := Lib.hid (dg_len 4 d hd1)
  obtain ⟨p, hp⟩ : ∃ p, a.natAbs * b.natAbs = p := ⟨_, rfl⟩
  have HOP : Hid (ovP a b = 4 * (p * p)) := by show ovP a b = _; unfold ovP; rw [hp]; grind
  rw [hp] at hp1 PR
  clear hp
  have hXX : p * p ≤ 21267647932558653966460912964485513216 := Nat.le_trans (Nat.mul_le_mul hp1 hp1) (by decide)
  have HPL : Hid ((dg p).length ≤ 4) := dg_len 4 p (by omega)
  obtain ⟨X, hX'⟩ : ∃ X, p * p = X := ⟨_, rfl⟩
  rw [hX'] at hXX HOP
  have HXX := Lib.hid hX'
  have hXb : X < 340282366920938463463374607431768211456 := by omega
  have HXL : Hid ((dg X).length ≤ 8) := dg_len 8 X (Nat.lt_of_lt_of_le hXb (by decide))
  have HTS := Lib.hid (rtN_spec (X / d) (Nat.lt_of_le_of_lt (Nat.div_le_self _ _) hXb))
  have HQS := Lib.hid (rtN_spec (4 * X / d) (Nat.lt_of_le_of_lt (Nat.div_le_self _ _) (by omega)))
  have HTT := fun t => Lib.hid (ot_test (t := t) hd0 hXb)
  have HT62 : Hid (rtN (X / d) ≤ 4611686018427387904) := by
    refine Nat.le_of_not_lt fun hc => ?_
    have h1 := sq_mono (show 4611686018427387905 ≤ rtN (X / d) from hc)
    have h2 := HTS.out.1
    have h3 := Nat.div_le_self X d
    omega
  have HN : Hid (ovN a b (d : Int) m = ovS m (rtN (4 * X / d)) (decide (0 < 4 * X % d) || decide (rtN (4 * X / d) * rtN (4 * X / d) ≠ 4 * X / d)) (decide (sgI a b < 0))) := by
    show ovN a b (d : Int) m = _
    unfold ovN ovR ovT
    rw [HOP.out, Int.toNat_natCast]
  have HRF := fun ng => Lib.hid (ov_ref X d 0 m (rtN (4 * X / d)) (rtN (X / d)) _ ng hd0 HQS.out.1 HQS.out.2 HTS.out.1 HTS.out.2 rfl)
  have HT : Hid (rtN (X / d) < 18446744073709551616) := by have := HT62.out; show rtN (X / d) < _; omega
  generalize rtN (4 * X / d) = t0 at *
  generalize rtN (X / d) = T at *
  have HD1 := Lib.hid hd1
  have HFV : Hid (ovN a b (d : Int) m = rnN T m (cmpN (4 * X) ((2 * T + 1) * (2 * T + 1) * d)) (cmpN (T * T * d) X == 0) (decide (sgI a b < 0))) := by
    show ovN a b (d : Int) m = _
    rw [HN.out]; exact (HRF _).out.symm
  clear HN HRF HTS HQS HOP hXX hX' hd1
  have LD := fun w => Lib.hid (limbs_any d HD1.out w)
  have L4 := fun w => Lib.hid (limbs_any 4 (by decide) w)
  have D4 : Hid ((dg 4).length ≤ 4) := dg_len 4 4 (by decide)
  rw [show ((4 : Nat) : Int) = 4 from rfl] at L4
  have hXb' := Lib.hid hXb
  clear hXb
  go_enter Try.func26, Try.ntmps26
  go_wp2_with fail
  refine (SA _).out.mono ?_
  rintro e w' ⟨rfl, rfl⟩
  go_wp2_with fail
  refine (SB _).out.mono ?_
  rintro e w' ⟨rfl, rfl⟩
  go_wp2_with fail
  refine HK.out.mono ?_
  rintro e w' ⟨rfl, rfl⟩
  go_wp2_with fail
  refine (PR _).out.mono ?_
  rintro e w1 ⟨u, rfl, hu, hb1⟩
  go_wp2_with fail
  refine (mulL_any p p u u w1 hu hu (by have := HPL.out; omega) (by have := HPL.out; omega)).mono ?_
  rintro e w2 ⟨x, rfl, hx, hb2⟩
  rw [HXX.out] at hx
  go_wp2_with fail
  refine (LD _).out.mono ?_
  rintro e w3 ⟨v, rfl, hv, hb3⟩
  have HX := Lib.hid (hx.next hb3)
  have HV := Lib.hid hv
  have HB3 := Lib.hid (btW (btW hb1 hb2) hb3)
  clear hu hx hv hb1 hb2 hb3 hp1 hX hY
  go_wp2_with fail
  go_loopw [13, 14] (fun s t wr => ∃ (k q : Nat) (i : Int), s = .int .u64 (q : Int) ∧ t = .int .i64 i ∧ i = (k : Int) - 1 ∧ k ≤ 63 ∧ BI T k q ∧ Below w3.heap.size w3 wr) (fun _ t _ => (intOf t + 1).toNat)
  case atStart => exact ⟨63, 0, _, rfl, rfl, by decide, by decide, BI.start (by have := HT62.out; omega), Below.refl _ _⟩
  case round =>
  obtain ⟨k, q, i, rfl, rfl, hi, hk, hbi, hb3⟩ := hrel
  have HBI := Lib.hid hbi
  clear hbi
  rcases Nat.eq_zero_or_pos k with h0 | h0
  · subst h0
    obtain rfl : i = -1 := by omega
    clear hi
    obtain rfl : q = T := HBI.out.done
    have HQL : Hid ((dg q).length ≤ 4) := dg_len 4 q HT.out
    have hq62 : (q : Int) ≤ 4611686018427387904 := by have := HT62.out; omega
    have HK1 : Hid (2 * q + 1 < 18446744073709551616) := by have := HT62.out; show 2 * q + 1 < _; omega
    have HKL := Lib.hid (dg_len 4 _ HK1.out)
    have HKK := Lib.hid (prod8 HK1.out HK1.out)
    have HQQ := Lib.hid (prod8 HT.out HT.out)
    have HKD : Hid ((dg ((2 * q + 1) * (2 * q + 1) * d)).length ≤ 12) := dg_len 12 _ (Nat.lt_of_lt_of_le (Nat.mul_lt_mul'' (Nat.mul_lt_mul'' HK1.out HK1.out) HD1.out) (by decide))
    have HQD : Hid ((dg (q * q * d)).length ≤ 12) := dg_len 12 _ (Nat.lt_of_lt_of_le (Nat.mul_lt_mul'' (Nat.mul_lt_mul'' HT.out HT.out) HD1.out) (by decide))
    have H4X : Hid ((dg (4 * X)).length ≤ 9) := dg_len 9 _ (Nat.lt_of_lt_of_le (show 4 * X < 1361129467683753853853498429727072845824 by have := hXb'.out; omega) (by decide))
    clear HTT HBI
    go_wp2_with fail
    refine (limbs_any q HT.out _).mono ?_
    rintro e w4 ⟨l, rfl, hl, hb4⟩
    go_upto_region 14 with fail
    have HK2 : Hid (2 * (q : Int) + 1 = ((2 * q + 1 : Nat) : Int)) := by show _ = _; omega
    go_wp2_with fail
    rw [HK2.out]
    refine (limbs_any (2 * q + 1) HK1.out _).mono ?_
    rintro e w5 ⟨kk, rfl, hkk, hb5⟩
    have HB5 := Lib.hid (btW (btW hb3 hb4) hb5)
    have HL := Lib.hid (hl.next hb5)
    have HKV := Lib.hid hkk
    clear hb3 hb4 hb5 hl hkk HK2
    go_wp2_with fail
    refine (L4 _).out.mono ?_
    rintro e w6 ⟨y1, rfl, h1, hb6⟩
    go_wp2_with fail
    refine (mulL_any 4 X y1 x w6 h1 (HX.out.next (btW HB5.out hb6)) (by have := D4.out; omega) (by have := HXL.out; omega)).mono ?_
    rintro e w7 ⟨y2, rfl, h2, hb7⟩
    have HB7 := Lib.hid (btW hb6 hb7)
    have H2 := Lib.hid h2
    clear hb6 hb7 h1 h2
    go_wp2_with fail
    refine (mulL_any _ _ kk kk w7 (HKV.out.next HB7.out) (HKV.out.next HB7.out) (by have := HKL.out; omega) (by have := HKL.out; omega)).mono ?_
    rintro e w8 ⟨y3, rfl, h3, hb8⟩
    go_wp2_with fail
    refine (mulL_any _ d y3 v w8 h3 (HV.out.next (btW HB5.out (btW HB7.out hb8))) (by have := HKK.out; omega) (by have := HDL.out; omega)).mono ?_
    rintro e w9 ⟨y4, rfl, h4, hb9⟩
    go_wp2_with fail
    refine (cmpL_any (4 * X) _ y2 y4 w9 (H2.out.next (btW hb8 hb9)) h4 (by have := H4X.out; omega) (by have := HKD.out; omega)).mono ?_
    rintro e w10 ⟨rfl, hb10⟩
    have HB10 := Lib.hid (btW HB7.out (btW (btW hb8 hb9) hb10))
    clear hb8 hb9 hb10 h3 h4 H2 HB7
    go_wp2_with fail
    refine (SG _).out.mono ?_
    rintro e w' ⟨rfl, rfl⟩
    go_wp2_with fail
    refine (mulL_any q q l l w10 (HL.out.next HB10.out) (HL.out.next HB10.out) (by have := HQL.out; omega) (by have := HQL.out; omega)).mono ?_
    rintro e w11 ⟨y5, rfl, h5, hb11⟩
    go_wp2_with fail
    refine (mulL_any (q * q) d y5 v w11 h5 (HV.out.next (btW HB5.out (btW HB10.out hb11))) (by have := HQQ.out; omega) (by have := HDL.out; omega)).mono ?_
    rintro e w12 ⟨y6, rfl, h6, hb12⟩
    go_wp2_with fail
    refine (cmpL_any (q * q * d) X y6 x w12 h6 (HX.out.next (btW HB5.out (btW HB10.out (btW hb11 hb12)))) (by have := HQD.out; omega) (by have := HXL.out; omega)).mono ?_
    rintro e w13 ⟨rfl, hb13⟩
    have HB13 := Lib.hid (btW HB3.out (btW HB5.out (btW HB10.out (btW (btW hb11 hb12) hb13))))
    clear hb11 hb12 hb13 h5 h6
    go_wp2_with fail
    refine (rounded_any _ q _ _ m _ HT.out).mono ?_
    rintro e w14 ⟨rfl, hb14⟩
    go_wp2_with fail
    go_ret2
    exact ⟨ret_ibw (by rw [HFV.out]) (by rw [HFV.out]), btW HB13.out hb14⟩
  · obtain ⟨j, rfl⟩ : ∃ j, k = j + 1 := ⟨k - 1, by omega⟩
    obtain rfl : i = (j : Int) := by omega
    clear hi h0
    have HO := Lib.hid (or_shift HBI.out HT.out (by omega))
    have HF := Lib.hid (HBI.out.fits HT.out (by omega))
    have HY : Hid (q + 2 ^ j ≤ T → BI T j (q + 2 ^ j)) := HBI.out.yes
    have HN : Hid (¬ q + 2 ^ j ≤ T → BI T j q) := HBI.out.no
    go_wp2_with fail
    rw [HO.out]
    obtain ⟨t, ht⟩ : ∃ t, q + 2 ^ j = t := ⟨_, rfl⟩
    rw [ht] at HO HF HY HN ⊢
    clear ht
    refine (limbs_any t HF.out _).mono ?_
    rintro e w4 ⟨x1, rfl, h1, hb4⟩
    go_wp2_with fail
    refine (mulL_any t t x1 x1 w4 h1 h1 (by have := dg_len 4 t HF.out; omega) (by have := dg_len 4 t HF.out; omega)).mono ?_
    rintro e w5 ⟨x2, rfl, h2, hb5⟩
    go_wp2_with fail
    refine (mulL_any (t * t) d x2 v w5 h2 (HV.out.next (btW (btW hb3 hb4) hb5)) (by have := prod8 HF.out HF.out; omega) (by have := HDL.out; omega)).mono ?_
    rintro e w6 ⟨x3, rfl, h3, hb6⟩
    have HW6 := Lib.hid (btW (btW (btW hb3 hb4) hb5) hb6)
    clear hb3 hb4 hb5 hb6 h1 h2
    go_wp2_with fail
    refine (cmpL_any (t * t * d) X x3 x w6 h3 (HX.out.next HW6.out) (by have := dg_len 12 _ (Nat.lt_of_lt_of_le (Nat.mul_lt_mul'' (Nat.mul_lt_mul'' HF.out HF.out) HD1.out) (by decide)); omega) (by have := HXL.out; omega)).mono ?_
    rintro e w7 ⟨rfl, hb7⟩
    have HW := Lib.hid (btW HW6.out hb7)
    clear hb7 h3
    have HC := HTT t
    by_cases hc : t ≤ T
    · have e1 : decide (cmpN (t * t * d) X ≤ 0) = true := decide_eq_true (HC.out.2 hc)
      have HQ := Lib.hid (HY.out hc)
      clear HC hc HY HN
      generalize cmpN (t * t * d) X = z at *
      go_wp2_with fail
      go_roundw
      case rel => exact ⟨j, t, _, by rw [HO.out], rfl, rfl, by omega, HQ.out, HW.out⟩
      case measure => simp [intOf]
    · have e1 : decide (cmpN (t * t * d) X ≤ 0) = false := decide_eq_false (fun h => hc (HC.out.1 h))
      have HQ := Lib.hid (HN.out hc)
      clear HC hc HY HN
      generalize cmpN (t * t * d) X = z at *
      go_wp2_with fail
      go_roundw
      case rel => exact ⟨j, q, _, rfl, rfl, rfl, by omega, HQ.out, HW.out⟩
      case measure => simp [intOf]
set_option maxHeartbeats 1000000 in
theorem overR_no (a b n m : Int) (w : World) (ha : -9223372036854775808 ≤ a) (ha2 : a ≤ 9223372036854775807) (hb : -9223372036854775808 ≤ b) (hb2 : b ≤ 9223372036854775807) (h : 2147483648 < a.natAbs ∨ 2147483648 < b.natAbs ∨ n < 1 ∨ 4611686018427387904 < n ∨ m < 0 ∨ 2 < m) :
    Calls Try.prog 26 #[.int .i64 a, .int .i64 b, .int .i64 n, .int .i64 m] w fun e w' => e = .returned (.tuple #[.int .i64 0, .bool false]) ∧ Below w.heap.size w w' := by
  have SA := fun w => Lib.hid (magR_any a w ha ha2)
  have SB := fun w => Lib.hid (magR_any b w hb hb2)
  by_cases c1 : 2147483648 < a.natAbs
  · clear h
    go_enter Try.func26, Try.ntmps26
    go_wp2_with fail
    refine (SA _).out.mono ?_
    rintro e w' ⟨rfl, rfl⟩
    go_wp2_with fail
    go_ret2
    exact ⟨rfl, Below.refl _ _⟩
  by_cases c2 : 2147483648 < b.natAbs
  · clear h
    go_enter Try.func26, Try.ntmps26
    go_wp2_with fail
    refine (SA _).out.mono ?_
    rintro e w' ⟨rfl, rfl⟩
    go_wp2_with fail
    refine (SB _).out.mono ?_
    rintro e w' ⟨rfl, rfl⟩
    go_wp2_with fail
    go_ret2
    exact ⟨rfl, Below.refl _ _⟩
  by_cases c3 : n < 1
  · clear h
    go_enter Try.func26, Try.ntmps26
    go_wp2_with fail
    refine (SA _).out.mono ?_
    rintro e w' ⟨rfl, rfl⟩
    go_wp2_with fail
    refine (SB _).out.mono ?_
    rintro e w' ⟨rfl, rfl⟩
    go_wp2_with fail
    go_ret2
    exact ⟨rfl, Below.refl _ _⟩
  by_cases c4 : 4611686018427387904 < n
  · clear h
    go_enter Try.func26, Try.ntmps26
    go_wp2_with fail
    refine (SA _).out.mono ?_
    rintro e w' ⟨rfl, rfl⟩
    go_wp2_with fail
    refine (SB _).out.mono ?_
    rintro e w' ⟨rfl, rfl⟩
    go_wp2_with fail
    go_ret2
    exact ⟨rfl, Below.refl _ _⟩
  · have HK := Lib.hid (rightR_no m w (by omega))
    clear h
    go_enter Try.func26, Try.ntmps26
    go_wp2_with fail
    refine (SA _).out.mono ?_
    rintro e w' ⟨rfl, rfl⟩
    go_wp2_with fail
    refine (SB _).out.mono ?_
    rintro e w' ⟨rfl, rfl⟩
    go_wp2_with fail
    refine HK.out.mono ?_
    rintro e w' ⟨rfl, rfl⟩
    go_wp2_with fail
    go_ret2
    exact ⟨rfl, Below.refl _ _⟩
/-- WHAT Over GIVES -/
theorem overR_any (a b n m : Int) (w : World) (ha : -9223372036854775808 ≤ a) (ha2 : a ≤ 9223372036854775807) (hb : -9223372036854775808 ≤ b) (hb2 : b ≤ 9223372036854775807) :
    Calls Try.prog 26 #[.int .i64 a, .int .i64 b, .int .i64 n, .int .i64 m] w fun e w' => e = .returned (.tuple #[.int .i64 (ovV a b n m), .bool (ovO a b n m)]) ∧ Below w.heap.size w w' := by
  unfold ovV ovO
  by_cases h : a.natAbs ≤ 2147483648 ∧ b.natAbs ≤ 2147483648 ∧ 1 ≤ n ∧ n ≤ 4611686018427387904 ∧ 0 ≤ m ∧ m ≤ 2
  · have e : ovG a b n m = true := decide_eq_true h
    rw [e]; exact overR_yes a b n m w h.1 h.2.1 h.2.2.1 h.2.2.2.1 h.2.2.2.2.1 h.2.2.2.2.2
  · have e : ovG a b n m = false := decide_eq_false h
    rw [e]; exact overR_no a b n m w ha ha2 hb hb2 (by omega)
set_option maxHeartbeats 1000000 in
theorem law_over (a b n m : Int) (w : World) (la : -9223372036854775808 ≤ a) (ha : a ≤ 9223372036854775807) (lb : -9223372036854775808 ≤ b) (hb : b ≤ 9223372036854775807) (ln : -9223372036854775808 ≤ n) (hn : n ≤ 9223372036854775807) (lm : -9223372036854775808 ≤ m) (hm : m ≤ 9223372036854775807) :
    Calls Try.prog 7 #[.int .i64 a, .int .i64 b, .int .i64 n, .int .i64 m] w fun e w' => e = .returned (.bool true) ∧ Below w.heap.size w w' := by
  have M1 := fun w => Lib.hid (over_any a b n m w la ha lb hb)
  have M2 := fun w => Lib.hid (overR_any a b n m w la ha lb hb)
  generalize ovV a b n m = x at *
  generalize ovO a b n m = y at *
  cases y
  all_goals
    go_enter Try.func7, Try.ntmps7
    go_wp2_with fail
    refine (M1 _).out.mono ?_
    rintro e w1 ⟨rfl, hb1⟩
    go_wp2_with fail
    refine (M2 _).out.mono ?_
    rintro e w2 ⟨rfl, hb2⟩
    go_wp2_with fail
    refine (awake_any _).mono ?_
    rintro e w3 ⟨rfl, hb3⟩
    go_wp2_with fail
    go_ret
    exact ⟨rfl, btW (btW hb1 hb2) hb3⟩
theorem ovO_yes (a b n m : Int) (hX : a.natAbs ≤ 2147483648) (hY : b.natAbs ≤ 2147483648) (hn : 1 ≤ n) (hn2 : n ≤ 4611686018427387904) (hm : 0 ≤ m) (hm2 : m ≤ 2) : ovO a b n m = true := by
  have g : ovG a b n m = true := decide_eq_true ⟨hX, hY, hn, hn2, hm, hm2⟩
  have hp := prod_le hX hY
  have hP : ovP a b ≤ 85070591730234615865843651857942052864 := by
    unfold ovP
    exact Nat.le_trans (Nat.mul_le_mul (show 2 * (a.natAbs * b.natAbs) ≤ 9223372036854775808 by omega) (show 2 * (a.natAbs * b.natAbs) ≤ 9223372036854775808 by omega)) (by decide)
  have ht : ovT a b n ≤ 9223372036854775808 := by
    unfold ovT
    have hq : ovP a b / n.toNat ≤ 85070591730234615865843651857942052864 := Nat.le_trans (Nat.div_le_self _ _) hP
    have s := rtN_spec (ovP a b / n.toNat) (by omega)
    refine Nat.le_of_not_lt fun hc => ?_
    have h1 := sq_mono (show 9223372036854775809 ≤ rtN (ovP a b / n.toNat) from hc)
    omega
  have hN : ovN a b n m ≤ 4611686018427387905 := by unfold ovN ovS; split <;> omega
  unfold ovO
  rw [g, if_pos rfl]
  unfold sgO
  split
  · exact decide_eq_true (by omega)
  · exact decide_eq_true (by omega)
set_option maxHeartbeats 1000000 in
theorem law_scaled (a b n m : Int) (w : World) (la : -9223372036854775808 ≤ a) (ha : a ≤ 9223372036854775807) (lb : -9223372036854775808 ≤ b) (hb : b ≤ 9223372036854775807) (ln : -9223372036854775808 ≤ n) (hn : n ≤ 9223372036854775807) (lm : -9223372036854775808 ≤ m) (hm : m ≤ 9223372036854775807) :
    Calls Try.prog 8 #[.int .i64 a, .int .i64 b, .int .i64 n, .int .i64 m] w fun e w' => e = .returned (.bool true) ∧ Below w.heap.size w w' := by
  have BE := fun (v lo hi : Int) (w : World) h1 h2 h3 h4 h5 h6 => Lib.hid (between_ex v lo hi w h1 h2 h3 h4 h5 h6)
  have ME := fun (a b : Int) (w : World) h1 h2 h3 h4 => Lib.hid (mod_ex a b w h1 h2 h3 h4)
  go_enter Try.func8, Try.ntmps8
  go_wp2_with fail
  refine (BE _ _ _ _ (by assumption) (by assumption) (by omega) (by omega) (by omega) (by omega)).out.mono ?_
  rintro e w' ⟨p, hp1, hp2, rfl, rfl⟩
  go_wp2_with fail
  refine (BE _ _ _ _ (by assumption) (by assumption) (by omega) (by omega) (by omega) (by omega)).out.mono ?_
  rintro e w' ⟨q, hq1, hq2, rfl, rfl⟩
  go_wp2_with fail
  refine (BE _ _ _ _ (by assumption) (by assumption) (by omega) (by omega) (by omega) (by omega)).out.mono ?_
  rintro e w' ⟨r, hr1, hr2, rfl, rfl⟩
  go_wp2_with fail
  refine (ME _ _ _ (by assumption) (by assumption) (by omega) (by omega)).out.mono ?_
  rintro e w' ⟨j, hj1, hj2, rfl, rfl⟩
  have M1 := fun w => Lib.hid (over_any p q r j w (by omega) (by omega) (by omega) (by omega))
  have M2 := fun w => Lib.hid (overR_any p q r j w (by omega) (by omega) (by omega) (by omega))
  rw [ovO_yes p q r j (by omega) (by omega) hr1 hr2 hj1 (by omega)] at M1 M2
  generalize ovV p q r j = x at *
  go_wp2_with fail
  refine (M1 _).out.mono ?_
  rintro e w1 ⟨rfl, hb1⟩
  go_wp2_with fail
  refine (M2 _).out.mono ?_
  rintro e w2 ⟨rfl, hb2⟩
  go_wp2_with fail
  refine (awake_any _).mono ?_
  rintro e w3 ⟨rfl, hb3⟩
  go_wp2_with fail
  go_ret
  exact ⟨rfl, btW (btW hb1 hb2) hb3⟩
end Go.Proofs.Ytoahcdnlnihehaa
