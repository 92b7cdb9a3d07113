/- Proved here: WideSquares returns true for every argument; no conditions but that integers are ints. -/
import Derived.Test.YtoahcdnlnihehaaWp1
import Derived.Test.YtoahcdnlnihehaaUw1
namespace Go.Proofs.Ytoahcdnlnihehaa
open Go.RowKit
set_option linter.unusedVariables false
theorem rt_sq (a : Nat) (h : a < 18446744073709551616) : rtN (a * a) = a := by
  have s := rtN_spec (a * a) (Nat.lt_of_lt_of_le (Nat.mul_lt_mul'' h h) (by decide))
  exact rt_uniq s.1 s.2 (Nat.le_refl _) (by grind)
theorem ro_sq (a m : Int) (h0 : 0 ≤ a) (h1 : a ≤ 9223372036854775807) (hm : 0 ≤ m) (hm2 : m ≤ 2) : roO a a m = true ∧ roV a a m = a := by
  have g : roG a a m = true := decide_eq_true ⟨h0, h0, hm, hm2⟩
  have e : rootN (a.toNat * a.toNat) m = a.toNat := by
    unfold rootN
    rw [rt_sq a.toNat (by omega), up_false (by omega)]; rfl
  unfold roO roV
  rw [g, e]
  unfold sgO sgV
  rw [if_pos rfl, if_pos rfl, if_neg (by decide), if_neg (by decide), if_pos (by omega)]
  exact ⟨decide_eq_true (by omega), by omega⟩
/-- the quotient by a square -/
theorem quo_sq (p m : Nat) (hm : 0 < m) (hp : p ≤ 4611686018427387904) :
    rtN (2 * p * (2 * p) / (m * m)) = 2 * p / m := by
  have hb : 2 * p * (2 * p) / (m * m) < 340282366920938463463374607431768211456 := Nat.lt_of_le_of_lt (Nat.div_le_self _ _) (Nat.lt_of_le_of_lt (Nat.mul_le_mul (show 2 * p ≤ 9223372036854775808 by omega) (show 2 * p ≤ 9223372036854775808 by omega)) (by decide))
  have s := rtN_spec _ hb
  have h1 := Nat.div_add_mod (2 * p) m
  have h2 := Nat.mod_lt (2 * p) hm
  refine rt_uniq s.1 s.2 ?_ ?_
  · rw [Nat.le_div_iff_mul_le (Nat.mul_pos hm hm)]
    have k : 2 * p / m * m ≤ 2 * p := Nat.div_mul_le_self _ _
    have e : 2 * p / m * (2 * p / m) * (m * m) = (2 * p / m * m) * (2 * p / m * m) := by grind
    rw [e]; exact Nat.mul_le_mul k k
  · rw [Nat.div_lt_iff_lt_mul (Nat.mul_pos hm hm)]
    have k : 2 * p < (2 * p / m + 1) * m := by rw [Nat.add_mul, Nat.one_mul, Nat.mul_comm _ m]; omega
    have e : (2 * p / m + 1) * (2 * p / m + 1) * (m * m) = ((2 * p / m + 1) * m) * ((2 * p / m + 1) * m) := by grind
    rw [e]; exact Nat.mul_lt_mul'' k k
theorem twice (p m : Nat) (hm : 0 < m) : (2 * (p % m) < m ∧ 2 * p / m = 2 * (p / m) ∧ 2 * p % m = 2 * (p % m)) ∨ (m ≤ 2 * (p % m) ∧ 2 * p / m = 2 * (p / m) + 1 ∧ 2 * p % m = 2 * (p % m) - m) := by
  have h1 := Nat.div_add_mod p m
  have h2 := Nat.mod_lt p hm
  generalize p / m = q at *
  generalize p % m = r at *
  subst h1
  by_cases h : 2 * r < m
  · left
    have e : 2 * (m * q + r) = m * (2 * q) + 2 * r := by grind
    rw [e, Nat.mul_add_div hm, Nat.mul_add_mod, Nat.div_eq_of_lt h, Nat.mod_eq_of_lt h]
    exact ⟨h, by omega, rfl⟩
  · right
    have e : 2 * (m * q + r) = m * (2 * q + 1) + (2 * r - m) := by
      have : m * (2 * q + 1) = 2 * (m * q) + m := by grind
      rw [this]; omega
    have h3 : 2 * r - m < m := by omega
    rw [e, Nat.mul_add_div hm, Nat.mul_add_mod, Nat.div_eq_of_lt h3, Nat.mod_eq_of_lt h3]
    exact ⟨by omega, by omega, rfl⟩
/-- a square has no rest in its root -/
theorem rest_sq (p m : Nat) (hm : 0 < m) : (0 < 2 * p * (2 * p) % (m * m) ∨ 2 * p / m * (2 * p / m) ≠ 2 * p * (2 * p) / (m * m)) ↔ 2 * p % m ≠ 0 := by
  have h1 := Nat.div_add_mod (2 * p) m
  have h2 := Nat.div_add_mod (2 * p * (2 * p)) (m * m)
  have hmm := Nat.mul_pos hm hm
  constructor
  · intro h e
    rw [e, Nat.add_zero] at h1
    have e2 : 2 * p * (2 * p) = m * m * (2 * p / m * (2 * p / m)) := by
      conv => lhs; rw [← h1]
      grind
    rw [e2, Nat.mul_mod_right, Nat.mul_div_cancel_left _ hmm] at h
    omega
  · intro h
    refine Classical.byContradiction fun g => ?_
    obtain ⟨g1, g2⟩ := not_or.mp g
    have g2 := Classical.not_not.mp g2
    have g1 : 2 * p * (2 * p) % (m * m) = 0 := by omega
    rw [g1, ← g2, Nat.add_zero] at h2
    have e : m * m * (2 * p / m * (2 * p / m)) = (m * (2 * p / m)) * (m * (2 * p / m)) := by grind
    rw [e] at h2
    have h3 : m * (2 * p / m) < 2 * p := by omega
    have := Nat.mul_lt_mul'' h3 h3
    omega
theorem ov_sq (a b m k : Int) (hX : a.natAbs ≤ 2147483648) (hY : b.natAbs ≤ 2147483648) (hm : 1 ≤ m) (hm2 : m ≤ 2147483648) (hk : 0 ≤ k) (hk2 : k ≤ 2) :
    ovV a b (m * m) k = mdV a b m k ∧ ovO a b (m * m) k = true ∧ mdO a b m k = true := by
  obtain ⟨d, rfl⟩ := Int.eq_ofNat_of_zero_le (show 0 ≤ m by omega)
  have hp := prod_le hX hY
  have hd : 0 < d := by omega
  have hdd : (d : Int) * d = ((d * d : Nat) : Int) := (Int.natCast_mul d d).symm
  have hdl : d * d ≤ 4611686018427387904 := prod_le (show d ≤ 2147483648 by omega) (show d ≤ 2147483648 by omega)
  have hdp := Nat.mul_pos hd hd
  have g1 : ovG a b ((d : Int) * d) k = true := decide_eq_true ⟨hX, hY, by rw [hdd]; omega, by rw [hdd]; omega, hk, hk2⟩
  have g2 : mdG (d : Int) k = true := decide_eq_true ⟨by omega, hk, hk2⟩
  have hng : ngI a b (d : Int) = decide (sgI a b < 0) := by
    unfold ngI
    rw [decide_eq_false (show ¬ (d : Int) < 0 by omega)]
    rcases sg3 a b with h | h | h <;> rw [h] <;> rfl
  have eN : ovN a b ((d : Int) * d) k = mdN a b (d : Int) k := by
    unfold ovN ovR mdN ovT ovP ovS rdN
    rw [hdd, Int.toNat_natCast, Int.natAbs_natCast, hng]
    generalize a.natAbs * b.natAbs = p at *
    rw [quo_sq p d hd hp]
    have hr := rest_sq p d hd
    have ht := twice p d hd
    have hso : (decide (0 < 2 * p * (2 * p) % (d * d)) || decide (2 * p / d * (2 * p / d) ≠ 2 * p * (2 * p) / (d * d))) = decide (2 * p % d ≠ 0) := by
      rw [← Bool.decide_or]; exact decide_eq_decide.mpr hr
    rw [hso]
    generalize decide (sgI a b < 0) = ng at *
    have hml := Nat.mod_lt p hd
    generalize p / d = q at *
    generalize p % d = r at *
    unfold ovM
    rcases ht with ⟨t1, t2, t3⟩ | ⟨t1, t2, t3⟩
    · rw [t2, t3]
      have c : cmpN (2 * r) d = -1 := if_pos t1
      rw [c, if_neg (show ¬ 2 * q % 2 = 1 by omega), show 2 * q / 2 = q by omega, decide_eq_false (show ¬ 2 * q % 2 = 1 by omega), Bool.or_false]
      congr 3
      by_cases h0 : r = 0
      · subst h0; rfl
      · rw [decide_eq_true (show 2 * r ≠ 0 by omega), decide_eq_true (show 0 < r by omega)]
    · rw [t2, t3]
      rw [if_pos (show (2 * q + 1) % 2 = 1 by omega), show (2 * q + 1) / 2 = q by omega, decide_eq_true (show (2 * q + 1) % 2 = 1 by omega), Bool.or_true]
      have h0 : decide (0 < r) = true := decide_eq_true (by omega)
      rw [h0]
      by_cases h1 : 2 * r = d
      · have c : cmpN (2 * r) d = 0 := by unfold cmpN; rw [if_neg (by omega), if_pos h1]
        rw [c, decide_eq_false (show ¬ (2 * r - d ≠ 0) by omega)]; rfl
      · have c : cmpN (2 * r) d = 1 := by unfold cmpN; rw [if_neg (by omega), if_neg h1]
        rw [c, decide_eq_true (show 2 * r - d ≠ 0 by omega)]; rfl
  have hsmall : mdN a b (d : Int) k ≤ 4611686018427387905 := by
    unfold mdN rdN
    have : a.natAbs * b.natAbs / (d : Int).natAbs ≤ a.natAbs * b.natAbs := Nat.div_le_self _ _
    split <;> omega
  have hok : sgO (mdN a b (d : Int) k) (decide (sgI a b < 0)) = true := by
    unfold sgO
    split
    · exact decide_eq_true (by omega)
    · exact decide_eq_true (by omega)
  unfold ovV ovO mdV mdO
  rw [g1, g2, eN, hng]
  exact ⟨rfl, hok, hok⟩

theorem mul_bd1 {r : Int} (h1 : 1 ≤ r) (h2 : r ≤ 2147483648) : 1 ≤ r * r ∧ r * r ≤ 4611686018427387904 := by
  have a := Int.mul_le_mul h1 h1 (by omega) (by omega)
  have b := Int.mul_le_mul h2 h2 (by omega) (by omega)
  omega
set_option maxRecDepth 20000 in
set_option maxHeartbeats 2000000 in
theorem law_squares (a b m k : Int) (w : World) (la : -9223372036854775808 ≤ a) (ha : a ≤ 9223372036854775807) (lb : -9223372036854775808 ≤ b) (hb : b ≤ 9223372036854775807) (lm : -9223372036854775808 ≤ m) (hm : m ≤ 9223372036854775807) (lk : -9223372036854775808 ≤ k) (hk : k ≤ 9223372036854775807) :
    Calls Try.prog 15 #[.int .i64 a, .int .i64 b, .int .i64 m, .int .i64 k] w fun e w' => e = .returned (.bool true) ∧ Below w.heap.size w w' := by
  have g1 := Int.emod_nonneg k (b := 3) (by decide)
  have g2 := Int.emod_lt_of_pos k (b := 3) (by decide)
  have MD := fun w => Lib.hid (mod_any k 3 w lk hk (by omega) (by omega))
  have R1 := fun w => Lib.hid (rootF_any a a (k % 3) w ha ha)
  have BE := fun (v lo hi : Int) (w : World) h1 h2 h3 h4 h5 h6 => Lib.hid (between_ex v lo hi w h1 h2 h3 h4 h5 h6)
  generalize k % 3 = j at *
  have tail : True := trivial
  by_cases h0 : 0 ≤ a
  · rw [(ro_sq a j h0 ha g1 (by omega)).1, (ro_sq a j h0 ha g1 (by omega)).2] at R1
    go_enter Try.func15, Try.ntmps15
    go_wp2_with fail
    refine (MD _).out.mono ?_
    rintro e w' ⟨rfl, rfl⟩
    go_wp2_with fail
    refine (R1 _).out.mono ?_
    rintro e w2 ⟨rfl, hb2⟩
    go_wp2_with fail
    refine (awake_any _).mono ?_
    rintro e w3 ⟨rfl, hb3⟩
    go_wp2_with fail
    refine (BE _ _ _ _ (by assumption) (by assumption) (by omega) (by omega) (by omega) (by omega)).out.mono ?_
    rintro e w' ⟨p, hp1, hp2, rfl, rfl⟩
    go_wp2_with fail
    refine (BE _ _ _ _ (by assumption) (by assumption) (by omega) (by omega) (by omega) (by omega)).out.mono ?_
    rintro e w' ⟨q, hq1, hq2, rfl, rfl⟩
    go_wp2_with fail
    refine (BE _ _ _ _ (by assumption) (by assumption) (by omega) (by omega) (by omega) (by omega)).out.mono ?_
    rintro e w' ⟨r, hr1, hr2, rfl, rfl⟩
    have OS := ov_sq p q r j (by omega) (by omega) hr1 hr2 g1 (by omega)
    have hrr := mul_bd1 hr1 hr2
    have hrr2 := hrr.1
    have hrr3 := hrr.2
    have O1 := fun w => Lib.hid (over_any p q (r * r) j w (by omega) (by omega) (by omega) (by omega))
    have M1 := fun w => Lib.hid (muldiv_any p q r j w (by omega) (by omega) (by omega) (by omega) (by omega) (by omega))
    rw [OS.1, OS.2.1] at O1
    rw [OS.2.2] at M1
    clear OS hrr
    generalize mdV p q r j = x at *
    go_wp2_with fail
    refine (O1 _).out.mono ?_
    rintro e w4 ⟨rfl, hb4⟩
    go_wp2_with fail
    refine (M1 _).out.mono ?_
    rintro e w5 ⟨rfl, hb5⟩
    go_wp2_with fail
    go_ret
    exact ⟨rfl, (btW (btW (btW hb2 hb3) hb4) hb5)⟩
  · rw [(ro_not a a j (by omega)).1, (ro_not a a j (by omega)).2] at R1
    go_enter Try.func15, Try.ntmps15
    go_wp2_with fail
    refine (MD _).out.mono ?_
    rintro e w' ⟨rfl, rfl⟩
    go_wp2_with fail
    refine (R1 _).out.mono ?_
    rintro e w2 ⟨rfl, hb2⟩
    go_wp2_with fail
    refine (awake_any _).mono ?_
    rintro e w3 ⟨rfl, hb3⟩
    go_wp2_with fail
    refine (BE _ _ _ _ (by assumption) (by assumption) (by omega) (by omega) (by omega) (by omega)).out.mono ?_
    rintro e w' ⟨p, hp1, hp2, rfl, rfl⟩
    go_wp2_with fail
    refine (BE _ _ _ _ (by assumption) (by assumption) (by omega) (by omega) (by omega) (by omega)).out.mono ?_
    rintro e w' ⟨q, hq1, hq2, rfl, rfl⟩
    go_wp2_with fail
    refine (BE _ _ _ _ (by assumption) (by assumption) (by omega) (by omega) (by omega) (by omega)).out.mono ?_
    rintro e w' ⟨r, hr1, hr2, rfl, rfl⟩
    have OS := ov_sq p q r j (by omega) (by omega) hr1 hr2 g1 (by omega)
    have hrr := mul_bd1 hr1 hr2
    have hrr2 := hrr.1
    have hrr3 := hrr.2
    have O1 := fun w => Lib.hid (over_any p q (r * r) j w (by omega) (by omega) (by omega) (by omega))
    have M1 := fun w => Lib.hid (muldiv_any p q r j w (by omega) (by omega) (by omega) (by omega) (by omega) (by omega))
    rw [OS.1, OS.2.1] at O1
    rw [OS.2.2] at M1
    clear OS hrr
    generalize mdV p q r j = x at *
    go_wp2_with fail
    refine (O1 _).out.mono ?_
    rintro e w4 ⟨rfl, hb4⟩
    go_wp2_with fail
    refine (M1 _).out.mono ?_
    rintro e w5 ⟨rfl, hb5⟩
    go_wp2_with fail
    go_ret
    exact ⟨rfl, (btW (btW (btW hb2 hb3) hb4) hb5)⟩

end Go.Proofs.Ytoahcdnlnihehaa
