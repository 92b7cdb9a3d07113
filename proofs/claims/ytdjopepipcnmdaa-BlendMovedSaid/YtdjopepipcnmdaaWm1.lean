/- Proved here: what MulDiv of package wide returns; every argument. -/
import Derived.Test.YtdjopepipcnmdaaWw2
import Derived.Test.YtdjopepipcnmdaaWw4
import Derived.Test.YtdjopepipcnmdaaWd2
namespace Go.Proofs.Ytdjopepipcnmdaa
open Go.RowKit
set_option linter.unusedVariables false
/-- is the quotient negative -/
def ngI (a b c : Int) : Bool := (decide (sgI a b < 0) != decide (c < 0)) && decide (sgI a b ≠ 0)
/-- the absolute value of the rounded quotient -/
def rdN (m : Int) (P D : Nat) (neg : Bool) : Nat := P / D + (if grI m (cmpN (2 * (P % D)) D) (decide (0 < P % D)) neg then 1 else 0)
def mdN (a b c m : Int) : Nat := rdN m (a.natAbs * b.natAbs) c.natAbs (ngI a b c)
def mdG (c m : Int) : Bool := decide (c ≠ 0 ∧ 0 ≤ m ∧ m ≤ 2)
def mdV (a b c m : Int) : Int := if mdG c m then sgV (mdN a b c m) (ngI a b c) else 0
def mdO (a b c m : Int) : Bool := if mdG c m then sgO (mdN a b c m) (ngI a b c) else false
theorem sgV_big {n : Nat} (neg : Bool) (h : 18446744073709551616 ≤ n) : sgV n neg = 0 ∧ sgO n neg = false := by
  unfold sgV sgO
  cases neg
  · rw [if_neg (by decide), if_neg (by omega), if_neg (by decide)]; exact ⟨rfl, decide_eq_false (by omega)⟩
  · rw [if_pos rfl, if_neg (by omega), if_pos rfl]; exact ⟨rfl, decide_eq_false (by omega)⟩
theorem sg3 (a b : Int) : sgI a b = -1 ∨ sgI a b = 0 ∨ sgI a b = 1 := by unfold sgI; (repeat' split) <;> omega
set_option maxHeartbeats 1000000 in
theorem muldiv_zero (a b m : Int) (w : World) :
    Calls Try.prog 35 #[.int .i64 a, .int .i64 b, .int .i64 0, .int .i64 m] w fun e w' => e = .returned (.tuple #[.int .i64 0, .bool false]) ∧ Below w.heap.size w w' := by
  go_enter Try.func35, Try.ntmps35
  go_wp2_with fail
  go_ret2
  exact ⟨rfl, Below.refl _ _⟩
set_option maxHeartbeats 1000000 in
theorem muldiv_mode (a b c m : Int) (w : World) (hc : c ≠ 0) (hm : m < 0 ∨ 2 < m) :
    Calls Try.prog 35 #[.int .i64 a, .int .i64 b, .int .i64 c, .int .i64 m] w fun e w' => e = .returned (.tuple #[.int .i64 0, .bool false]) ∧ Below w.heap.size w w' := by
  have e0 : (c == 0) = false := by simpa using hc
  have HK := Lib.hid (known_no m w hm)
  clear hc hm
  go_enter Try.func35, Try.ntmps35
  go_wp2_with fail
  refine HK.out.mono ?_
  rintro e w' ⟨rfl, rfl⟩
  go_wp2_with fail
  go_ret2
  exact ⟨rfl, Below.refl _ _⟩
theorem abs_lt {a : Int} (h1 : -9223372036854775808 ≤ a) (h2 : a ≤ 9223372036854775807) : a.natAbs < 18446744073709551616 := by omega
/-- the product by its halves -/
theorem product_ex (x y : Nat) (hx : x < 18446744073709551616) (hy : y < 18446744073709551616) (w : World) :
    Calls Try.prog 44 #[.int .u64 x, .int .u64 y] w fun e w' => ∃ hi lo : Nat, Hid (hi < 18446744073709551616 ∧ lo < 18446744073709551616 ∧ x * y = hi * 18446744073709551616 + lo) ∧ e = .returned (.agg #[.int .u64 hi, .int .u64 lo]) ∧ Below w.heap.size w w' := by
  refine (product_any x y hx hy w).mono ?_
  rintro e w' ⟨he, hb⟩
  have h := Nat.mul_lt_mul'' hx hy
  refine ⟨x * y / 18446744073709551616, x * y % 18446744073709551616, ⟨?_, Nat.mod_lt _ (by decide), (Nat.div_add_mod' _ _).symm⟩, he, hb⟩
  rw [Nat.div_lt_iff_lt_mul (by decide)]; exact h
theorem div64_ex (hi lo y : Nat) (hhi : hi < y) (hlo : lo < 18446744073709551616) (hy : y < 18446744073709551616) (w : World) :
    Calls Try.prog 51 #[.int .u64 hi, .int .u64 lo, .int .u64 y] w fun e w' => ∃ q r : Nat, Hid (q = (hi * 18446744073709551616 + lo) / y ∧ r = (hi * 18446744073709551616 + lo) % y ∧ q < 18446744073709551616 ∧ r < y) ∧ e = .returned (.tuple #[.int .u64 q, .int .u64 r]) ∧ Below w.heap.size w w' := by
  refine (div64_any hi lo y hhi hlo hy w).mono ?_
  rintro e w' ⟨he, hb⟩
  refine ⟨_, _, ⟨rfl, rfl, ?_, Nat.mod_lt _ (by omega)⟩, he, hb⟩
  rw [Nat.div_lt_iff_lt_mul (by omega), Nat.mul_comm]
  have := Nat.mul_le_mul_right 18446744073709551616 hhi
  omega
theorem md_over {a b c m : Int} {hi lo : Nat} (h : a.natAbs * b.natAbs = hi * 18446744073709551616 + lo) (ho : c.natAbs ≤ hi) (h0 : 0 < c.natAbs) : sgV (mdN a b c m) (ngI a b c) = 0 ∧ sgO (mdN a b c m) (ngI a b c) = false := by
  refine sgV_big _ ?_
  unfold mdN rdN
  rw [h]
  have h1 : 18446744073709551616 ≤ (hi * 18446744073709551616 + lo) / c.natAbs := by
    rw [Nat.le_div_iff_mul_le h0, Nat.mul_comm 18446744073709551616]
    exact Nat.le_trans (Nat.mul_le_mul_right _ ho) (Nat.le_add_right _ _)
  exact Nat.le_trans h1 (Nat.le_add_right _ _)
theorem md_eq {a b c m : Int} {hi lo q r : Nat} (h : a.natAbs * b.natAbs = hi * 18446744073709551616 + lo) (hq : q = (hi * 18446744073709551616 + lo) / c.natAbs) (hr : r = (hi * 18446744073709551616 + lo) % c.natAbs) :
    mdN a b c m = q + (if grI m (cmpN (2 * r) c.natAbs) (decide (0 < r)) (ngI a b c) then 1 else 0) := by
  unfold mdN rdN
  rw [h, hq, hr]
set_option maxHeartbeats 2000000 in
theorem muldiv_yes (a b c m : Int) (w : World) (ha : -9223372036854775808 ≤ a) (ha2 : a ≤ 9223372036854775807) (hb : -9223372036854775808 ≤ b) (hb2 : b ≤ 9223372036854775807) (hcl : -9223372036854775808 ≤ c) (hc2 : c ≤ 9223372036854775807)
    (hc : c ≠ 0) (hm : 0 ≤ m) (hm2 : m ≤ 2) :
    Calls Try.prog 35 #[.int .i64 a, .int .i64 b, .int .i64 c, .int .i64 m] w fun e w' => e = .returned (.tuple #[.int .i64 (sgV (mdN a b c m) (ngI a b c)), .bool (sgO (mdN a b c m) (ngI a b c))]) ∧ Below w.heap.size w w' := by
  have e0 : (c == 0) = false := by simpa using hc
  have HK := Lib.hid (known_yes m w hm hm2)
  have HA := Lib.hid (abs_lt ha ha2)
  have HB := Lib.hid (abs_lt hb hb2)
  have HC := Lib.hid (abs_lt hcl hc2)
  have HC0 : Hid (0 < c.natAbs) := by show 0 < c.natAbs; omega
  clear hc
  go_enter Try.func35, Try.ntmps35
  go_wp2_with fail
  refine HK.out.mono ?_
  rintro e w' ⟨rfl, rfl⟩
  go_wp2_with fail
  refine (size_any a _ ha ha2).mono ?_
  rintro e w' ⟨rfl, rfl⟩
  go_wp2_with fail
  refine (size_any b _ hb hb2).mono ?_
  rintro e w' ⟨rfl, rfl⟩
  go_wp2_with fail
  refine (product_ex _ _ HA.out HB.out _).mono ?_
  rintro e w1 ⟨hi, lo, HP, rfl, hb1⟩
  go_wp2_with fail
  refine (size_any c _ hcl hc2).mono ?_
  rintro e w' ⟨rfl, rfl⟩
  by_cases hov : (c.natAbs : Int) ≤ hi
  · have HV := Lib.hid (md_over (m := m) (a := a) (b := b) (c := c) HP.out.2.2 (by omega) HC0.out)
    go_wp2_with fail
    go_ret2
    exact ⟨ret_ibw HV.out.1.symm HV.out.2.symm, hb1.alloc hb1.size _⟩
  · have HLT : Hid (hi < c.natAbs) := by show hi < c.natAbs; omega
    have HLO := Lib.hid HP.out.2.1
    go_upto_region 6 with fail
    go_wp2_with fail
    refine (div64_ex _ _ _ HLT.out HLO.out HC.out _).mono ?_
    rintro e w2 ⟨q, r, HQ, rfl, hb2⟩
    have HW : Hid (Below w.heap.size w w2) := (hb1.alloc hb1.size _).trans (hb2.mono (by have := hb1.size; simp; omega))
    clear hb1 hb2
    have hs3 := sg3 a b
    have HRD := Lib.hid (md_eq (m := m) (a := a) (b := b) (c := c) HP.out.2.2 HQ.out.1 HQ.out.2.1)
    have hr1 : (r : Int) < c.natAbs := by have := HQ.out.2.2.2; omega
    have hq1 : (q : Int) ≤ 18446744073709551615 := by have := HQ.out.2.2.1; omega
    have HCC : Hid ((c.natAbs : Int) ≤ 18446744073709551615) := by have := HC.out; show (c.natAbs : Int) ≤ _; omega
    have hcc := HCC.out
    go_upto_region 7 with fail
    go_cut [14] (fun s wx => s = .bool (ngI a b c) ∧ w2 = wx)
    case first =>
      have hcd : c < 0 ∨ 0 < c := by simp at e0; omega
      rcases hs3 with h | h | h <;> rcases hcd with hc1 | hc1
      all_goals
        have HH := Lib.hid h
        have HD : Hid (decide (c < 0) = true ∨ decide (c < 0) = false) := by cases decide (c < 0) <;> simp [Hid]
        clear h
        go_wp2_with fail
        refine (sign_any a b _).mono ?_
        rw [HH.out]
        rintro e w' ⟨rfl, rfl⟩
        go_wp2_with (go_at_call 46; refine (sign_any a b _).mono ?_; rw [HH.out]; rintro e w' ⟨rfl, rfl⟩)
        go_meet
        refine ⟨congrArg Value.bool ?_, rfl⟩
        unfold ngI
        rw [HH.out]
        first
          | (rw [decide_eq_true (show c < 0 by omega)]; decide)
          | (rw [decide_eq_false (show ¬ c < 0 by omega)]; decide)
    case rest =>
      obtain ⟨rfl, rfl⟩ := hcut
      obtain ⟨n, hn⟩ : ∃ n, ngI a b c = n := ⟨_, rfl⟩
      rw [hn]
      have HN := Lib.hid hn
      have HQ1 := Lib.hid HQ.out.2.2.1
      clear HQ HLT HLO HP HC HC0 HA HB HK hn hs3 hov
      rcases Nat.lt_trichotomy (2 * r) c.natAbs with h | h | h
      · have HM : Hid (cmpN (2 * r) c.natAbs = -1) := by show cmpN _ _ = _; exact if_pos h
        have h2 : (r : Int) < (c.natAbs : Int) - r := by omega
        clear h
        cases hg : grI m (-1) (decide (0 < r)) n
        · have HF : Hid (mdN a b c m = q) := by have := HRD.out; rw [HM.out, HN.out, hg] at this; exact this
          have HG := fun w => Lib.hid (grows_any m (-1) (decide (0 < r)) n w)
          rw [hg] at HG
          clear hg
          go_wp2_with fail
          refine (HG _).out.mono ?_
          rintro e w' ⟨rfl, rfl⟩
          go_wp2_with fail
          refine (signed_any q n HQ1.out _).mono ?_
          rintro e w' ⟨rfl, rfl⟩
          go_wp2_with fail
          go_ret2
          exact ⟨ret_ibw (by rw [HF.out, HN.out]) (by rw [HF.out, HN.out]), HW.out⟩
        · have HF : Hid (mdN a b c m = q + 1) := by have := HRD.out; rw [HM.out, HN.out, hg] at this; exact this
          have HG := fun w => Lib.hid (grows_any m (-1) (decide (0 < r)) n w)
          rw [hg] at HG
          clear hg
          by_cases hq : (q : Int) < 18446744073709551615
          · have HZ : Hid (IntKind.u64.wrap ((q : Int) + 1) = ((q + 1 : Nat) : Int)) := wrapU (a := q + 1) (by omega)
            have HP1 : Hid (q + 1 < 18446744073709551616) := by show q + 1 < _; omega
            have hp0 : q + 1 ≠ 0 := by omega
            clear hq hq1
            go_wp2_with fail
            refine (HG _).out.mono ?_
            rintro e w' ⟨rfl, rfl⟩
            go_upto_region 15 with fail
            rw [HZ.out]
            clear HZ
            obtain ⟨p, hp⟩ : ∃ p, q + 1 = p := ⟨_, rfl⟩
            rw [hp] at HP1 HF hp0 ⊢
            have ep := eqz hp0
            clear hp hp0
            go_wp2_with fail
            refine (signed_any p n HP1.out _).mono ?_
            rintro e w' ⟨rfl, rfl⟩
            go_wp2_with fail
            go_ret2
            exact ⟨ret_ibw (by rw [HF.out, HN.out]) (by rw [HF.out, HN.out]), HW.out⟩
          · have HV : Hid (sgV (q + 1) n = 0 ∧ sgO (q + 1) n = false) := sgV_big n (by omega)
            have HZ : Hid (IntKind.u64.wrap ((q : Int) + 1) = 0) := by show IntKind.u64.wrap ((q : Int) + 1) = 0; rw [IntKind.wrap_u64]; omega
            clear hq hq1
            go_wp2_with fail
            refine (HG _).out.mono ?_
            rintro e w' ⟨rfl, rfl⟩
            go_upto_region 15 with fail
            rw [HZ.out]
            go_wp2_with fail
            go_ret2
            exact ⟨ret_ibw (by rw [HF.out, HN.out, HV.out.1]) (by rw [HF.out, HN.out, HV.out.2]), HW.out⟩
      · have HM : Hid (cmpN (2 * r) c.natAbs = 0) := by show cmpN _ _ = _; unfold cmpN; rw [if_neg (by omega), if_pos h]
        have h2 : ¬ (r : Int) < (c.natAbs : Int) - r := by omega
        have h3 : ¬ (c.natAbs : Int) - r < (r : Int) := by omega
        clear h
        cases hg : grI m (0) (decide (0 < r)) n
        · have HF : Hid (mdN a b c m = q) := by have := HRD.out; rw [HM.out, HN.out, hg] at this; exact this
          have HG := fun w => Lib.hid (grows_any m (0) (decide (0 < r)) n w)
          rw [hg] at HG
          clear hg
          go_wp2_with fail
          refine (HG _).out.mono ?_
          rintro e w' ⟨rfl, rfl⟩
          go_wp2_with fail
          refine (signed_any q n HQ1.out _).mono ?_
          rintro e w' ⟨rfl, rfl⟩
          go_wp2_with fail
          go_ret2
          exact ⟨ret_ibw (by rw [HF.out, HN.out]) (by rw [HF.out, HN.out]), HW.out⟩
        · have HF : Hid (mdN a b c m = q + 1) := by have := HRD.out; rw [HM.out, HN.out, hg] at this; exact this
          have HG := fun w => Lib.hid (grows_any m (0) (decide (0 < r)) n w)
          rw [hg] at HG
          clear hg
          by_cases hq : (q : Int) < 18446744073709551615
          · have HZ : Hid (IntKind.u64.wrap ((q : Int) + 1) = ((q + 1 : Nat) : Int)) := wrapU (a := q + 1) (by omega)
            have HP1 : Hid (q + 1 < 18446744073709551616) := by show q + 1 < _; omega
            have hp0 : q + 1 ≠ 0 := by omega
            clear hq hq1
            go_wp2_with fail
            refine (HG _).out.mono ?_
            rintro e w' ⟨rfl, rfl⟩
            go_upto_region 15 with fail
            rw [HZ.out]
            clear HZ
            obtain ⟨p, hp⟩ : ∃ p, q + 1 = p := ⟨_, rfl⟩
            rw [hp] at HP1 HF hp0 ⊢
            have ep := eqz hp0
            clear hp hp0
            go_wp2_with fail
            refine (signed_any p n HP1.out _).mono ?_
            rintro e w' ⟨rfl, rfl⟩
            go_wp2_with fail
            go_ret2
            exact ⟨ret_ibw (by rw [HF.out, HN.out]) (by rw [HF.out, HN.out]), HW.out⟩
          · have HV : Hid (sgV (q + 1) n = 0 ∧ sgO (q + 1) n = false) := sgV_big n (by omega)
            have HZ : Hid (IntKind.u64.wrap ((q : Int) + 1) = 0) := by show IntKind.u64.wrap ((q : Int) + 1) = 0; rw [IntKind.wrap_u64]; omega
            clear hq hq1
            go_wp2_with fail
            refine (HG _).out.mono ?_
            rintro e w' ⟨rfl, rfl⟩
            go_upto_region 15 with fail
            rw [HZ.out]
            go_wp2_with fail
            go_ret2
            exact ⟨ret_ibw (by rw [HF.out, HN.out, HV.out.1]) (by rw [HF.out, HN.out, HV.out.2]), HW.out⟩
      · have HM : Hid (cmpN (2 * r) c.natAbs = 1) := by show cmpN _ _ = _; unfold cmpN; rw [if_neg (by omega), if_neg (by omega)]
        have h3 : (c.natAbs : Int) - r < (r : Int) := by omega
        clear h
        cases hg : grI m (1) (decide (0 < r)) n
        · have HF : Hid (mdN a b c m = q) := by have := HRD.out; rw [HM.out, HN.out, hg] at this; exact this
          have HG := fun w => Lib.hid (grows_any m (1) (decide (0 < r)) n w)
          rw [hg] at HG
          clear hg
          go_wp2_with fail
          refine (HG _).out.mono ?_
          rintro e w' ⟨rfl, rfl⟩
          go_wp2_with fail
          refine (signed_any q n HQ1.out _).mono ?_
          rintro e w' ⟨rfl, rfl⟩
          go_wp2_with fail
          go_ret2
          exact ⟨ret_ibw (by rw [HF.out, HN.out]) (by rw [HF.out, HN.out]), HW.out⟩
        · have HF : Hid (mdN a b c m = q + 1) := by have := HRD.out; rw [HM.out, HN.out, hg] at this; exact this
          have HG := fun w => Lib.hid (grows_any m (1) (decide (0 < r)) n w)
          rw [hg] at HG
          clear hg
          by_cases hq : (q : Int) < 18446744073709551615
          · have HZ : Hid (IntKind.u64.wrap ((q : Int) + 1) = ((q + 1 : Nat) : Int)) := wrapU (a := q + 1) (by omega)
            have HP1 : Hid (q + 1 < 18446744073709551616) := by show q + 1 < _; omega
            have hp0 : q + 1 ≠ 0 := by omega
            clear hq hq1
            go_wp2_with fail
            refine (HG _).out.mono ?_
            rintro e w' ⟨rfl, rfl⟩
            go_upto_region 15 with fail
            rw [HZ.out]
            clear HZ
            obtain ⟨p, hp⟩ : ∃ p, q + 1 = p := ⟨_, rfl⟩
            rw [hp] at HP1 HF hp0 ⊢
            have ep := eqz hp0
            clear hp hp0
            go_wp2_with fail
            refine (signed_any p n HP1.out _).mono ?_
            rintro e w' ⟨rfl, rfl⟩
            go_wp2_with fail
            go_ret2
            exact ⟨ret_ibw (by rw [HF.out, HN.out]) (by rw [HF.out, HN.out]), HW.out⟩
          · have HV : Hid (sgV (q + 1) n = 0 ∧ sgO (q + 1) n = false) := sgV_big n (by omega)
            have HZ : Hid (IntKind.u64.wrap ((q : Int) + 1) = 0) := by show IntKind.u64.wrap ((q : Int) + 1) = 0; rw [IntKind.wrap_u64]; omega
            clear hq hq1
            go_wp2_with fail
            refine (HG _).out.mono ?_
            rintro e w' ⟨rfl, rfl⟩
            go_upto_region 15 with fail
            rw [HZ.out]
            go_wp2_with fail
            go_ret2
            exact ⟨ret_ibw (by rw [HF.out, HN.out, HV.out.1]) (by rw [HF.out, HN.out, HV.out.2]), HW.out⟩
/-- WHAT MulDiv GIVES -/
theorem muldiv_any (a b c m : Int) (w : World) (ha : -9223372036854775808 ≤ a) (ha2 : a ≤ 9223372036854775807) (hb : -9223372036854775808 ≤ b) (hb2 : b ≤ 9223372036854775807) (hcl : -9223372036854775808 ≤ c) (hc2 : c ≤ 9223372036854775807) :
    Calls Try.prog 35 #[.int .i64 a, .int .i64 b, .int .i64 c, .int .i64 m] w fun e w' => e = .returned (.tuple #[.int .i64 (mdV a b c m), .bool (mdO a b c m)]) ∧ Below w.heap.size w w' := by
  unfold mdV mdO
  by_cases hc : c = 0
  · have e : mdG c m = false := decide_eq_false (by omega)
    rw [e]; subst hc
    exact muldiv_zero a b m w
  · by_cases hm : 0 ≤ m ∧ m ≤ 2
    · have e : mdG c m = true := decide_eq_true (by omega)
      rw [e]
      exact muldiv_yes a b c m w ha ha2 hb hb2 hcl hc2 hc hm.1 hm.2
    · have e : mdG c m = false := decide_eq_false (by omega)
      rw [e]
      exact muldiv_mode a b c m w hc (by omega)
end Go.Proofs.Ytdjopepipcnmdaa
