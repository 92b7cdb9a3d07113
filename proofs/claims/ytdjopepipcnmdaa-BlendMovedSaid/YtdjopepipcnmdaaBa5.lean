/- Proved here: the reference's Near: the quotient by a root, by its bits; |x| and r at most 2^26, x squared at most n, n at most 2^54. -/
import Derived.Test.YtdjopepipcnmdaaBa4
import Derived.Test.YtdjopepipcnmdaaYr6
namespace Go.Proofs.Ytdjopepipcnmdaa
open Go.RowKit
set_option linter.unusedVariables false
def nrT (x r n : Int) : Nat := rtN (x.natAbs * r.natAbs * (x.natAbs * r.natAbs) / n.natAbs)
def nrN (x r n : Int) : Nat := nrT x r n + (if mostI ((2 * nrT x r n + 1) * (2 * nrT x r n + 1) * n.natAbs) (2 * (x.natAbs * r.natAbs) * (2 * (x.natAbs * r.natAbs))) (decide (x < 0)) then 1 else 0)
theorem nrT_le {X r n : Nat} (hn : 0 < n) (hx : X * X ≤ n) (hb : X * r * (X * r) / n < 340282366920938463463374607431768211456) : rtN (X * r * (X * r) / n) ≤ r := by
  have s := rtN_spec _ hb
  refine Nat.le_of_not_lt fun hc => ?_
  have h1 := sq_mono (show r + 1 ≤ rtN (X * r * (X * r) / n) from hc)
  have h2 : X * r * (X * r) / n ≤ r * r := by
    refine Nat.le_of_lt_succ ((Nat.div_lt_iff_lt_mul hn).2 ?_)
    have e : X * r * (X * r) = X * X * (r * r) := by grind
    have h3 := Nat.mul_le_mul_right (r * r) hx
    rw [e, Nat.succ_mul]
    have : n * (r * r) = r * r * n := Nat.mul_comm _ _
    omega
  have e2 : (r + 1) * (r + 1) = r * r + 2 * r + 1 := by grind
  omega
theorem near_test {A d t : Nat} (hd : 0 < d) (hA : A * A < 340282366920938463463374607431768211456) : mostI (t * t * d) (A * A) false = decide (t ≤ rtN (A * A / d)) := by
  have h := ot_test (X := A * A) (d := d) (t := t) hd hA
  unfold mostI
  by_cases g : t ≤ rtN (A * A / d)
  · have h1 := h.2 g
    rw [decide_eq_true g]
    have h2 : t * t * d ≤ A * A := by unfold cmpN at h1; (repeat' split at h1) <;> omega
    rcases Nat.lt_or_eq_of_le h2 with k | k
    · rw [decide_eq_true k]; rfl
    · rw [decide_eq_true k]; simp
  · rw [decide_eq_false g]
    have h1 := mt h.1 g
    have h2 : ¬ t * t * d ≤ A * A := by
      intro h3; apply h1; unfold cmpN; (repeat' split) <;> omega
    rw [decide_eq_false (show ¬ t * t * d < A * A by omega), decide_eq_false (show ¬ t * t * d = A * A by omega)]; rfl
set_option maxHeartbeats 4000000 in
set_option maxRecDepth 20000 in
theorem near_any (x r n : Int) (w : World) (hx : -67108864 ≤ x) (hx2 : x ≤ 67108864) (hr : 0 ≤ r) (hr2 : r ≤ 67108864) (hn : 1 ≤ n) (hn2 : n ≤ 18014398509481984) (hxn : x.natAbs * x.natAbs ≤ n.natAbs) :
    Calls Try.prog 31 #[.int .i64 x, .int .i64 r, .int .i64 n] w fun e w' => e = .returned (.int .i64 (if x < 0 then -(nrN x r n : Int) else nrN x r n)) ∧ w = w' := by
  obtain ⟨R, rfl⟩ := Int.eq_ofNat_of_zero_le hr
  obtain ⟨d, rfl⟩ := Int.eq_ofNat_of_zero_le (show 0 ≤ n by omega)
  have HNN : Hid (nrN x R d = nrT x R d + (if mostI ((2 * nrT x R d + 1) * (2 * nrT x R d + 1) * d) (2 * (x.natAbs * R) * (2 * (x.natAbs * R))) (decide (x < 0)) then 1 else 0)) := rfl
  have hA := Nat.mul_le_mul (show x.natAbs ≤ 67108864 by omega) (show R ≤ 67108864 by omega)
  have hT := nrT_le (X := x.natAbs) (r := R) (n := d) (by omega) hxn (Nat.lt_of_le_of_lt (Nat.div_le_self _ _) (Nat.lt_of_le_of_lt (Nat.mul_le_mul hA hA) (by decide)))
  have HTT := fun t => Lib.hid (near_test (A := x.natAbs * R) (d := d) (t := t) (by omega) (Nat.lt_of_le_of_lt (Nat.mul_le_mul hA hA) (by decide)))
  have HTE : nrT x R d = rtN (x.natAbs * R * (x.natAbs * R) / d) := rfl
  rw [← HTE] at hT
  have HTT := fun t => Lib.hid (show mostI (t * t * d) (x.natAbs * R * (x.natAbs * R)) false = decide (t ≤ nrT x R d) from (HTT t).out)
  generalize nrN x R d = N at *
  generalize nrT x R d = T at *
  clear HTE hxn
  obtain ⟨A, hAe⟩ : ∃ A, x.natAbs * R = A := ⟨_, rfl⟩
  rw [hAe] at HTT HNN hA
  have HAE := Lib.hid hAe
  have hTb : T ≤ 67108864 := by omega
  have MO := fun t w h => Lib.hid (most_any (t * t) d A A false w h (by omega) (by omega) (by omega))
  have MF := fun st w => Lib.hid (most_any ((2 * T + 1) * (2 * T + 1)) d (2 * A) (2 * A) st w (Nat.lt_of_le_of_lt (Nat.mul_le_mul (show 2 * T + 1 ≤ 134217729 by omega) (show 2 * T + 1 ≤ 134217729 by omega)) (by decide)) (by omega) (by omega) (by omega))
  have HT := Lib.hid hTb
  have hm : max x (-x) * (R : Int) = (A : Int) := by rw [← hAe, Int.natCast_mul]; congr 1; omega
  have HMX : Hid (IntKind.u64.wrap (wrap64 (max x (-x) * (R : Int))) = (A : Int)) := by
    show IntKind.u64.wrap (wrap64 (max x (-x) * (R : Int))) = _
    rw [hm]
    have : wrap64 (A : Int) = A := by unfold wrap64; omega
    rw [this]; exact wrapU (by omega)
  have hA0 : (A : Int) ≤ 4503599627370496 := by omega
  clear hAe hT hm
  go_enter Try.func31, Try.ntmps31
  go_upto_region 2 with fail
  rewrite [HMX.out]
  go_wp2_with fail
  go_loopw [9, 10] (fun s t wr => ∃ q k : Nat, s = .int .u64 (q : Int) ∧ t = .int .u64 (bitK k : Int) ∧ k ≤ 28 ∧ BI T k q ∧ wr = w) (fun _ t _ => (intOf t).toNat)
  case atStart => exact ⟨0, 28, rfl, by rw [show bitK 28 = 134217728 by decide]; rfl, by decide, BI.start (by omega), rfl⟩
  case round =>
  obtain ⟨q, k, rfl, rfl, hk, hbi, rfl⟩ := hrel
  have HBI := Lib.hid hbi
  clear hbi
  cases k with
  | zero =>
    rw [bitK_zero]
    obtain rfl : q = T := HBI.out.done
    have hq : (q : Int) ≤ 67108864 := by omega
    clear HTT MO HBI
    have HE1 : Hid (IntKind.u64.wrap ((2 * (q : Int) + 1) * (2 * (q : Int) + 1)) = (((2 * q + 1) * (2 * q + 1) : Nat) : Int)) := by
      show IntKind.u64.wrap ((2 * (q : Int) + 1) * (2 * (q : Int) + 1)) = _
      have e : 2 * (q : Int) + 1 = ((2 * q + 1 : Nat) : Int) := by omega
      rw [e, mulU]
      exact wrapU (Nat.lt_of_le_of_lt (Nat.mul_le_mul (show 2 * q + 1 ≤ 134217729 by omega) (show 2 * q + 1 ≤ 134217729 by omega)) (by decide))
    have MF1 := MF (decide (x < 0)) wr
    rw [show ((2 * A : Nat) : Int) = 2 * (A : Int) from Int.natCast_mul 2 A] at MF1
    clear MF
    by_cases h0 : x < 0
    · rw [decide_eq_true h0] at MF1 HNN
      cases hb : mostI ((2 * q + 1) * (2 * q + 1) * d) (2 * A * (2 * A)) true
      · have HF : Hid (N = q) := by have h := HNN.out; rw [hb] at h; exact h
        rw [hb] at MF1
        clear hb HNN
        go_wp2_with fail
        rewrite [HE1.out]
        refine MF1.out.mono ?_
        rintro e w' ⟨rfl, rfl⟩
        go_wp2_with fail
        go_ret
        exact ⟨by rw [HF.out]; rfl, rfl⟩
      · have HF : Hid (N = q + 1) := by have h := HNN.out; rw [hb] at h; exact h
        rw [hb] at MF1
        clear hb HNN
        go_wp2_with fail
        rewrite [HE1.out]
        refine MF1.out.mono ?_
        rintro e w' ⟨rfl, rfl⟩
        go_wp2_with fail
        go_ret
        exact ⟨by rw [HF.out]; rfl, rfl⟩
    · rw [decide_eq_false h0] at MF1 HNN
      cases hb : mostI ((2 * q + 1) * (2 * q + 1) * d) (2 * A * (2 * A)) false
      · have HF : Hid (N = q) := by have h := HNN.out; rw [hb] at h; exact h
        rw [hb] at MF1
        clear hb HNN
        go_wp2_with fail
        rewrite [HE1.out]
        refine MF1.out.mono ?_
        rintro e w' ⟨rfl, rfl⟩
        go_wp2_with fail
        go_ret
        exact ⟨by rw [HF.out]; rfl, rfl⟩
      · have HF : Hid (N = q + 1) := by have h := HNN.out; rw [hb] at h; exact h
        rw [hb] at MF1
        clear hb HNN
        go_wp2_with fail
        rewrite [HE1.out]
        refine MF1.out.mono ?_
        rintro e w' ⟨rfl, rfl⟩
        go_wp2_with fail
        go_ret
        exact ⟨by rw [HF.out]; rfl, rfl⟩
  | succ j =>
    rw [bitK_succ]
    have HH := Lib.hid (bitK_half (j + 1))
    have hjb : 2 ^ j ≤ 134217728 := Nat.le_trans (Nat.pow_le_pow_right (by decide) (show j ≤ 27 by omega)) (by decide)
    have hj0 := Nat.pow_pos (n := j) (show 0 < 2 by decide)
    have hqT := HBI.out.le
    have HY : Hid (q + 2 ^ j ≤ T → BI T j (q + 2 ^ j)) := HBI.out.yes
    have HN : Hid (¬ q + 2 ^ j ≤ T → BI T j q) := HBI.out.no
    have HB2 : Hid (((2 ^ j : Nat) : Int) / 2 = (bitK j : Int)) := rfl
    obtain ⟨b, hb⟩ : ∃ b, 2 ^ j = b := ⟨_, rfl⟩
    rw [hb] at HY HN hjb hj0 HB2 ⊢
    clear hb HH
    obtain ⟨t, ht⟩ : ∃ t, q + b = t := ⟨_, rfl⟩
    rw [ht] at HY HN
    have HTQ : Hid ((q : Int) + b = (t : Int)) := by show _ = _; omega
    have ht1 : t ≤ 201326592 := by omega
    have htt := Nat.mul_le_mul ht1 ht1
    have hb0 : (0 : Int) < b := by omega
    go_upto_region 5 with fail
    have HSQ : Hid (IntKind.u64.wrap (((q : Int) + b) * ((q : Int) + b)) = ((t * t : Nat) : Int)) := by
      show IntKind.u64.wrap (((q : Int) + b) * ((q : Int) + b)) = _
      rw [HTQ.out, mulU]; exact wrapU (by omega)
    have HC := MO t wr (by omega)
    rw [(HTT t).out] at HC
    clear MO HTT htt
    by_cases hc : t ≤ T
    · have HQ := Lib.hid (HY.out hc)
      rw [decide_eq_true hc] at HC
      clear HY HN hc
      go_wp2_with fail
      rewrite [HSQ.out]
      refine HC.out.mono ?_
      rintro e w' ⟨rfl, rfl⟩
      go_wp2_with fail
      go_roundw
      case rel => exact ⟨t, j, by rw [← HTQ.out], by rw [← HB2.out], by omega, HQ.out, trivial⟩
      case measure => simp [intOf]; omega
    · have HQ := Lib.hid (HN.out hc)
      rw [decide_eq_false hc] at HC
      clear HY HN hc
      go_wp2_with fail
      rewrite [HSQ.out]
      refine HC.out.mono ?_
      rintro e w' ⟨rfl, rfl⟩
      go_wp2_with fail
      go_roundw
      case rel => exact ⟨q, j, rfl, by rw [← HB2.out], by omega, HQ.out, trivial⟩
      case measure => simp [intOf]; omega
end Go.Proofs.Ytdjopepipcnmdaa
