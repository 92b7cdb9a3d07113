/- Proved here: the rounded quotient of the reference of chapter 24; MulDiv of package wide gives the same in the mode Near; ranges as stated. -/
import Derived.Test.YtdjopepipcnmdaaBd6
import Derived.Test.YtdjopepipcnmdaaWq1
namespace Go.Proofs.Ytdjopepipcnmdaa
open Go.RowKit
set_option linter.unusedVariables false
set_option linter.unusedSimpArgs false
theorem floor_eq {a b q r : Int} (hb : 0 < b) (h : a = b * q + r) (h0 : 0 ≤ r) (h1 : r < b) : a / b = q := by
  have := (Int.ediv_emod_unique hb (a := a) (r := r) (q := q)).2 ⟨by omega, h0, h1⟩
  exact this.1
/-- in the mode Near, by one -/
theorem md_near (s D : Int) (h1 : -1152921504606846976 ≤ s) (h2 : s ≤ 1152921504606846976) (hD : 1 ≤ D) (hD2 : D ≤ 1073741824) : mdV s 1 D 2 = (2 * s + D) / (2 * D) ∧ mdO s 1 D 2 = true := by
  have hg : mdG D 2 = true := decide_eq_true ⟨by omega, by decide, by decide⟩
  have hN : mdN s 1 D 2 = s.natAbs / D.natAbs + (if grI 2 (cmpN (2 * (s.natAbs % D.natAbs)) D.natAbs) (decide (0 < s.natAbs % D.natAbs)) (ngI s 1 D) then 1 else 0) := by
    unfold mdN rdN; rw [show s.natAbs * (1 : Int).natAbs = s.natAbs by simp]
  have hng : ngI s 1 D = decide (s < 0) := by
    unfold ngI sgI
    have : decide (D < 0) = false := decide_eq_false (by omega)
    rw [this]
    by_cases h : s < 0
    · rw [if_neg (by omega), if_neg (by omega), decide_eq_true h]; rfl
    · by_cases h0 : s = 0
      · subst h0; simp
      · rw [if_neg (by omega), if_pos (by omega), decide_eq_false h]; rfl
  obtain ⟨d, rfl⟩ := Int.eq_ofNat_of_zero_le (show 0 ≤ D by omega)
  rw [Int.natAbs_natCast] at hN
  have hd : 0 < d := by omega
  have dm := Nat.div_add_mod s.natAbs d
  have ml := Nat.mod_lt s.natAbs hd
  have dl := Nat.div_le_self s.natAbs d
  unfold mdV mdO
  rw [hg, if_pos rfl, if_pos rfl, hN, hng]
  obtain ⟨P, hP⟩ : ∃ P, s.natAbs = P := ⟨_, rfl⟩
  rw [hP] at dm ml dl ⊢
  generalize P / d = q at *
  generalize P % d = r at *
  have c0 : ((d * q : Nat) : Int) = (d : Int) * q := Int.natCast_mul d q
  have e1 : (2 * (d : Int)) * (q : Int) = 2 * ((d : Int) * q) := by grind
  have e2 : (2 * (d : Int)) * ((q : Int) + 1) = 2 * ((d : Int) * q) + 2 * d := by grind
  have e3 : (2 * (d : Int)) * (-(q : Int)) = -(2 * ((d : Int) * q)) := by grind
  have e4 : (2 * (d : Int)) * (-((q : Int) + 1)) = -(2 * ((d : Int) * q)) - 2 * d := by grind
  have hG : ∀ (more : Int) (some neg : Bool), grI 2 more some neg = (decide (0 < more) || decide (more = 0) && !neg) := fun more some neg => by unfold grI; rw [if_neg (by decide), if_neg (by decide)]
  rw [hG]
  by_cases h : s < 0
  · rw [decide_eq_true h]
    have hs : s = -(P : Int) := by omega
    by_cases hr : d < 2 * r
    · have hc : cmpN (2 * r) d = 1 := by unfold cmpN; rw [if_neg (by omega), if_neg (by omega)]
      rw [hc, if_pos (by decide)]
      unfold sgV sgO
      rw [if_pos rfl, if_pos (by omega), if_pos rfl]
      refine ⟨(floor_eq (r := 3 * (d : Int) - 2 * r) (by omega) ?_ (by omega) (by omega)).symm, decide_eq_true (by omega)⟩
      rw [show ((q + 1 : Nat) : Int) = (q : Int) + 1 by rfl, e4]; omega
    · have hc : cmpN (2 * r) d = -1 ∨ cmpN (2 * r) d = 0 := by unfold cmpN; (repeat' split) <;> omega
      have hb : (decide (0 < cmpN (2 * r) d) || decide (cmpN (2 * r) d = 0) && !true) = false := by rcases hc with hc | hc <;> rw [hc] <;> decide
      rw [hb, if_neg (by decide)]
      unfold sgV sgO
      rw [if_pos rfl, if_pos (by omega), if_pos rfl]
      refine ⟨(floor_eq (r := (d : Int) - 2 * r) (by omega) ?_ (by omega) (by omega)).symm, decide_eq_true (by omega)⟩
      rw [Nat.add_zero, e3]; omega
  · rw [decide_eq_false h]
    have hs : s = (P : Int) := by omega
    by_cases hr : d ≤ 2 * r
    · have hc : cmpN (2 * r) d = 1 ∨ cmpN (2 * r) d = 0 := by unfold cmpN; (repeat' split) <;> omega
      have hb : (decide (0 < cmpN (2 * r) d) || decide (cmpN (2 * r) d = 0) && !false) = true := by rcases hc with hc | hc <;> rw [hc] <;> decide
      rw [hb, if_pos rfl]
      unfold sgV sgO
      rw [if_neg (by decide), if_pos (by omega), if_neg (by decide)]
      refine ⟨(floor_eq (r := 2 * (r : Int) - d) (by omega) ?_ (by omega) (by omega)).symm, decide_eq_true (by omega)⟩
      rw [show ((q + 1 : Nat) : Int) = (q : Int) + 1 by rfl, e2]; omega
    · have hc : cmpN (2 * r) d = -1 := by unfold cmpN; rw [if_pos (by omega)]
      rw [hc]
      have hb : (decide ((0 : Int) < -1) || decide ((-1 : Int) = 0) && !false) = false := by decide
      rw [hb, if_neg (by decide)]
      unfold sgV sgO
      rw [if_neg (by decide), if_pos (by omega), if_neg (by decide)]
      refine ⟨(floor_eq (r := 2 * (r : Int) + d) (by omega) ?_ (by omega) (by omega)).symm, decide_eq_true (by omega)⟩
      rw [Nat.add_zero, e1]; omega
theorem tdiv_floor {n d : Int} (hd : 0 < d) : n / d = if n.tmod d < 0 then n.tdiv d - 1 else n.tdiv d := by
  have h := Int.mul_tdiv_add_tmod n d
  have h2 := Int.emod_add_mul_ediv n d
  have m0 := Int.emod_nonneg n (show d ≠ 0 by omega)
  have m1 := Int.emod_lt_of_pos n hd
  by_cases hn : 0 ≤ n
  · have e1 : n.tmod d = n % d := Int.tmod_eq_emod_of_nonneg hn
    rw [if_neg (by rw [e1]; omega), Int.tdiv_eq_ediv_of_nonneg hn]
  · have l1 : -d < n.tmod d := by
      have := Int.lt_tmod_of_pos n hd
      omega
    have l2 : n.tmod d ≤ 0 := by
      have e1 : (-n).tmod d = -(n.tmod d) := Int.neg_tmod n d
      have e2 : (-n).tmod d = (-n) % d := Int.tmod_eq_emod_of_nonneg (by omega)
      have e3 := Int.emod_nonneg (-n) (show d ≠ 0 by omega)
      omega
    split
    · exact floor_eq (r := n.tmod d + d) hd (by rw [Int.mul_sub]; omega) (by omega) (by omega)
    · exact floor_eq (r := n.tmod d) hd (by omega) (by omega) (by omega)
set_option maxHeartbeats 1000000 in
theorem roundedR_any (a b : Int) (w : World) (h1 : -1152921504606846976 ≤ a) (h2 : a ≤ 1152921504606846976) (hb : 1 ≤ b) (hb2 : b ≤ 1073741824) :
    Calls Try.prog 36 #[.int .i64 a, .int .i64 b] w fun e w' => e = .returned (.int .i64 ((2 * a + b) / (2 * b))) ∧ w = w' := by
  have HV := Lib.hid (tdiv_floor (n := 2 * a + b) (d := 2 * b) (by omega))
  have q1 : -2305843010287435776 ≤ (2 * a + b).tdiv (2 * b) ∧ (2 * a + b).tdiv (2 * b) ≤ 2305843010287435776 := by
    have h := Int.natAbs_tdiv_le_natAbs (2 * a + b) (2 * b)
    omega
  obtain ⟨q2, q3⟩ := q1
  by_cases hm : (2 * a + b).tmod (2 * b) < 0
  · have HF : Hid ((2 * a + b) / (2 * b) = (2 * a + b).tdiv (2 * b) - 1) := by show _ / _ = _; rw [HV.out, if_pos hm]
    clear HV
    obtain ⟨v, hv⟩ : ∃ v, (2 * a + b) / (2 * b) = v := ⟨_, rfl⟩
    rw [hv]
    have HF : Hid (v = (2 * a + b).tdiv (2 * b) - 1) := by show v = _; rw [← hv]; exact HF.out
    clear hv
    go_enter Try.func36, Try.ntmps36
    go_wp2_with fail
    go_ret
    exact ⟨by rw [HF.out]; rfl, rfl⟩
  · have HF : Hid ((2 * a + b) / (2 * b) = (2 * a + b).tdiv (2 * b)) := by show _ / _ = _; rw [HV.out, if_neg hm]
    clear HV
    obtain ⟨v, hv⟩ : ∃ v, (2 * a + b) / (2 * b) = v := ⟨_, rfl⟩
    rw [hv]
    have HF : Hid (v = (2 * a + b).tdiv (2 * b)) := by show v = _; rw [← hv]; exact HF.out
    clear hv
    go_enter Try.func36, Try.ntmps36
    go_wp2_with fail
    go_ret
    exact ⟨by rw [HF.out]; rfl, rfl⟩
end Go.Proofs.Ytdjopepipcnmdaa
