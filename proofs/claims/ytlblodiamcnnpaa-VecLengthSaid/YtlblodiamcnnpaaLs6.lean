/- Proved here: what the reference's rounded gives; every argument; and a number built by its bits. -/
import Derived.Test.YtlblodiamcnnpaaLs5
import Derived.Deep.CutBlock
namespace Go.Proofs.Ytlblodiamcnnpaa
open Go.RowKit
set_option linter.unusedVariables false
theorem grI_0 (more : Int) (so neg : Bool) : grI 0 more so neg = (so && neg) := if_pos rfl
theorem grI_1 (more : Int) (so neg : Bool) : grI 1 more so neg = (so && !neg) := by unfold grI; rw [if_neg (by decide), if_pos rfl]
theorem grI_2 {m more : Int} (so neg : Bool) (h0 : m ≠ 0) (h1 : m ≠ 1) : grI m more so neg = (decide (0 < more) || (decide (more = 0) && !neg)) := by unfold grI; rw [if_neg h0, if_neg h1]
def rnN (q : Nat) (m half : Int) (exact neg : Bool) : Nat := q + (if grI m half (!exact) neg then 1 else 0)
theorem sg_over {n : Nat} (neg : Bool) (h : 9223372036854775808 < n) : sgV n neg = 0 ∧ sgO n neg = false := by
  unfold sgV sgO
  cases neg
  · rw [if_neg (by decide), if_neg (by omega), if_neg (by decide)]; exact ⟨rfl, decide_eq_false (by omega)⟩
  · rw [if_pos rfl, if_neg (by omega), if_pos rfl]; exact ⟨rfl, decide_eq_false (by omega)⟩
set_option maxHeartbeats 2000000 in
theorem rounded_any (neg : Bool) (q : Nat) (exact : Bool) (half m : Int) (w : World) (hq : q < 18446744073709551616) :
    Calls Try.prog 58 #[.bool neg, .int .u64 q, .bool exact, .int .i64 half, .int .i64 m] w fun e w' => e = .returned (.tuple #[.int .i64 (sgV (rnN q m half exact neg) neg), .bool (sgO (rnN q m half exact neg) neg)]) ∧ Below w.heap.size w w' := by
  have HN : Hid (rnN q m half exact neg = q + (if grI m half (!exact) neg then 1 else 0)) := rfl
  have HQ := Lib.hid hq
  have hq1 : (q : Int) ≤ 18446744073709551615 := by omega
  go_enter Try.func58, Try.ntmps58
  first | go_upto_block 0 with fail | go_upto_block 1 with fail | go_upto_block 2 with fail | go_upto_block 3 with fail | go_upto_block 4 with fail
  go_cut [12] (fun s wx => s = .bool (grI m half (!exact) neg) ∧ w = wx)
  case first =>
    by_cases h0 : m = 0
    · subst h0
      cases neg <;> cases exact
      all_goals
        go_wp2_with fail
        go_meet
        exact ⟨by rw [grI_0]; rfl, rfl⟩
    · have e0 : (m == 0) = false := by simpa using h0
      by_cases h1 : m = 1
      · subst h1
        cases neg <;> cases exact
        all_goals
          go_wp2_with fail
          go_meet
          exact ⟨by rw [grI_1]; rfl, rfl⟩
      · have e1 : (m == 1) = false := by simpa using h1
        have HG := Lib.hid (grI_2 (more := half) (!exact) neg h0 h1)
        rcases Int.lt_trichotomy half 0 with h | h | h <;> cases neg
        all_goals
          have HH := Lib.hid h
          clear h0 h1
          go_wp2_with fail
          go_meet
          refine ⟨congrArg Value.bool ?_, rfl⟩
          rw [HG.out]
          have h := HH.out
          first
            | (rw [decide_eq_false (show ¬ 0 < half by omega), decide_eq_false (show ¬ half = 0 by omega)]; simp; try omega)
            | (rw [decide_eq_false (show ¬ 0 < half by omega), decide_eq_true (show half = 0 by omega)]; simp; try omega)
            | (rw [decide_eq_true (show 0 < half by omega)]; simp; try omega)
  case rest =>
    obtain ⟨rfl, rfl⟩ := hcut
    by_cases hb : 9223372036854775808 < q
    · have HZ : Hid (sgV (rnN q m half exact neg) neg = 0 ∧ sgO (rnN q m half exact neg) neg = false) := sg_over neg (by have := HN.out; omega)
      go_wp2_with fail
      go_ret2
      exact ⟨ret_ibw HZ.out.1.symm HZ.out.2.symm, Below.refl _ _⟩
    · obtain ⟨n, hn⟩ : ∃ n, rnN q m half exact neg = n := ⟨_, rfl⟩
      rw [hn] at HN
      have HNN := Lib.hid hn
      clear hn
      cases hg : grI m half (!exact) neg
      · have e : n = q := by have h := HN.out; rw [hg] at h; exact h
        subst e
        clear hg HN
        cases neg
        · by_cases h2 : 9223372036854775807 < n
          · go_wp2_with fail
            go_ret2
            exact ⟨ret_ibw (by rw [HNN.out]; unfold sgV; rw [if_neg (by decide), if_neg (by omega)]) (by rw [HNN.out]; unfold sgO; rw [if_neg (by decide)]; exact (decide_eq_false (by omega)).symm), Below.refl _ _⟩
          · go_wp2_with fail
            go_ret2
            exact ⟨ret_ibw (by rw [HNN.out]; unfold sgV; rw [if_neg (by decide), if_pos (by omega)]) (by rw [HNN.out]; unfold sgO; rw [if_neg (by decide)]; exact (decide_eq_true (by omega)).symm), Below.refl _ _⟩
        · by_cases h2 : n = 0
          · subst h2
            go_wp2_with fail
            go_ret2
            exact ⟨ret_ibw (by rw [HNN.out]; rfl) (by rw [HNN.out]; rfl), Below.refl _ _⟩
          · have e0 : ((n : Int) == 0) = false := by simp; omega
            go_wp2_with fail
            go_ret2
            exact ⟨ret_ibw (by rw [HNN.out]; unfold sgV; rw [if_pos rfl, if_pos (by omega)]; omega) (by rw [HNN.out]; unfold sgO; rw [if_pos rfl]; exact (decide_eq_true (by omega)).symm), Below.refl _ _⟩
      · have e : n = q + 1 := by have h := HN.out; rw [hg] at h; exact h
        have HE := Lib.hid e
        have hw : IntKind.u64.wrap ((q : Int) + 1) = (n : Int) := by rw [IntKind.wrap_u64]; omega
        have hn1 : (n : Int) ≤ 9223372036854775809 := by omega
        have hn0 : (n == 0) = false := by simp; omega
        have hn2 : ((n : Int) == 0) = false := by simp; omega
        have hn3 : ((n : Int)) ≠ 0 := by omega
        have hq2 : (q : Int) ≤ 9223372036854775808 := by omega
        clear hg HN e hb hq hq1
        cases neg
        · by_cases h2 : (9223372036854775807 : Int) < n
          · go_wp2_with fail
            go_ret2
            exact ⟨ret_ibw (by rw [HNN.out]; unfold sgV; rw [if_neg (by decide), if_neg (by omega)]) (by rw [HNN.out]; unfold sgO; rw [if_neg (by decide)]; exact (decide_eq_false (by omega)).symm), Below.refl _ _⟩
          · go_wp2_with fail
            go_ret2
            exact ⟨ret_ibw (by rw [HNN.out]; unfold sgV; rw [if_neg (by decide), if_pos (by omega)]) (by rw [HNN.out]; unfold sgO; rw [if_neg (by decide)]; exact (decide_eq_true (by omega)).symm), Below.refl _ _⟩
        · by_cases h2 : (9223372036854775808 : Int) < n
          · go_wp2_with fail
            go_ret2
            exact ⟨ret_ibw (by rw [HNN.out]; unfold sgV; rw [if_pos rfl, if_neg (by omega)]) (by rw [HNN.out]; unfold sgO; rw [if_pos rfl]; exact (decide_eq_false (by omega)).symm), Below.refl _ _⟩
          · have h3 : (0 : Int) ≤ (n : Int) - 1 := by omega
            go_wp2_with fail
            go_ret2
            exact ⟨ret_ibw (by rw [HNN.out]; unfold sgV; rw [if_pos rfl, if_pos (by omega)]; omega) (by rw [HNN.out]; unfold sgO; rw [if_pos rfl]; exact (decide_eq_true (by omega)).symm), Below.refl _ _⟩
/-- a number T that is built from its highest bit on -/
structure BI (T k q : Nat) : Prop where
  m : q % 2 ^ k = 0
  le : q ≤ T
  lt : T < q + 2 ^ k
theorem BI.start {T k : Nat} (h : T < 2 ^ k) : BI T k 0 := ⟨Nat.zero_mod _, Nat.zero_le _, by omega⟩
theorem BI.done {T q : Nat} (h : BI T 0 q) : q = T := by have := h.le; have := h.lt; simp at this; omega
theorem mod_half {q k : Nat} (h : q % 2 ^ (k + 1) = 0) : q % 2 ^ k = 0 := by
  obtain ⟨c, rfl⟩ := Nat.dvd_of_mod_eq_zero h
  rw [Nat.pow_succ, Nat.mul_assoc]; exact Nat.mul_mod_right _ _
theorem BI.yes {T k q : Nat} (h : BI T (k + 1) q) (hc : q + 2 ^ k ≤ T) : BI T k (q + 2 ^ k) := by
  refine ⟨by rw [Nat.add_mod_right]; exact mod_half h.m, hc, ?_⟩
  have := h.lt
  rw [Nat.pow_succ] at this; omega
theorem BI.no {T k q : Nat} (h : BI T (k + 1) q) (hc : ¬ q + 2 ^ k ≤ T) : BI T k q := ⟨mod_half h.m, h.le, by omega⟩
theorem BI.fits {T k q : Nat} (h : BI T (k + 1) q) (hT : T < 18446744073709551616) (hk : k + 1 ≤ 64) : q + 2 ^ k < 18446744073709551616 := by
  have h1 := h.le
  have e : (18446744073709551616 : Nat) = 2 ^ (64 - (k + 1)) * 2 ^ (k + 1) := by rw [← Nat.pow_add, show 64 - (k + 1) + (k + 1) = 64 by omega]
  obtain ⟨c, rfl⟩ := Nat.dvd_of_mod_eq_zero h.m
  have h2 : 2 ^ (k + 1) * c < 2 ^ (64 - (k + 1)) * 2 ^ (k + 1) := by rw [← e]; omega
  rw [Nat.mul_comm] at h2
  have h3 : c < 2 ^ (64 - (k + 1)) := Nat.lt_of_mul_lt_mul_right h2
  have h4 : (c + 1) * 2 ^ (k + 1) ≤ 2 ^ (64 - (k + 1)) * 2 ^ (k + 1) := Nat.mul_le_mul_right _ h3
  rw [← e, Nat.add_mul, Nat.one_mul, Nat.mul_comm c] at h4
  have : 2 ^ k < 2 ^ (k + 1) := Nat.pow_lt_pow_right (by decide) (by omega)
  omega
end Go.Proofs.Ytlblodiamcnnpaa
