/- Proved here: the reference's root, Length, Bend and Reach; BlendReach returns true for every argument; no conditions but that integers are ints. -/
import Derived.Test.YtdjopepipcnmdaaBd4
namespace Go.Proofs.Ytdjopepipcnmdaa
open Go.RowKit
set_option linter.unusedVariables false
set_option linter.unusedSimpArgs false
set_option maxHeartbeats 4000000 in
theorem rootR_any (n : Nat) (w : World) (hN : n ≤ 1152921504606846976) :
    Calls Try.prog 37 #[.int .i64 (n : Int)] w fun e w' => e = .returned (.int .i64 (rtN n : Int)) ∧ w = w' := by
  have sp := rtN_spec n (by omega)
  have HT : Hid (rtN n ≤ 1073741824) := by
    refine Nat.le_of_not_lt fun hc => ?_
    have := sq_mono (show 1073741825 ≤ rtN n from hc)
    omega
  have HTT : ∀ t, Hid (t * t ≤ n ↔ t ≤ rtN n) := by
    intro t
    show t * t ≤ n ↔ t ≤ rtN n
    constructor
    · intro h
      refine Nat.le_of_not_lt fun hc => ?_
      have := sq_mono (show rtN n + 1 ≤ t from hc)
      omega
    · intro h; exact Nat.le_trans (sq_mono h) sp.1
  generalize rtN n = T at *
  clear sp
  have hn : (n : Int) ≤ 1152921504606846976 := by omega
  go_enter Try.func37, Try.ntmps37
  go_wp2_with fail
  go_loopw [3, 4] (fun s t wr => ∃ q k : Nat, s = .int .i64 (q : Int) ∧ t = .int .i64 (bitK k : Int) ∧ k ≤ 31 ∧ BI T k q ∧ wr = w) (fun _ t _ => (intOf t).toNat)
  case atStart => exact ⟨0, 31, rfl, by rw [show bitK 31 = 1073741824 by decide]; rfl, by decide, BI.start (by have := HT.out; omega), rfl⟩
  case round =>
  obtain ⟨q, k, rfl, rfl, hk, hbi, rfl⟩ := hrel
  have HBI := Lib.hid hbi
  clear hbi
  cases k with
  | zero =>
    rw [bitK_zero]
    obtain rfl : q = T := HBI.out.done
    clear HTT HBI
    go_wp2_with fail
    go_ret
    exact ⟨rfl, rfl⟩
  | succ j =>
    rw [bitK_succ]
    have hjb : 2 ^ j ≤ 1073741824 := Nat.le_trans (Nat.pow_le_pow_right (by decide) (show j ≤ 30 by omega)) (by decide)
    have hj0 := Nat.pow_pos (n := j) (show 0 < 2 by decide)
    have hqT := HBI.out.le
    have hT := HT.out
    have HY : Hid (q + 2 ^ j ≤ T → BI T j (q + 2 ^ j)) := HBI.out.yes
    have HN : Hid (¬ q + 2 ^ j ≤ T → BI T j q) := HBI.out.no
    have HB2 : Hid (((2 ^ j : Nat) : Int) / 2 = (bitK j : Int)) := rfl
    obtain ⟨b, hb⟩ : ∃ b, 2 ^ j = b := ⟨_, rfl⟩
    rw [hb] at HY HN hjb hj0 HB2 ⊢
    clear hb
    have hq0 : (q : Int) + b ≤ 2147483648 := by omega
    have hb0 : (0 : Int) < b := by omega
    have hqq : (q : Int) ≤ 1073741824 := by omega
    have hbb : (b : Int) ≤ 1073741824 := by omega
    have hs := Nat.mul_le_mul (show q + b ≤ 2147483648 by omega) (show q + b ≤ 2147483648 by omega)
    have es : ((q : Int) + b) * ((q : Int) + b) = (((q + b) * (q + b) : Nat) : Int) := by rw [Int.natCast_mul, Int.natCast_add]
    have s1 : 0 ≤ ((q : Int) + b) * ((q : Int) + b) := by omega
    have s2 : ((q : Int) + b) * ((q : Int) + b) ≤ 4611686018427387904 := by omega
    have tt := (HTT (q + b)).out
    by_cases hc : q + b ≤ T
    · have HQ := Lib.hid (HY.out hc)
      have c1 : ((q : Int) + b) * ((q : Int) + b) ≤ n := by have := tt.2 hc; omega
      clear HY HN hc tt es hs HTT hqT hT
      go_wp2_with fail
      go_roundw
      case rel => exact ⟨q + b, j, by go_num, by rw [← HB2.out], by omega, HQ.out, trivial⟩
      case measure => simp [intOf]; omega
    · have HQ := Lib.hid (HN.out hc)
      have c1 : ¬ ((q : Int) + b) * ((q : Int) + b) ≤ n := by have := mt tt.1 hc; omega
      clear HY HN hc tt es hs HTT hqT hT
      go_wp2_with fail
      go_roundw
      case rel => exact ⟨q, j, rfl, by rw [← HB2.out], by omega, HQ.out, trivial⟩
      case measure => simp [intOf]; omega
theorem nrI_bd2 {x r n : Int} (hx : -67108864 ≤ x) (hx2 : x ≤ 67108864) (hr : 0 ≤ r) (hr2 : r ≤ 33554432) (hn : 1 ≤ n) (hxn : x * x ≤ n) : -r ≤ nrI x r n ∧ nrI x r n ≤ r := by
  have h := (nrN_spec x r n (by omega) (by omega) hn).1
  have hX : x.natAbs * x.natAbs ≤ n.natAbs := by have := natAbs_sq' x; omega
  have h2 : nrN x r n ≤ r.natAbs := by
    generalize nrN x r n = N at *
    generalize x.natAbs = X at *
    generalize r.natAbs = R at *
    have hd : 0 < n.natAbs := by omega
    generalize n.natAbs = d at *
    have e1 : 4 * (X * R * (X * R)) = 4 * (R * R) * (X * X) := by grind
    have e2 := Nat.mul_le_mul_left (4 * (R * R)) hX
    have e3 : (2 * N - 1) * (2 * N - 1) ≤ 4 * (R * R) := Nat.le_of_mul_le_mul_right (by omega) hd
    have e4 : 2 * R * (2 * R) = 4 * (R * R) := by grind
    have := le_of_sq (a := 2 * N - 1) (b := 2 * R) (by omega)
    omega
  unfold nrI; split <;> omega
theorem sqV_up (n : Nat) (h : n ≤ 13510798882111488) : sqV (n : Int) 1 = if rtN n * rtN n < n then ((rtN n : Nat) : Int) + 1 else ((rtN n : Nat) : Int) := by
  have s := rtN_spec n (by omega)
  have hr : rootN n 1 = rtN n + (if 0 < n - rtN n * rtN n then 1 else 0) := by
    unfold rootN upI
    by_cases h : 0 < n - rtN n * rtN n
    · rw [decide_eq_true h, if_pos h]; rfl
    · rw [decide_eq_false h, if_neg h]; rfl
  have hb : rtN n ≤ 116237000 := by
    refine Nat.le_of_not_lt fun hc => ?_
    have := sq_mono (show 116237001 ≤ rtN n from hc)
    omega
  have hg : sqG (n : Int) 1 = true := decide_eq_true ⟨by omega, by decide, by decide⟩
  unfold sqV sgV
  rw [hg, if_pos rfl, if_neg (by decide), Int.toNat_natCast, if_pos (by rw [hr]; split <;> omega), hr]
  by_cases h1 : rtN n * rtN n < n
  · rw [if_pos (by omega), if_pos h1]; rfl
  · rw [if_neg (by omega), if_neg h1]; rfl
set_option maxHeartbeats 2000000 in
theorem lengthR_any (a0 a1 a2 b0 b1 b2 : Int) (w : World) (h0 : -67108864 ≤ a0 - b0 ∧ a0 - b0 ≤ 67108864) (h1 : -67108864 ≤ a1 - b1 ∧ a1 - b1 ≤ 67108864) (h2 : -67108864 ≤ a2 - b2 ∧ a2 - b2 ≤ 67108864) :
    Calls Try.prog 25 #[.agg #[.int .i64 a0, .int .i64 a1, .int .i64 a2], .agg #[.int .i64 b0, .int .i64 b1, .int .i64 b2]] w fun e w' => e = .returned (.int .i64 (sqV (sqD a0 a1 a2 b0 b1 b2) 1)) ∧ Below w.heap.size w w' := by
  have q0 := sq_bdK h0.1 h0.2
  have q1 := sq_bdK h1.1 h1.2
  have q2 := sq_bdK h2.1 h2.2
  have SQ := fun w => Lib.hid (square_any a0 a1 a2 b0 b1 b2 w h0 h1 h2)
  obtain ⟨n, hn⟩ := Int.eq_ofNat_of_zero_le (show 0 ≤ sqD a0 a1 a2 b0 b1 b2 by unfold sqD; omega)
  have hb : n ≤ 13510798882111488 := by have : sqD a0 a1 a2 b0 b1 b2 ≤ 13510798882111488 := by unfold sqD; omega
                                        omega
  have HV := Lib.hid (sqV_up n hb)
  have RT := fun w => Lib.hid (rootR_any n w (by omega))
  rw [hn] at SQ ⊢
  have hr : rtN n ≤ 116237000 := by
    have s := rtN_spec n (by omega)
    refine Nat.le_of_not_lt fun hc => ?_
    have := sq_mono (show 116237001 ≤ rtN n from hc)
    omega
  generalize sqV (n : Int) 1 = V at *
  generalize rtN n = T at *
  clear hn h0 h1 h2 q0 q1 q2
  have m := Nat.mul_le_mul hr hr
  have es : (T : Int) * T = ((T * T : Nat) : Int) := by rw [Int.natCast_mul]
  have s1 : 0 ≤ (T : Int) * T := by omega
  have s2 : (T : Int) * T ≤ 13511040169000000 := by omega
  have hT : Lf w.heap.size (w.heap.size + 1 + 1) [(⟨w.heap.size, 0, none⟩, .int .i64 a0), (⟨w.heap.size, 1, none⟩, .int .i64 a1), (⟨w.heap.size, 2, none⟩, .int .i64 a2), (⟨w.heap.size + 1, 0, none⟩, .int .i64 b0), (⟨w.heap.size + 1, 1, none⟩, .int .i64 b1), (⟨w.heap.size + 1, 2, none⟩, .int .i64 b2)] w ((w.alloc (.cells #[.int .i64 a0, .int .i64 a1, .int .i64 a2] 23)).alloc (.cells #[.int .i64 b0, .int .i64 b1, .int .i64 b2] 23)) := ⟨by simp [List.forall_mem_cons, go_sem], by simp [List.forall_mem_cons, go_sem], by simp [List.forall_mem_cons] <;> omega, by simp, by (repeat (first | exact Below.refl _ _ | assumption | refine Below.drew ?_ | (refine Below.alloc ?_ (by simp <;> omega) _) | (refine Below.setCell ?_ (by simp <;> omega) _))), by omega⟩
  by_cases hc : T * T < n
  · have HF : Hid (V = (T : Int) + 1) := by show V = _; rw [HV.out, if_pos hc]
    have c1 : (T : Int) * T < n := by omega
    have T1 : (T : Int) ≤ 116237000 := by omega
    clear HV hc es m hr
    go_enter Try.func25, Try.ntmps25
    go_wp2_with fail
    refine (SQ _).out.mono ?_
    rintro e w1 ⟨rfl, hb1⟩
    have hT := hT.next hb1
    go_wp2_with fail
    refine (RT _).out.mono ?_
    rintro e w' ⟨rfl, rfl⟩
    go_wp2_with fail
    go_ret
    exact ⟨by rw [HF.out]; rfl, hT.be⟩
  · have HF : Hid (V = (T : Int)) := by show V = _; rw [HV.out, if_neg hc]
    have c1 : ¬ (T : Int) * T < n := by omega
    have T1 : (T : Int) ≤ 116237000 := by omega
    clear HV hc es m hr
    go_enter Try.func25, Try.ntmps25
    go_wp2_with fail
    refine (SQ _).out.mono ?_
    rintro e w1 ⟨rfl, hb1⟩
    have hT := hT.next hb1
    go_wp2_with fail
    refine (RT _).out.mono ?_
    rintro e w' ⟨rfl, rfl⟩
    go_wp2_with fail
    go_ret
    exact ⟨by rw [HF.out]; rfl, hT.be⟩
set_option maxHeartbeats 2000000 in
theorem addR_any (a0 a1 a2 b0 b1 b2 : Int) (w : World) (h0 : -1000000000 ≤ a0 + b0 ∧ a0 + b0 ≤ 1000000000) (h1 : -1000000000 ≤ a1 + b1 ∧ a1 + b1 ≤ 1000000000) (h2 : -1000000000 ≤ a2 + b2 ∧ a2 + b2 ≤ 1000000000) :
    Calls Try.prog 28 #[.agg #[.int .i64 a0, .int .i64 a1, .int .i64 a2], .agg #[.int .i64 b0, .int .i64 b1, .int .i64 b2]] w fun e w' => e = .returned (.agg #[.int .i64 (a0 + b0), .int .i64 (a1 + b1), .int .i64 (a2 + b2)]) ∧ Below w.heap.size w w' := by
  obtain ⟨l0, u0⟩ := h0
  obtain ⟨l1, u1⟩ := h1
  obtain ⟨l2, u2⟩ := h2
  go_enter Try.func28, Try.ntmps28
  go_wp2_with fail
  refine bodyPost_ret (v := .agg #[.int .i64 (a0 + b0), .int .i64 (a1 + b1), .int .i64 (a2 + b2)]) (by simp [results, Try.results28, go_sem]) rfl ⟨rfl, ?_⟩
  (repeat (first | exact Below.refl _ _ | assumption | refine Below.drew ?_ | (refine Below.alloc ?_ (by simp <;> omega) _) | (refine Below.setCell ?_ (by simp <;> omega) _)))
set_option maxHeartbeats 2000000 in
theorem minusR_any (a0 a1 a2 b0 b1 b2 : Int) (w : World) (h0 : -1000000000 ≤ a0 - b0 ∧ a0 - b0 ≤ 1000000000) (h1 : -1000000000 ≤ a1 - b1 ∧ a1 - b1 ≤ 1000000000) (h2 : -1000000000 ≤ a2 - b2 ∧ a2 - b2 ≤ 1000000000) :
    Calls Try.prog 38 #[.agg #[.int .i64 a0, .int .i64 a1, .int .i64 a2], .agg #[.int .i64 b0, .int .i64 b1, .int .i64 b2]] w fun e w' => e = .returned (.agg #[.int .i64 (a0 - b0), .int .i64 (a1 - b1), .int .i64 (a2 - b2)]) ∧ Below w.heap.size w w' := by
  obtain ⟨l0, u0⟩ := h0
  obtain ⟨l1, u1⟩ := h1
  obtain ⟨l2, u2⟩ := h2
  go_enter Try.func38, Try.ntmps38
  go_wp2_with fail
  refine bodyPost_ret (v := .agg #[.int .i64 (a0 - b0), .int .i64 (a1 - b1), .int .i64 (a2 - b2)]) (by simp [results, Try.results38, go_sem]) rfl ⟨rfl, ?_⟩
  (repeat (first | exact Below.refl _ _ | assumption | refine Below.drew ?_ | (refine Below.alloc ?_ (by simp <;> omega) _) | (refine Below.setCell ?_ (by simp <;> omega) _)))
set_option maxHeartbeats 4000000 in
theorem bendR_any (p0 p1 p2 c0 c1 c2 q0 q1 q2 : Int) (w : World) (hp0 : -33554433 ≤ p0 - c0 ∧ p0 - c0 ≤ 33554433) (hq0 : -33554433 ≤ q0 - c0 ∧ q0 - c0 ≤ 33554433) (hp1 : -33554433 ≤ p1 - c1 ∧ p1 - c1 ≤ 33554433) (hq1 : -33554433 ≤ q1 - c1 ∧ q1 - c1 ≤ 33554433) (hp2 : -33554433 ≤ p2 - c2 ∧ p2 - c2 ≤ 33554433) (hq2 : -33554433 ≤ q2 - c2 ∧ q2 - c2 ≤ 33554433) (hs0 : -67108864 ≤ p0 - c0 + (q0 - c0) ∧ p0 - c0 + (q0 - c0) ≤ 67108864) (hs1 : -67108864 ≤ p1 - c1 + (q1 - c1) ∧ p1 - c1 + (q1 - c1) ≤ 67108864) (hs2 : -67108864 ≤ p2 - c2 + (q2 - c2) ∧ p2 - c2 + (q2 - c2) ≤ 67108864) :
    Calls Try.prog 27 #[.agg #[.int .i64 p0, .int .i64 p1, .int .i64 p2], .agg #[.int .i64 c0, .int .i64 c1, .int .i64 c2], .agg #[.int .i64 q0, .int .i64 q1, .int .i64 q2]] w fun e w' => e = .returned (.int .i64 (bnD p0 p1 p2 c0 c1 c2 q0 q1 q2)) ∧ Below w.heap.size w w' := by
  have HD : Hid (sqD (p0 - c0 + (q0 - c0)) (p1 - c1 + (q1 - c1)) (p2 - c2 + (q2 - c2)) 0 0 0 = bnD p0 p1 p2 c0 c1 c2 q0 q1 q2) := by
    show sqD _ _ _ 0 0 0 = bnD p0 p1 p2 c0 c1 c2 q0 q1 q2
    unfold sqD bnD
    rw [show p0 - c0 + (q0 - c0) - 0 = p0 + q0 - 2 * c0 by omega, show p1 - c1 + (q1 - c1) - 0 = p1 + q1 - 2 * c1 by omega, show p2 - c2 + (q2 - c2) - 0 = p2 + q2 - 2 * c2 by omega]
  have M1 := fun w => Lib.hid (minusR_any p0 p1 p2 c0 c1 c2 w (by omega) (by omega) (by omega))
  have M2 := fun w => Lib.hid (minusR_any q0 q1 q2 c0 c1 c2 w (by omega) (by omega) (by omega))
  have AD := fun w => Lib.hid (addR_any (p0 - c0) (p1 - c1) (p2 - c2) (q0 - c0) (q1 - c1) (q2 - c2) w (by omega) (by omega) (by omega))
  have SQ : ∀ w, Hid (Calls Try.prog 16 #[.agg #[.int .i64 (p0 - c0 + (q0 - c0)), .int .i64 (p1 - c1 + (q1 - c1)), .int .i64 (p2 - c2 + (q2 - c2))], .agg #[.int .i64 0, .int .i64 0, .int .i64 0]] w fun e w' => e = .returned (.int .i64 (bnD p0 p1 p2 c0 c1 c2 q0 q1 q2)) ∧ Below w.heap.size w w') := by
    intro w
    have h := square_any (p0 - c0 + (q0 - c0)) (p1 - c1 + (q1 - c1)) (p2 - c2 + (q2 - c2)) 0 0 0 w (by omega) (by omega) (by omega)
    rw [HD.out] at h
    exact h
  clear HD hp0 hq0 hs0 hp1 hq1 hs1 hp2 hq2 hs2
  generalize bnD p0 p1 p2 c0 c1 c2 q0 q1 q2 = D at *
  have hT : Lf w.heap.size (w.heap.size + 1 + 1 + 1) [(⟨w.heap.size, 0, none⟩, .int .i64 p0), (⟨w.heap.size, 1, none⟩, .int .i64 p1), (⟨w.heap.size, 2, none⟩, .int .i64 p2), (⟨w.heap.size + 1, 0, none⟩, .int .i64 c0), (⟨w.heap.size + 1, 1, none⟩, .int .i64 c1), (⟨w.heap.size + 1, 2, none⟩, .int .i64 c2), (⟨w.heap.size + 1 + 1, 0, none⟩, .int .i64 q0), (⟨w.heap.size + 1 + 1, 1, none⟩, .int .i64 q1), (⟨w.heap.size + 1 + 1, 2, none⟩, .int .i64 q2)] w (((w.alloc (.cells #[.int .i64 p0, .int .i64 p1, .int .i64 p2] 23)).alloc (.cells #[.int .i64 c0, .int .i64 c1, .int .i64 c2] 23)).alloc (.cells #[.int .i64 q0, .int .i64 q1, .int .i64 q2] 23)) := ⟨by simp [List.forall_mem_cons, go_sem], by simp [List.forall_mem_cons, go_sem], by simp [List.forall_mem_cons] <;> omega, by simp, by (repeat (first | exact Below.refl _ _ | assumption | refine Below.drew ?_ | (refine Below.alloc ?_ (by simp <;> omega) _) | (refine Below.setCell ?_ (by simp <;> omega) _))), by omega⟩
  go_enter Try.func27, Try.ntmps27
  go_upto_region 1 with fail
  (refine wp_region_class (Lf w.heap.size (w.heap.size + 1 + 1 + 1) [(⟨w.heap.size, 0, none⟩, .int .i64 p0), (⟨w.heap.size, 1, none⟩, .int .i64 p1), (⟨w.heap.size, 2, none⟩, .int .i64 p2), (⟨w.heap.size + 1, 0, none⟩, .int .i64 c0), (⟨w.heap.size + 1, 1, none⟩, .int .i64 c1), (⟨w.heap.size + 1, 2, none⟩, .int .i64 c2), (⟨w.heap.size + 1 + 1, 0, none⟩, .int .i64 q0), (⟨w.heap.size + 1 + 1, 1, none⟩, .int .i64 q1), (⟨w.heap.size + 1 + 1, 2, none⟩, .int .i64 q2)] w) (hT.next (Below.refl _ _).drew) (by kernel_rfl) (by kernel_rfl) ?_; repeat (refine wpQuiet_step (fun qK9 qH9 => ?_); go_simp; first | (refine qH9 _ ?_; clear qH9 qK9) | (apply Exists.intro; refine ⟨?_, qH9 _ ?_⟩; (first | (intros; rfl) | (first | (intro wx hC; ((have qk9 := (hC).cells; simp only [List.forall_mem_cons, List.not_mem_nil, false_implies, implies_true, and_true] at qk9; repeat (obtain ⟨qk8, qk9⟩ := qk9)); go_simp; first | done | rfl)) | (intro wx hC; with_reducible exact Calls.lays (M1 wx).out (fun _ => hC.next)) | (intro wx hC; with_reducible exact Calls.lays (M2 wx).out (fun _ => hC.next)) | (intro wx hC; with_reducible exact Calls.lays (AD wx).out (fun _ => hC.next)) | (intro wx hC; with_reducible exact Calls.lays (SQ wx).out (fun _ => hC.next)))); clear qH9 qK9)))
  refine wpQuiet_nil ?_
  clear hT
  intro wy hT
  go_wp2_with fail
  go_ret
  exact ⟨rfl, hT.be⟩
set_option maxHeartbeats 8000000 in
set_option maxRecDepth 20000 in
theorem permR_any (a0 a1 a2 c0 c1 c2 b0 b1 b2 tol e : Int) (w : World) (ha : Pk a0 a1 a2) (hc : Pk c0 c1 c2) (hb : Pk b0 b1 b2) (ga : 1 ≤ sqD a0 a1 a2 c0 c1 c2) (gb : 1 ≤ sqD b0 b1 b2 c0 c1 c2) (ht : 0 ≤ tol) (ht2 : tol ≤ 16000) (he : 0 ≤ e) (he2 : e ≤ 33554432)
    (BN : ∀ w, Hid (Calls Try.prog 27 #[.agg #[.int .i64 (c0 + nrI (a0 - c0) e (sqD a0 a1 a2 c0 c1 c2)), .int .i64 (c1 + nrI (a1 - c1) e (sqD a0 a1 a2 c0 c1 c2)), .int .i64 (c2 + nrI (a2 - c2) e (sqD a0 a1 a2 c0 c1 c2))], .agg #[.int .i64 c0, .int .i64 c1, .int .i64 c2], .agg #[.int .i64 (c0 + nrI (b0 - c0) e (sqD b0 b1 b2 c0 c1 c2)), .int .i64 (c1 + nrI (b1 - c1) e (sqD b0 b1 b2 c0 c1 c2)), .int .i64 (c2 + nrI (b2 - c2) e (sqD b0 b1 b2 c0 c1 c2))]] w fun x w' => x = .returned (.int .i64 (bnE a0 a1 a2 c0 c1 c2 b0 b1 b2 e)) ∧ Below w.heap.size w w')) :
    Calls Try.prog 34 #[.agg #[.int .i64 a0, .int .i64 a1, .int .i64 a2], .agg #[.int .i64 c0, .int .i64 c1, .int .i64 c2], .agg #[.int .i64 b0, .int .i64 b1, .int .i64 b2], .int .i64 tol, .int .i64 e] w fun x w' => x = .returned (.bool (pmB (moI a0 a1 a2 c0 c1 c2 b0 b1 b2) tol a0 a1 a2 c0 c1 c2 b0 b1 b2 e)) ∧ Below w.heap.size w w' := by
  have HPM : Hid (pmB (moI a0 a1 a2 c0 c1 c2 b0 b1 b2) tol a0 a1 a2 c0 c1 c2 b0 b1 b2 e = (decide (e ≤ moI a0 a1 a2 c0 c1 c2 b0 b1 b2) && decide (bnE a0 a1 a2 c0 c1 c2 b0 b1 b2 e ≤ 16 * tol * tol))) := rfl
  have HMO : Hid (moI a0 a1 a2 c0 c1 c2 b0 b1 b2 = min (sqV (sqD a0 a1 a2 c0 c1 c2) 1) (sqV (sqD c0 c1 c2 b0 b1 b2) 1) - 2) := rfl
  have TA : ∀ w, Hid (Calls Try.prog 15 #[.agg #[.int .i64 c0, .int .i64 c1, .int .i64 c2], .agg #[.int .i64 a0, .int .i64 a1, .int .i64 a2], .int .i64 e] w fun x w' => x = .returned (.tuple #[.agg #[.int .i64 (c0 + nrI (a0 - c0) e (sqD a0 a1 a2 c0 c1 c2)), .int .i64 (c1 + nrI (a1 - c1) e (sqD a0 a1 a2 c0 c1 c2)), .int .i64 (c2 + nrI (a2 - c2) e (sqD a0 a1 a2 c0 c1 c2))], .bool true]) ∧ Below w.heap.size w w') := fun w => towardR_main c0 c1 c2 a0 a1 a2 e _ _ _ w hc ha ga he he2 rfl rfl rfl
  have TB : ∀ w, Hid (Calls Try.prog 15 #[.agg #[.int .i64 c0, .int .i64 c1, .int .i64 c2], .agg #[.int .i64 b0, .int .i64 b1, .int .i64 b2], .int .i64 e] w fun x w' => x = .returned (.tuple #[.agg #[.int .i64 (c0 + nrI (b0 - c0) e (sqD b0 b1 b2 c0 c1 c2)), .int .i64 (c1 + nrI (b1 - c1) e (sqD b0 b1 b2 c0 c1 c2)), .int .i64 (c2 + nrI (b2 - c2) e (sqD b0 b1 b2 c0 c1 c2))], .bool true]) ∧ Below w.heap.size w w') := fun w => towardR_main c0 c1 c2 b0 b1 b2 e _ _ _ w hc hb gb he he2 rfl rfl rfl
  obtain ⟨x1, x2, x3, x4, x5, x6⟩ := hc
  obtain ⟨y1, y2, y3, y4, y5, y6⟩ := ha
  obtain ⟨z1, z2, z3, z4, z5, z6⟩ := hb
  have LA := fun w => Lib.hid (lengthR_any a0 a1 a2 c0 c1 c2 w (by omega) (by omega) (by omega))
  have LC := fun w => Lib.hid (lengthR_any c0 c1 c2 b0 b1 b2 w (by omega) (by omega) (by omega))
  have l1 : 0 ≤ sqV (sqD a0 a1 a2 c0 c1 c2) 1 ∧ sqV (sqD a0 a1 a2 c0 c1 c2) 1 ≤ 134217728 := by
    have q0 := sq_bdK (x := a0 - c0) (by omega) (by omega)
    have q1 := sq_bdK (x := a1 - c1) (by omega) (by omega)
    have q2 := sq_bdK (x := a2 - c2) (by omega) (by omega)
    obtain ⟨n, hn, n1, _⟩ := len_facts (sqD a0 a1 a2 c0 c1 c2) (by omega) (by unfold sqD; omega)
    rw [hn]; omega
  have l2 : 0 ≤ sqV (sqD c0 c1 c2 b0 b1 b2) 1 ∧ sqV (sqD c0 c1 c2 b0 b1 b2) 1 ≤ 134217728 := by
    have q0 := sq_bdK (x := c0 - b0) (by omega) (by omega)
    have q1 := sq_bdK (x := c1 - b1) (by omega) (by omega)
    have q2 := sq_bdK (x := c2 - b2) (by omega) (by omega)
    obtain ⟨n, hn, n1, _⟩ := len_facts (sqD c0 c1 c2 b0 b1 b2) (by unfold sqD; omega) (by unfold sqD; omega)
    rw [hn]; omega
  have tt : 0 ≤ tol * tol ∧ tol * tol ≤ 256000000 := by
    have := Int.mul_nonneg ht ht
    have h : tol * tol ≤ 16000 * 16000 := Int.mul_le_mul ht2 ht2 ht (by omega)
    omega
  have tt2 : 16 * tol * tol = 16 * (tol * tol) := by rw [Int.mul_assoc]
  have t1 : 0 ≤ 16 * tol * tol := by omega
  have t2 : 16 * tol * tol ≤ 4096000000 := by omega
  have t5 : 0 ≤ 16 * tol := by omega
  generalize pmB (moI a0 a1 a2 c0 c1 c2 b0 b1 b2) tol a0 a1 a2 c0 c1 c2 b0 b1 b2 e = PM at *
  generalize moI a0 a1 a2 c0 c1 c2 b0 b1 b2 = mo at *
  generalize sqV (sqD a0 a1 a2 c0 c1 c2) 1 = L1 at *
  generalize sqV (sqD c0 c1 c2 b0 b1 b2) 1 = L2 at *
  have WM := Lib.hid (wr_in (n := min L1 L2 - 2) (by omega) (by omega))
  generalize bnE a0 a1 a2 c0 c1 c2 b0 b1 b2 e = B at *
  generalize c0 + nrI (a0 - c0) e (sqD a0 a1 a2 c0 c1 c2) = p0 at *
  generalize c1 + nrI (a1 - c1) e (sqD a0 a1 a2 c0 c1 c2) = p1 at *
  generalize c2 + nrI (a2 - c2) e (sqD a0 a1 a2 c0 c1 c2) = p2 at *
  generalize c0 + nrI (b0 - c0) e (sqD b0 b1 b2 c0 c1 c2) = r0 at *
  generalize c1 + nrI (b1 - c1) e (sqD b0 b1 b2 c0 c1 c2) = r1 at *
  generalize c2 + nrI (b2 - c2) e (sqD b0 b1 b2 c0 c1 c2) = r2 at *
  clear ga gb tt tt2 l1 l2
  have hT : Lf w.heap.size (w.heap.size + 1 + 1 + 1) [(⟨w.heap.size, 0, none⟩, .int .i64 a0), (⟨w.heap.size, 1, none⟩, .int .i64 a1), (⟨w.heap.size, 2, none⟩, .int .i64 a2), (⟨w.heap.size + 1, 0, none⟩, .int .i64 c0), (⟨w.heap.size + 1, 1, none⟩, .int .i64 c1), (⟨w.heap.size + 1, 2, none⟩, .int .i64 c2), (⟨w.heap.size + 1 + 1, 0, none⟩, .int .i64 b0), (⟨w.heap.size + 1 + 1, 1, none⟩, .int .i64 b1), (⟨w.heap.size + 1 + 1, 2, none⟩, .int .i64 b2)] w (((w.alloc (.cells #[.int .i64 a0, .int .i64 a1, .int .i64 a2] 23)).alloc (.cells #[.int .i64 c0, .int .i64 c1, .int .i64 c2] 23)).alloc (.cells #[.int .i64 b0, .int .i64 b1, .int .i64 b2] 23)) := ⟨by simp [List.forall_mem_cons, go_sem], by simp [List.forall_mem_cons, go_sem], by simp [List.forall_mem_cons] <;> omega, by simp, by (repeat (first | exact Below.refl _ _ | assumption | refine Below.drew ?_ | (refine Below.alloc ?_ (by simp <;> omega) _) | (refine Below.setCell ?_ (by simp <;> omega) _))), by omega⟩
  go_enter Try.func34, Try.ntmps34
  go_upto_region 1 with fail
  (refine wp_region_class (Lf w.heap.size (w.heap.size + 1 + 1 + 1) [(⟨w.heap.size, 0, none⟩, .int .i64 a0), (⟨w.heap.size, 1, none⟩, .int .i64 a1), (⟨w.heap.size, 2, none⟩, .int .i64 a2), (⟨w.heap.size + 1, 0, none⟩, .int .i64 c0), (⟨w.heap.size + 1, 1, none⟩, .int .i64 c1), (⟨w.heap.size + 1, 2, none⟩, .int .i64 c2), (⟨w.heap.size + 1 + 1, 0, none⟩, .int .i64 b0), (⟨w.heap.size + 1 + 1, 1, none⟩, .int .i64 b1), (⟨w.heap.size + 1 + 1, 2, none⟩, .int .i64 b2)] w) (hT.next (Below.refl _ _).drew) (by kernel_rfl) (by kernel_rfl) ?_; repeat (refine wpQuiet_step (fun qK9 qH9 => ?_); go_simp; first | (refine qH9 _ ?_; clear qH9 qK9) | (apply Exists.intro; refine ⟨?_, qH9 _ ?_⟩; (first | (intros; rfl) | (first | (intro wx hC; ((have qk9 := (hC).cells; simp only [List.forall_mem_cons, List.not_mem_nil, false_implies, implies_true, and_true] at qk9; repeat (obtain ⟨qk8, qk9⟩ := qk9)); go_simp; first | done | rfl)) | (intro wx hC; with_reducible exact Calls.lays (LA wx).out (fun _ => hC.next)) | (intro wx hC; with_reducible exact Calls.lays (LC wx).out (fun _ => hC.next)))); clear qH9 qK9)))
  refine wpQuiet_nil ?_
  clear hT
  intro wy hT
  rewrite [WM.out, ← HMO.out]
  clear WM HMO LA LC
  by_cases hm1 : e ≤ mo
  · have hm3 : decide (mo < e) = false := decide_eq_false (by omega)
    have kc := hT.cells
    have kf := hT.frz
    simp only [List.forall_mem_cons, List.not_mem_nil, false_implies, implies_true, and_true] at kc kf
    obtain ⟨yc0, yc1, yc2, yc3, yc4, yc5, yc6, yc7, yc8⟩ := kc
    obtain ⟨yf0, yf1, yf2, yf3, yf4, yf5, yf6, yf7, yf8⟩ := kf
    have HF : Hid (PM = decide (B ≤ 16 * tol * tol)) := by show PM = _; rw [HPM.out, decide_eq_true hm1]; simp
    clear HPM
    go_wp2_with fail
    refine (TA _).out.mono ?_
    rintro e w1 ⟨rfl, hb1⟩
    have hT1 := hT.next hb1
    have hz1 := hT1.lt
    clear yc0 yf0 yc1 yf1 yc2 yf2 yc3 yf3 yc4 yf4 yc5 yf5 yc6 yf6 yc7 yf7 yc8 yf8
    go_upto_region 4 with fail
    refine wp_cls (Lf w.heap.size (w1.heap.size + 1) [(⟨w1.heap.size, 0, none⟩, .int .i64 p0), (⟨w1.heap.size, 1, none⟩, .int .i64 p1), (⟨w1.heap.size, 2, none⟩, .int .i64 p2), (⟨w.heap.size, 0, none⟩, .int .i64 a0), (⟨w.heap.size, 1, none⟩, .int .i64 a1), (⟨w.heap.size, 2, none⟩, .int .i64 a2), (⟨w.heap.size + 1, 0, none⟩, .int .i64 c0), (⟨w.heap.size + 1, 1, none⟩, .int .i64 c1), (⟨w.heap.size + 1, 2, none⟩, .int .i64 c2), (⟨w.heap.size + 1 + 1, 0, none⟩, .int .i64 b0), (⟨w.heap.size + 1 + 1, 1, none⟩, .int .i64 b1), (⟨w.heap.size + 1 + 1, 2, none⟩, .int .i64 b2)] w) (hT1.push #[.int .i64 p0, .int .i64 p1, .int .i64 p2] 23) ?_
    intro wx hT2
    have kc := hT2.cells
    have kf := hT2.frz
    simp only [List.forall_mem_cons, List.not_mem_nil, false_implies, implies_true, and_true] at kc kf
    obtain ⟨yc0, yc1, yc2, yc3, yc4, yc5, yc6, yc7, yc8, yc9, yc10, yc11⟩ := kc
    obtain ⟨yf0, yf1, yf2, yf3, yf4, yf5, yf6, yf7, yf8, yf9, yf10, yf11⟩ := kf
    go_wp2_with fail
    refine (TB _).out.mono ?_
    rintro e w2 ⟨rfl, hb2⟩
    have hT3 := hT2.next hb2
    have hz2 := hT3.lt
    clear yc0 yf0 yc1 yf1 yc2 yf2 yc3 yf3 yc4 yf4 yc5 yf5 yc6 yf6 yc7 yf7 yc8 yf8 yc9 yf9 yc10 yf10 yc11 yf11
    go_upto_region 5 with fail
    refine wp_cls (Lf w.heap.size (w2.heap.size + 1) [(⟨w2.heap.size, 0, none⟩, .int .i64 r0), (⟨w2.heap.size, 1, none⟩, .int .i64 r1), (⟨w2.heap.size, 2, none⟩, .int .i64 r2), (⟨w1.heap.size, 0, none⟩, .int .i64 p0), (⟨w1.heap.size, 1, none⟩, .int .i64 p1), (⟨w1.heap.size, 2, none⟩, .int .i64 p2), (⟨w.heap.size, 0, none⟩, .int .i64 a0), (⟨w.heap.size, 1, none⟩, .int .i64 a1), (⟨w.heap.size, 2, none⟩, .int .i64 a2), (⟨w.heap.size + 1, 0, none⟩, .int .i64 c0), (⟨w.heap.size + 1, 1, none⟩, .int .i64 c1), (⟨w.heap.size + 1, 2, none⟩, .int .i64 c2), (⟨w.heap.size + 1 + 1, 0, none⟩, .int .i64 b0), (⟨w.heap.size + 1 + 1, 1, none⟩, .int .i64 b1), (⟨w.heap.size + 1 + 1, 2, none⟩, .int .i64 b2)] w) (hT3.push #[.int .i64 r0, .int .i64 r1, .int .i64 r2] 23) ?_
    intro wy hT4
    have kc := hT4.cells
    have kf := hT4.frz
    simp only [List.forall_mem_cons, List.not_mem_nil, false_implies, implies_true, and_true] at kc kf
    obtain ⟨yc0, yc1, yc2, yc3, yc4, yc5, yc6, yc7, yc8, yc9, yc10, yc11, yc12, yc13, yc14⟩ := kc
    obtain ⟨yf0, yf1, yf2, yf3, yf4, yf5, yf6, yf7, yf8, yf9, yf10, yf11, yf12, yf13, yf14⟩ := kf
    go_wp2_with fail
    refine (BN _).out.mono ?_
    rintro e w3 ⟨rfl, hb3⟩
    have hT4 := hT4.next hb3
    clear yc0 yf0 yc1 yf1 yc2 yf2 yc3 yf3 yc4 yf4 yc5 yf5 yc6 yf6 yc7 yf7 yc8 yf8 yc9 yf9 yc10 yf10 yc11 yf11 yc12 yf12 yc13 yf13 yc14 yf14
    go_wp2_with fail
    go_ret
    exact ⟨by rw [HF.out]; rfl, hT4.be⟩
  · have hm3 : decide (mo < e) = true := decide_eq_true (by omega)
    have HF : Hid (PM = false) := by show PM = false; rw [HPM.out, decide_eq_false hm1]; simp
    clear HPM
    go_wp2_with fail
    go_ret
    exact ⟨by rw [HF.out]; rfl, hT.be⟩
set_option maxHeartbeats 2000000 in
theorem reachR_sameA (c0 c1 c2 b0 b1 b2 tol : Int) (w : World) :
    Calls Try.prog 19 #[.agg #[.int .i64 c0, .int .i64 c1, .int .i64 c2], .agg #[.int .i64 c0, .int .i64 c1, .int .i64 c2], .agg #[.int .i64 b0, .int .i64 b1, .int .i64 b2], .int .i64 tol] w fun e w' => e = .returned (.int .i64 0) ∧ Below w.heap.size w w' := by
  skip
  all_goals
    go_enter Try.func19, Try.ntmps19
    go_wp2_with fail
    go_ret
    refine ⟨rfl, ?_⟩
    (repeat (first | exact Below.refl _ _ | assumption | refine Below.drew ?_ | (refine Below.alloc ?_ (by simp <;> omega) _) | (refine Below.setCell ?_ (by simp <;> omega) _)))
set_option maxHeartbeats 2000000 in
theorem reachR_sameC (a0 a1 a2 c0 c1 c2 tol : Int) (w : World) :
    Calls Try.prog 19 #[.agg #[.int .i64 a0, .int .i64 a1, .int .i64 a2], .agg #[.int .i64 c0, .int .i64 c1, .int .i64 c2], .agg #[.int .i64 c0, .int .i64 c1, .int .i64 c2], .int .i64 tol] w fun e w' => e = .returned (.int .i64 0) ∧ Below w.heap.size w w' := by
  cases hb : (a0 == c0 && a1 == c1 && a2 == c2)
  all_goals
    go_enter Try.func19, Try.ntmps19
    go_wp2_with fail
    go_ret
    refine ⟨rfl, ?_⟩
    (repeat (first | exact Below.refl _ _ | assumption | refine Below.drew ?_ | (refine Below.alloc ?_ (by simp <;> omega) _) | (refine Below.setCell ?_ (by simp <;> omega) _)))
set_option maxHeartbeats 8000000 in
set_option maxRecDepth 20000 in
theorem reachR_main (a0 a1 a2 c0 c1 c2 b0 b1 b2 tol : Int) (w : World) (ha : Pk a0 a1 a2) (hc : Pk c0 c1 c2) (hb : Pk b0 b1 b2) (na : (a0 == c0 && a1 == c1 && a2 == c2) = false) (nb : (b0 == c0 && b1 == c1 && b2 == c2) = false) (ht : 0 ≤ tol) (ht2 : tol ≤ 16000) :
    Calls Try.prog 19 #[.agg #[.int .i64 a0, .int .i64 a1, .int .i64 a2], .agg #[.int .i64 c0, .int .i64 c1, .int .i64 c2], .agg #[.int .i64 b0, .int .i64 b1, .int .i64 b2], .int .i64 tol] w fun e w' => e = .returned (.int .i64 (rcI a0 a1 a2 c0 c1 c2 b0 b1 b2 tol)) ∧ Below w.heap.size w w' := by
  have ga := sameB_f na
  have gb := sameB_f nb
  have HRI : Hid (rcI a0 a1 a2 c0 c1 c2 b0 b1 b2 tol = if rcG (moI a0 a1 a2 c0 c1 c2 b0 b1 b2) tol a0 a1 a2 c0 c1 c2 b0 b1 b2 25 0 < 16 then 0 else rcG (moI a0 a1 a2 c0 c1 c2 b0 b1 b2) tol a0 a1 a2 c0 c1 c2 b0 b1 b2 25 0) := rfl
  have PE : ∀ e w, 0 ≤ e → e ≤ 33554432 → Hid (Calls Try.prog 34 #[.agg #[.int .i64 a0, .int .i64 a1, .int .i64 a2], .agg #[.int .i64 c0, .int .i64 c1, .int .i64 c2], .agg #[.int .i64 b0, .int .i64 b1, .int .i64 b2], .int .i64 tol, .int .i64 e] w fun x w' => x = .returned (.bool (pmB (moI a0 a1 a2 c0 c1 c2 b0 b1 b2) tol a0 a1 a2 c0 c1 c2 b0 b1 b2 e)) ∧ Below w.heap.size w w') := by
    intro e w h1 h2
    refine permR_any a0 a1 a2 c0 c1 c2 b0 b1 b2 tol e w ha hc hb ga gb ht ht2 h1 h2 ?_
    intro w
    obtain ⟨x1, x2, x3, x4, x5, x6⟩ := hc
    obtain ⟨y1, y2, y3, y4, y5, y6⟩ := ha
    obtain ⟨z1, z2, z3, z4, z5, z6⟩ := hb
    have ua : sqD a0 a1 a2 c0 c1 c2 = (a0 - c0) * (a0 - c0) + (a1 - c1) * (a1 - c1) + (a2 - c2) * (a2 - c2) := rfl
    have qa0 := sq_nn (a0 - c0)
    have qa1 := sq_nn (a1 - c1)
    have qa2 := sq_nn (a2 - c2)
    have va0 := nrI_bd2 (x := a0 - c0) (r := e) (n := sqD a0 a1 a2 c0 c1 c2) (by omega) (by omega) h1 h2 ga (by omega)
    have va1 := nrI_bd2 (x := a1 - c1) (r := e) (n := sqD a0 a1 a2 c0 c1 c2) (by omega) (by omega) h1 h2 ga (by omega)
    have va2 := nrI_bd2 (x := a2 - c2) (r := e) (n := sqD a0 a1 a2 c0 c1 c2) (by omega) (by omega) h1 h2 ga (by omega)
    have ub : sqD b0 b1 b2 c0 c1 c2 = (b0 - c0) * (b0 - c0) + (b1 - c1) * (b1 - c1) + (b2 - c2) * (b2 - c2) := rfl
    have qb0 := sq_nn (b0 - c0)
    have qb1 := sq_nn (b1 - c1)
    have qb2 := sq_nn (b2 - c2)
    have vb0 := nrI_bd2 (x := b0 - c0) (r := e) (n := sqD b0 b1 b2 c0 c1 c2) (by omega) (by omega) h1 h2 gb (by omega)
    have vb1 := nrI_bd2 (x := b1 - c1) (r := e) (n := sqD b0 b1 b2 c0 c1 c2) (by omega) (by omega) h1 h2 gb (by omega)
    have vb2 := nrI_bd2 (x := b2 - c2) (r := e) (n := sqD b0 b1 b2 c0 c1 c2) (by omega) (by omega) h1 h2 gb (by omega)
    exact bendR_any _ _ _ c0 c1 c2 _ _ _ w ⟨by omega, by omega⟩ ⟨by omega, by omega⟩ ⟨by omega, by omega⟩ ⟨by omega, by omega⟩ ⟨by omega, by omega⟩ ⟨by omega, by omega⟩ ⟨by omega, by omega⟩ ⟨by omega, by omega⟩ ⟨by omega, by omega⟩
  have HG0 : ∀ mo d, Hid (rcG mo tol a0 a1 a2 c0 c1 c2 b0 b1 b2 0 d = d) := fun _ _ => rfl
  have HG1 : ∀ mo k d, Hid (rcG mo tol a0 a1 a2 c0 c1 c2 b0 b1 b2 (k + 1) d = if pmB mo tol a0 a1 a2 c0 c1 c2 b0 b1 b2 (d + ((2 ^ k : Nat) : Int)) then rcG mo tol a0 a1 a2 c0 c1 c2 b0 b1 b2 k (d + ((2 ^ k : Nat) : Int)) else rcG mo tol a0 a1 a2 c0 c1 c2 b0 b1 b2 k d) := fun _ _ _ => rfl
  generalize moI a0 a1 a2 c0 c1 c2 b0 b1 b2 = mo at *
  generalize rcI a0 a1 a2 c0 c1 c2 b0 b1 b2 tol = RI at *
  clear ga gb ha hc hb ht ht2
  have hT : Lf w.heap.size (w.heap.size + 1 + 1 + 1) [(⟨w.heap.size, 0, none⟩, .int .i64 a0), (⟨w.heap.size, 1, none⟩, .int .i64 a1), (⟨w.heap.size, 2, none⟩, .int .i64 a2), (⟨w.heap.size + 1, 0, none⟩, .int .i64 c0), (⟨w.heap.size + 1, 1, none⟩, .int .i64 c1), (⟨w.heap.size + 1, 2, none⟩, .int .i64 c2), (⟨w.heap.size + 1 + 1, 0, none⟩, .int .i64 b0), (⟨w.heap.size + 1 + 1, 1, none⟩, .int .i64 b1), (⟨w.heap.size + 1 + 1, 2, none⟩, .int .i64 b2)] w (((w.alloc (.cells #[.int .i64 a0, .int .i64 a1, .int .i64 a2] 23)).alloc (.cells #[.int .i64 c0, .int .i64 c1, .int .i64 c2] 23)).alloc (.cells #[.int .i64 b0, .int .i64 b1, .int .i64 b2] 23)) := ⟨by simp [List.forall_mem_cons, go_sem], by simp [List.forall_mem_cons, go_sem], by simp [List.forall_mem_cons] <;> omega, by simp, by (repeat (first | exact Below.refl _ _ | assumption | refine Below.drew ?_ | (refine Below.alloc ?_ (by simp <;> omega) _) | (refine Below.setCell ?_ (by simp <;> omega) _))), by omega⟩
  go_enter Try.func19, Try.ntmps19
  go_wp2_with fail
  go_loopw [9, 10] (fun s t wr => ∃ (q : Int) (j : Nat), s = .int .i64 q ∧ t = .int .i64 (bitK j : Int) ∧ j ≤ 25 ∧ rcG mo tol a0 a1 a2 c0 c1 c2 b0 b1 b2 j q = rcG mo tol a0 a1 a2 c0 c1 c2 b0 b1 b2 25 0 ∧ 0 ≤ q ∧ q + ((2 ^ j : Nat) : Int) ≤ 33554432 ∧ Lf w.heap.size (w.heap.size + 1 + 1 + 1) [(⟨w.heap.size, 0, none⟩, .int .i64 a0), (⟨w.heap.size, 1, none⟩, .int .i64 a1), (⟨w.heap.size, 2, none⟩, .int .i64 a2), (⟨w.heap.size + 1, 0, none⟩, .int .i64 c0), (⟨w.heap.size + 1, 1, none⟩, .int .i64 c1), (⟨w.heap.size + 1, 2, none⟩, .int .i64 c2), (⟨w.heap.size + 1 + 1, 0, none⟩, .int .i64 b0), (⟨w.heap.size + 1 + 1, 1, none⟩, .int .i64 b1), (⟨w.heap.size + 1 + 1, 2, none⟩, .int .i64 b2)] w wr) (fun _ t _ => (intOf t).toNat)
  case atStart => exact ⟨0, 25, rfl, by rw [show bitK 25 = 16777216 by decide]; rfl, by decide, rfl, by decide, by decide, hT⟩
  case round =>
  clear hT
  obtain ⟨q, j, rfl, rfl, hj, hr, hq0, hqb, hT⟩ := hrel
  cases j with
  | zero =>
    rw [bitK_zero]
    have hq : rcG mo tol a0 a1 a2 c0 c1 c2 b0 b1 b2 25 0 = q := hr.symm.trans (HG0 mo q).out
    by_cases h16 : q < 16
    · have HF : Hid (RI = 0) := by show RI = 0; rw [HRI.out, hq, if_pos h16]
      clear HG0 HG1 PE HRI hq hr hqb
      go_wp2_with fail
      go_ret
      exact ⟨by rw [HF.out]; rfl, hT.be⟩
    · have HF : Hid (RI = q) := by show RI = q; rw [HRI.out, hq, if_neg h16]
      clear HG0 HG1 PE HRI hq hr hqb
      go_wp2_with fail
      go_ret
      exact ⟨by rw [HF.out]; rfl, hT.be⟩
  | succ k =>
    rw [bitK_succ]
    have hg := (HG1 mo k q).out
    rw [hr] at hg
    have HB2 : Hid (((2 ^ k : Nat) : Int) / 2 = (bitK k : Int)) := rfl
    have hb0 := Nat.pow_pos (n := k) (show 0 < 2 by decide)
    have h2 : 2 ^ (k + 1) = 2 * 2 ^ k := by rw [Nat.pow_succ]; omega
    rw [h2] at hqb
    obtain ⟨b, hb⟩ : ∃ b, 2 ^ k = b := ⟨_, rfl⟩
    rw [hb] at hqb hg HB2 hb0 ⊢
    have HB3 : Hid ((2 ^ k : Nat) = b) := hb
    clear h2 hb hr
    have hb1 : (0 : Int) < b := by omega
    have e1 : q + (b : Int) ≤ 33554432 := by omega
    have PE1 := fun w => PE (q + (b : Int)) w (by omega) e1
    clear HG0 HG1 PE HRI
    have kc := hT.cells
    have kf := hT.frz
    simp only [List.forall_mem_cons, List.not_mem_nil, false_implies, implies_true, and_true] at kc kf
    obtain ⟨yc0, yc1, yc2, yc3, yc4, yc5, yc6, yc7, yc8⟩ := kc
    obtain ⟨yf0, yf1, yf2, yf3, yf4, yf5, yf6, yf7, yf8⟩ := kf
    cases hp : pmB mo tol a0 a1 a2 c0 c1 c2 b0 b1 b2 (q + (b : Int))
    · have HN : Hid (rcG mo tol a0 a1 a2 c0 c1 c2 b0 b1 b2 k q = rcG mo tol a0 a1 a2 c0 c1 c2 b0 b1 b2 25 0) := by
        rw [hp, if_neg (by decide)] at hg; exact hg.symm
      rw [hp] at PE1
      clear hg hp
      go_wp2_with fail
      refine (PE1 _).out.mono ?_
      rintro e w1 ⟨rfl, hb1⟩
      have hT := hT.next hb1
      clear yc0 yf0 yc1 yf1 yc2 yf2 yc3 yf3 yc4 yf4 yc5 yf5 yc6 yf6 yc7 yf7 yc8 yf8
      go_wp2_with fail
      go_roundw
      case rel => exact ⟨q, k, rfl, by rw [← HB2.out], by omega, HN.out, by omega, by rw [HB3.out]; omega, hT⟩
      case measure => simp [intOf]; omega
    · have HN : Hid (rcG mo tol a0 a1 a2 c0 c1 c2 b0 b1 b2 k (q + (b : Int)) = rcG mo tol a0 a1 a2 c0 c1 c2 b0 b1 b2 25 0) := by
        rw [hp, if_pos rfl] at hg; exact hg.symm
      rw [hp] at PE1
      clear hg hp
      go_wp2_with fail
      refine (PE1 _).out.mono ?_
      rintro e w1 ⟨rfl, hb1⟩
      have hT := hT.next hb1
      clear yc0 yf0 yc1 yf1 yc2 yf2 yc3 yf3 yc4 yf4 yc5 yf5 yc6 yf6 yc7 yf7 yc8 yf8
      go_wp2_with fail
      go_roundw
      case rel => exact ⟨q + (b : Int), k, rfl, by rw [← HB2.out], by omega, HN.out, by omega, by rw [HB3.out]; omega, hT⟩
      case measure => simp [intOf]; omega
theorem reach_any (a0 a1 a2 c0 c1 c2 b0 b1 b2 tol : Int) (ha : Pk a0 a1 a2) (hc : Pk c0 c1 c2) (hb : Pk b0 b1 b2) (ht : 0 ≤ tol) (ht2 : tol ≤ 16000) :
    ∃ r : Int, (∀ w, Hid (Calls Try.prog 18 #[.agg #[.int .i64 a0, .int .i64 a1, .int .i64 a2], .agg #[.int .i64 c0, .int .i64 c1, .int .i64 c2], .agg #[.int .i64 b0, .int .i64 b1, .int .i64 b2], .int .i64 tol] w fun e w' => e = .returned (.int .i64 r) ∧ Below w.heap.size w w')) ∧ (∀ w, Hid (Calls Try.prog 19 #[.agg #[.int .i64 a0, .int .i64 a1, .int .i64 a2], .agg #[.int .i64 c0, .int .i64 c1, .int .i64 c2], .agg #[.int .i64 b0, .int .i64 b1, .int .i64 b2], .int .i64 tol] w fun e w' => e = .returned (.int .i64 r) ∧ Below w.heap.size w w')) ∧
      (r = if sameB a0 a1 a2 c0 c1 c2 || sameB b0 b1 b2 c0 c1 c2 then 0 else rcI a0 a1 a2 c0 c1 c2 b0 b1 b2 tol) := by
  cases h1 : sameB a0 a1 a2 c0 c1 c2
  · cases h2 : sameB b0 b1 b2 c0 c1 c2
    · exact ⟨rcI a0 a1 a2 c0 c1 c2 b0 b1 b2 tol, fun w => reachP_main a0 a1 a2 c0 c1 c2 b0 b1 b2 tol w ha hc hb h1 h2 ht ht2, fun w => reachR_main a0 a1 a2 c0 c1 c2 b0 b1 b2 tol w ha hc hb h1 h2 ht ht2, (if_neg (by decide)).symm⟩
    · obtain ⟨rfl, rfl, rfl⟩ := sameB_t h2
      exact ⟨0, fun w => reachP_sameC a0 a1 a2 b0 b1 b2 tol w, fun w => reachR_sameC a0 a1 a2 b0 b1 b2 tol w, (if_pos (by simp)).symm⟩
  · obtain ⟨rfl, rfl, rfl⟩ := sameB_t h1
    exact ⟨0, fun w => reachP_sameA a0 a1 a2 b0 b1 b2 tol w, fun w => reachR_sameA a0 a1 a2 b0 b1 b2 tol w, (if_pos (by simp)).symm⟩
/-- which corners are small -/
def smK (a0 a1 a2 c0 c1 c2 b0 b1 b2 tol : Int) : Bool := smB 33554432 a0 a1 a2 && (smB 33554432 c0 c1 c2 && (smB 33554432 b0 b1 b2 && (decide (0 ≤ tol) && decide (tol ≤ 16000))))
theorem smK_t {a0 a1 a2 c0 c1 c2 b0 b1 b2 tol : Int} (h : smK a0 a1 a2 c0 c1 c2 b0 b1 b2 tol = true) : Pk a0 a1 a2 ∧ Pk c0 c1 c2 ∧ Pk b0 b1 b2 ∧ 0 ≤ tol ∧ tol ≤ 16000 := by
  unfold smK at h
  rw [Bool.and_eq_true, Bool.and_eq_true, Bool.and_eq_true, Bool.and_eq_true, decide_eq_true_eq, decide_eq_true_eq] at h
  exact ⟨smB_pk h.1, smB_pk h.2.1, smB_pk h.2.2.1, h.2.2.2⟩
set_option maxHeartbeats 4000000 in
set_option maxRecDepth 20000 in
theorem small3_aux (a0 a1 a2 c0 c1 c2 b0 b1 b2 tol : Int) (A C B : Bool) (w : World) (SA : ∀ w, Hid (Calls Try.prog 13 #[.agg #[.int .i64 a0, .int .i64 a1, .int .i64 a2]] w fun e w' => e = .returned (.bool A) ∧ Below w.heap.size w w')) (SC : ∀ w, Hid (Calls Try.prog 13 #[.agg #[.int .i64 c0, .int .i64 c1, .int .i64 c2]] w fun e w' => e = .returned (.bool C) ∧ Below w.heap.size w w')) (SB : ∀ w, Hid (Calls Try.prog 13 #[.agg #[.int .i64 b0, .int .i64 b1, .int .i64 b2]] w fun e w' => e = .returned (.bool B) ∧ Below w.heap.size w w')) : Calls Try.prog 17 #[.agg #[.int .i64 a0, .int .i64 a1, .int .i64 a2], .agg #[.int .i64 c0, .int .i64 c1, .int .i64 c2], .agg #[.int .i64 b0, .int .i64 b1, .int .i64 b2], .int .i64 tol] w fun e w' => e = .returned (.bool (A && (C && (B && (decide (0 ≤ tol) && decide (tol ≤ 16000)))))) ∧ Below w.heap.size w w' := by
  have HK : Hid ((A && (C && (B && (decide (0 ≤ tol) && decide (tol ≤ 16000))))) = (A && (C && (B && (decide (0 ≤ tol) && decide (tol ≤ 16000)))))) := rfl
  obtain ⟨K, hK⟩ : ∃ K, (A && (C && (B && (decide (0 ≤ tol) && decide (tol ≤ 16000))))) = K := ⟨_, rfl⟩
  rw [hK]
  have HK : Hid (K = (A && (C && (B && (decide (0 ≤ tol) && decide (tol ≤ 16000)))))) := hK.symm
  clear hK
  have hT : Lf w.heap.size (w.heap.size + 1 + 1 + 1) [(⟨w.heap.size, 0, none⟩, .int .i64 a0), (⟨w.heap.size, 1, none⟩, .int .i64 a1), (⟨w.heap.size, 2, none⟩, .int .i64 a2), (⟨w.heap.size + 1, 0, none⟩, .int .i64 c0), (⟨w.heap.size + 1, 1, none⟩, .int .i64 c1), (⟨w.heap.size + 1, 2, none⟩, .int .i64 c2), (⟨w.heap.size + 1 + 1, 0, none⟩, .int .i64 b0), (⟨w.heap.size + 1 + 1, 1, none⟩, .int .i64 b1), (⟨w.heap.size + 1 + 1, 2, none⟩, .int .i64 b2)] w (((w.alloc (.cells #[.int .i64 a0, .int .i64 a1, .int .i64 a2] 23)).alloc (.cells #[.int .i64 c0, .int .i64 c1, .int .i64 c2] 23)).alloc (.cells #[.int .i64 b0, .int .i64 b1, .int .i64 b2] 23)) := ⟨by simp [List.forall_mem_cons, go_sem], by simp [List.forall_mem_cons, go_sem], by simp [List.forall_mem_cons] <;> omega, by simp, by (repeat (first | exact Below.refl _ _ | assumption | refine Below.drew ?_ | (refine Below.alloc ?_ (by simp <;> omega) _) | (refine Below.setCell ?_ (by simp <;> omega) _))), by omega⟩
  cases A
  · have HQ : Hid (K = false) := by show K = false; rw [HK.out]; rfl
    clear HK
    go_enter Try.func17, Try.ntmps17
    go_wp2_with fail
    refine (SA _).out.mono ?_
    rintro e w1 ⟨rfl, hb1⟩
    have hT := hT.next hb1
    skip
    have kc := hT.cells
    have kf := hT.frz
    simp only [List.forall_mem_cons, List.not_mem_nil, false_implies, implies_true, and_true] at kc kf
    obtain ⟨yc0, yc1, yc2, yc3, yc4, yc5, yc6, yc7, yc8⟩ := kc
    obtain ⟨yf0, yf1, yf2, yf3, yf4, yf5, yf6, yf7, yf8⟩ := kf
    go_wp2_with fail
    go_ret
    exact ⟨by rw [HQ.out]; rfl, hT.be⟩
  cases C
  · have HQ : Hid (K = false) := by show K = false; rw [HK.out]; rfl
    clear HK
    go_enter Try.func17, Try.ntmps17
    go_wp2_with fail
    refine (SA _).out.mono ?_
    rintro e w1 ⟨rfl, hb1⟩
    have hT := hT.next hb1
    skip
    have kc := hT.cells
    have kf := hT.frz
    simp only [List.forall_mem_cons, List.not_mem_nil, false_implies, implies_true, and_true] at kc kf
    obtain ⟨yc0, yc1, yc2, yc3, yc4, yc5, yc6, yc7, yc8⟩ := kc
    obtain ⟨yf0, yf1, yf2, yf3, yf4, yf5, yf6, yf7, yf8⟩ := kf
    go_wp2_with fail
    refine (SC _).out.mono ?_
    rintro e w2 ⟨rfl, hb2⟩
    have hT := hT.next hb2
    clear yc0 yf0 yc1 yf1 yc2 yf2 yc3 yf3 yc4 yf4 yc5 yf5 yc6 yf6 yc7 yf7 yc8 yf8
    have kc := hT.cells
    have kf := hT.frz
    simp only [List.forall_mem_cons, List.not_mem_nil, false_implies, implies_true, and_true] at kc kf
    obtain ⟨yc0, yc1, yc2, yc3, yc4, yc5, yc6, yc7, yc8⟩ := kc
    obtain ⟨yf0, yf1, yf2, yf3, yf4, yf5, yf6, yf7, yf8⟩ := kf
    go_wp2_with fail
    go_ret
    exact ⟨by rw [HQ.out]; rfl, hT.be⟩
  cases B
  · have HQ : Hid (K = false) := by show K = false; rw [HK.out]; rfl
    clear HK
    go_enter Try.func17, Try.ntmps17
    go_wp2_with fail
    refine (SA _).out.mono ?_
    rintro e w1 ⟨rfl, hb1⟩
    have hT := hT.next hb1
    skip
    have kc := hT.cells
    have kf := hT.frz
    simp only [List.forall_mem_cons, List.not_mem_nil, false_implies, implies_true, and_true] at kc kf
    obtain ⟨yc0, yc1, yc2, yc3, yc4, yc5, yc6, yc7, yc8⟩ := kc
    obtain ⟨yf0, yf1, yf2, yf3, yf4, yf5, yf6, yf7, yf8⟩ := kf
    go_wp2_with fail
    refine (SC _).out.mono ?_
    rintro e w2 ⟨rfl, hb2⟩
    have hT := hT.next hb2
    clear yc0 yf0 yc1 yf1 yc2 yf2 yc3 yf3 yc4 yf4 yc5 yf5 yc6 yf6 yc7 yf7 yc8 yf8
    have kc := hT.cells
    have kf := hT.frz
    simp only [List.forall_mem_cons, List.not_mem_nil, false_implies, implies_true, and_true] at kc kf
    obtain ⟨yc0, yc1, yc2, yc3, yc4, yc5, yc6, yc7, yc8⟩ := kc
    obtain ⟨yf0, yf1, yf2, yf3, yf4, yf5, yf6, yf7, yf8⟩ := kf
    go_wp2_with fail
    refine (SB _).out.mono ?_
    rintro e w3 ⟨rfl, hb3⟩
    have hT := hT.next hb3
    clear yc0 yf0 yc1 yf1 yc2 yf2 yc3 yf3 yc4 yf4 yc5 yf5 yc6 yf6 yc7 yf7 yc8 yf8
    have kc := hT.cells
    have kf := hT.frz
    simp only [List.forall_mem_cons, List.not_mem_nil, false_implies, implies_true, and_true] at kc kf
    obtain ⟨yc0, yc1, yc2, yc3, yc4, yc5, yc6, yc7, yc8⟩ := kc
    obtain ⟨yf0, yf1, yf2, yf3, yf4, yf5, yf6, yf7, yf8⟩ := kf
    go_wp2_with fail
    go_ret
    exact ⟨by rw [HQ.out]; rfl, hT.be⟩
  by_cases h1 : 0 ≤ tol
  · by_cases h2 : tol ≤ 16000
    · have HQ : Hid (K = true) := by show K = true; rw [HK.out, decide_eq_true h1, decide_eq_true h2]; rfl
      clear HK
      go_enter Try.func17, Try.ntmps17
      go_wp2_with fail
      refine (SA _).out.mono ?_
      rintro e w1 ⟨rfl, hb1⟩
      have hT := hT.next hb1
      skip
      have kc := hT.cells
      have kf := hT.frz
      simp only [List.forall_mem_cons, List.not_mem_nil, false_implies, implies_true, and_true] at kc kf
      obtain ⟨yc0, yc1, yc2, yc3, yc4, yc5, yc6, yc7, yc8⟩ := kc
      obtain ⟨yf0, yf1, yf2, yf3, yf4, yf5, yf6, yf7, yf8⟩ := kf
      go_wp2_with fail
      refine (SC _).out.mono ?_
      rintro e w2 ⟨rfl, hb2⟩
      have hT := hT.next hb2
      clear yc0 yf0 yc1 yf1 yc2 yf2 yc3 yf3 yc4 yf4 yc5 yf5 yc6 yf6 yc7 yf7 yc8 yf8
      have kc := hT.cells
      have kf := hT.frz
      simp only [List.forall_mem_cons, List.not_mem_nil, false_implies, implies_true, and_true] at kc kf
      obtain ⟨yc0, yc1, yc2, yc3, yc4, yc5, yc6, yc7, yc8⟩ := kc
      obtain ⟨yf0, yf1, yf2, yf3, yf4, yf5, yf6, yf7, yf8⟩ := kf
      go_wp2_with fail
      refine (SB _).out.mono ?_
      rintro e w3 ⟨rfl, hb3⟩
      have hT := hT.next hb3
      clear yc0 yf0 yc1 yf1 yc2 yf2 yc3 yf3 yc4 yf4 yc5 yf5 yc6 yf6 yc7 yf7 yc8 yf8
      have kc := hT.cells
      have kf := hT.frz
      simp only [List.forall_mem_cons, List.not_mem_nil, false_implies, implies_true, and_true] at kc kf
      obtain ⟨yc0, yc1, yc2, yc3, yc4, yc5, yc6, yc7, yc8⟩ := kc
      obtain ⟨yf0, yf1, yf2, yf3, yf4, yf5, yf6, yf7, yf8⟩ := kf
      go_wp2_with fail
      go_ret
      exact ⟨by rw [HQ.out]; rfl, hT.be⟩
    · have h3 : decide (tol ≤ 16000) = false := decide_eq_false h2
      have HQ : Hid (K = false) := by show K = false; rw [HK.out, h3]; simp
      clear HK
      go_enter Try.func17, Try.ntmps17
      go_wp2_with fail
      refine (SA _).out.mono ?_
      rintro e w1 ⟨rfl, hb1⟩
      have hT := hT.next hb1
      skip
      have kc := hT.cells
      have kf := hT.frz
      simp only [List.forall_mem_cons, List.not_mem_nil, false_implies, implies_true, and_true] at kc kf
      obtain ⟨yc0, yc1, yc2, yc3, yc4, yc5, yc6, yc7, yc8⟩ := kc
      obtain ⟨yf0, yf1, yf2, yf3, yf4, yf5, yf6, yf7, yf8⟩ := kf
      go_wp2_with fail
      refine (SC _).out.mono ?_
      rintro e w2 ⟨rfl, hb2⟩
      have hT := hT.next hb2
      clear yc0 yf0 yc1 yf1 yc2 yf2 yc3 yf3 yc4 yf4 yc5 yf5 yc6 yf6 yc7 yf7 yc8 yf8
      have kc := hT.cells
      have kf := hT.frz
      simp only [List.forall_mem_cons, List.not_mem_nil, false_implies, implies_true, and_true] at kc kf
      obtain ⟨yc0, yc1, yc2, yc3, yc4, yc5, yc6, yc7, yc8⟩ := kc
      obtain ⟨yf0, yf1, yf2, yf3, yf4, yf5, yf6, yf7, yf8⟩ := kf
      go_wp2_with fail
      refine (SB _).out.mono ?_
      rintro e w3 ⟨rfl, hb3⟩
      have hT := hT.next hb3
      clear yc0 yf0 yc1 yf1 yc2 yf2 yc3 yf3 yc4 yf4 yc5 yf5 yc6 yf6 yc7 yf7 yc8 yf8
      have kc := hT.cells
      have kf := hT.frz
      simp only [List.forall_mem_cons, List.not_mem_nil, false_implies, implies_true, and_true] at kc kf
      obtain ⟨yc0, yc1, yc2, yc3, yc4, yc5, yc6, yc7, yc8⟩ := kc
      obtain ⟨yf0, yf1, yf2, yf3, yf4, yf5, yf6, yf7, yf8⟩ := kf
      go_wp2_with fail
      go_ret
      exact ⟨by rw [HQ.out]; rfl, hT.be⟩
  · have h3 : decide (0 ≤ tol) = false := decide_eq_false h1
    have HQ : Hid (K = false) := by show K = false; rw [HK.out, h3]; simp
    clear HK
    go_enter Try.func17, Try.ntmps17
    go_wp2_with fail
    refine (SA _).out.mono ?_
    rintro e w1 ⟨rfl, hb1⟩
    have hT := hT.next hb1
    skip
    have kc := hT.cells
    have kf := hT.frz
    simp only [List.forall_mem_cons, List.not_mem_nil, false_implies, implies_true, and_true] at kc kf
    obtain ⟨yc0, yc1, yc2, yc3, yc4, yc5, yc6, yc7, yc8⟩ := kc
    obtain ⟨yf0, yf1, yf2, yf3, yf4, yf5, yf6, yf7, yf8⟩ := kf
    go_wp2_with fail
    refine (SC _).out.mono ?_
    rintro e w2 ⟨rfl, hb2⟩
    have hT := hT.next hb2
    clear yc0 yf0 yc1 yf1 yc2 yf2 yc3 yf3 yc4 yf4 yc5 yf5 yc6 yf6 yc7 yf7 yc8 yf8
    have kc := hT.cells
    have kf := hT.frz
    simp only [List.forall_mem_cons, List.not_mem_nil, false_implies, implies_true, and_true] at kc kf
    obtain ⟨yc0, yc1, yc2, yc3, yc4, yc5, yc6, yc7, yc8⟩ := kc
    obtain ⟨yf0, yf1, yf2, yf3, yf4, yf5, yf6, yf7, yf8⟩ := kf
    go_wp2_with fail
    refine (SB _).out.mono ?_
    rintro e w3 ⟨rfl, hb3⟩
    have hT := hT.next hb3
    clear yc0 yf0 yc1 yf1 yc2 yf2 yc3 yf3 yc4 yf4 yc5 yf5 yc6 yf6 yc7 yf7 yc8 yf8
    have kc := hT.cells
    have kf := hT.frz
    simp only [List.forall_mem_cons, List.not_mem_nil, false_implies, implies_true, and_true] at kc kf
    obtain ⟨yc0, yc1, yc2, yc3, yc4, yc5, yc6, yc7, yc8⟩ := kc
    obtain ⟨yf0, yf1, yf2, yf3, yf4, yf5, yf6, yf7, yf8⟩ := kf
    go_wp2_with fail
    go_ret
    exact ⟨by rw [HQ.out]; rfl, hT.be⟩
theorem small3_any (a0 a1 a2 c0 c1 c2 b0 b1 b2 tol : Int) (w : World) : Calls Try.prog 17 #[.agg #[.int .i64 a0, .int .i64 a1, .int .i64 a2], .agg #[.int .i64 c0, .int .i64 c1, .int .i64 c2], .agg #[.int .i64 b0, .int .i64 b1, .int .i64 b2], .int .i64 tol] w fun e w' => e = .returned (.bool (smK a0 a1 a2 c0 c1 c2 b0 b1 b2 tol)) ∧ Below w.heap.size w w' := by
  unfold smK
  exact small3_aux a0 a1 a2 c0 c1 c2 b0 b1 b2 tol _ _ _ w (fun w => Small_any a0 a1 a2 w) (fun w => Small_any c0 c1 c2 w) (fun w => Small_any b0 b1 b2 w)
set_option maxHeartbeats 8000000 in
set_option maxRecDepth 20000 in
theorem law_reach (a0 a1 a2 c0 c1 c2 b0 b1 b2 tol : Int) (w : World) (la0 : -9223372036854775808 ≤ a0) (ua0 : a0 ≤ 9223372036854775807) (la1 : -9223372036854775808 ≤ a1) (ua1 : a1 ≤ 9223372036854775807) (la2 : -9223372036854775808 ≤ a2) (ua2 : a2 ≤ 9223372036854775807) (lc0 : -9223372036854775808 ≤ c0) (uc0 : c0 ≤ 9223372036854775807) (lc1 : -9223372036854775808 ≤ c1) (uc1 : c1 ≤ 9223372036854775807) (lc2 : -9223372036854775808 ≤ c2) (uc2 : c2 ≤ 9223372036854775807) (lb0 : -9223372036854775808 ≤ b0) (ub0 : b0 ≤ 9223372036854775807) (lb1 : -9223372036854775808 ≤ b1) (ub1 : b1 ≤ 9223372036854775807) (lb2 : -9223372036854775808 ≤ b2) (ub2 : b2 ≤ 9223372036854775807) (ltol : -9223372036854775808 ≤ tol) (utol : tol ≤ 9223372036854775807) :
    Calls Try.prog 5 #[.agg #[.int .i64 a0, .int .i64 a1, .int .i64 a2], .agg #[.int .i64 c0, .int .i64 c1, .int .i64 c2], .agg #[.int .i64 b0, .int .i64 b1, .int .i64 b2], .int .i64 tol] w fun e w' => e = .returned (.bool true) ∧ Below w.heap.size w w' := by
  have S0 := fun w => Lib.hid (small3_any a0 a1 a2 c0 c1 c2 b0 b1 b2 tol w)
  clear la0 ua0 la1 ua1 la2 ua2 lc0 uc0 lc1 uc1 lc2 uc2 lb0 ub0 lb1 ub1 lb2 ub2 ltol utol
  cases hA : smK a0 a1 a2 c0 c1 c2 b0 b1 b2 tol
  · rw [hA] at S0
    clear hA
    go_enter Try.func5, Try.ntmps5
    go_wp2_with fail
    refine (awake_any _).mono ?_
    rintro e w1 ⟨rfl, hb1⟩
    have hT : Lf w.heap.size (w.heap.size + 1 + 1 + 1) [(⟨w.heap.size, 0, none⟩, .int .i64 a0), (⟨w.heap.size, 1, none⟩, .int .i64 a1), (⟨w.heap.size, 2, none⟩, .int .i64 a2), (⟨w.heap.size + 1, 0, none⟩, .int .i64 c0), (⟨w.heap.size + 1, 1, none⟩, .int .i64 c1), (⟨w.heap.size + 1, 2, none⟩, .int .i64 c2), (⟨w.heap.size + 1 + 1, 0, none⟩, .int .i64 b0), (⟨w.heap.size + 1 + 1, 1, none⟩, .int .i64 b1), (⟨w.heap.size + 1 + 1, 2, none⟩, .int .i64 b2)] w w1 := Lf.next (w := (((w.alloc (.cells #[.int .i64 a0, .int .i64 a1, .int .i64 a2] 23)).alloc (.cells #[.int .i64 c0, .int .i64 c1, .int .i64 c2] 23)).alloc (.cells #[.int .i64 b0, .int .i64 b1, .int .i64 b2] 23))) ⟨by simp [List.forall_mem_cons, go_sem], by simp [List.forall_mem_cons, go_sem], by simp [List.forall_mem_cons] <;> omega, by simp, by (repeat (first | exact Below.refl _ _ | assumption | refine Below.drew ?_ | (refine Below.alloc ?_ (by simp <;> omega) _) | (refine Below.setCell ?_ (by simp <;> omega) _))), by omega⟩ hb1
    clear hb1
    go_upto_region 3 with fail
    refine wp_region_class (Lf w.heap.size (w.heap.size + 1 + 1 + 1) [(⟨w.heap.size, 0, none⟩, .int .i64 a0), (⟨w.heap.size, 1, none⟩, .int .i64 a1), (⟨w.heap.size, 2, none⟩, .int .i64 a2), (⟨w.heap.size + 1, 0, none⟩, .int .i64 c0), (⟨w.heap.size + 1, 1, none⟩, .int .i64 c1), (⟨w.heap.size + 1, 2, none⟩, .int .i64 c2), (⟨w.heap.size + 1 + 1, 0, none⟩, .int .i64 b0), (⟨w.heap.size + 1 + 1, 1, none⟩, .int .i64 b1), (⟨w.heap.size + 1 + 1, 2, none⟩, .int .i64 b2)] w) (hT.next (Below.refl _ _).drew) (by kernel_rfl) (by kernel_rfl) ?_
    iterate 6 (refine wpQuiet_step (fun qK9 qH9 => ?_); go_simp; apply Exists.intro; refine ⟨?_, qH9 _ ?_⟩; (first | (intros; rfl) | (intro wx hC; ((have qk9 := (hC).cells; simp only [List.forall_mem_cons, List.not_mem_nil, false_implies, implies_true, and_true] at qk9; repeat (obtain ⟨qk8, qk9⟩ := qk9)); go_simp; first | done | rfl)) | (intro wx hC; with_reducible exact Calls.lays (S0 wx).out (fun _ => hC.next))); clear qH9 qK9)
    refine wpQuiet_step (fun qK9 qH9 => ?_)
    go_simp
    refine ⟨Value.bool true, fun _ _ => rfl, ?_⟩
    generalize qE9 : ({ tmps := _, defers := _ } : Act) = qA9
    refine qH9 _ ?_
    clear qH9 qK9
    iterate 11 (refine wpQuiet_step (fun qK9 qH9 => ?_); rw [← qE9]; go_simp; refine qH9 _ ?_; clear qH9 qK9)
    refine wpQuiet_step (fun qK9 qH9 => ?_)
    rw [← qE9]
    go_simp
    clear qE9
    refine ⟨Value.bool true, fun _ _ => rfl, ?_⟩
    generalize qE8 : ({ tmps := _, defers := _ } : Act) = qA8
    refine qH9 _ ?_
    clear qH9 qK9
    refine wpQuiet_step (fun qK9 qH9 => ?_)
    rw [← qE8]
    go_simp
    clear qE8
    refine ⟨Value.bool true, fun _ _ => rfl, ?_⟩
    generalize qE7 : ({ tmps := _, defers := _ } : Act) = qA7
    refine qH9 _ ?_
    clear qH9 qK9
    refine wpQuiet_nil ?_
    clear hT
    intro wy hT
    rw [← qE7]
    clear qE7
    go_wp2_with fail
    go_ret
    exact ⟨rfl, hT.be⟩
  · rw [hA] at S0
    obtain ⟨ha, hc, hb, ht, ht2⟩ := smK_t hA
    obtain ⟨r, RP, RR, hr⟩ := reach_any a0 a1 a2 c0 c1 c2 b0 b1 b2 tol ha hc hb ht ht2
    clear hr hA ha hc hb ht ht2
    go_enter Try.func5, Try.ntmps5
    go_wp2_with fail
    refine (awake_any _).mono ?_
    rintro e w1 ⟨rfl, hb1⟩
    have hT : Lf w.heap.size (w.heap.size + 1 + 1 + 1) [(⟨w.heap.size, 0, none⟩, .int .i64 a0), (⟨w.heap.size, 1, none⟩, .int .i64 a1), (⟨w.heap.size, 2, none⟩, .int .i64 a2), (⟨w.heap.size + 1, 0, none⟩, .int .i64 c0), (⟨w.heap.size + 1, 1, none⟩, .int .i64 c1), (⟨w.heap.size + 1, 2, none⟩, .int .i64 c2), (⟨w.heap.size + 1 + 1, 0, none⟩, .int .i64 b0), (⟨w.heap.size + 1 + 1, 1, none⟩, .int .i64 b1), (⟨w.heap.size + 1 + 1, 2, none⟩, .int .i64 b2)] w w1 := Lf.next (w := (((w.alloc (.cells #[.int .i64 a0, .int .i64 a1, .int .i64 a2] 23)).alloc (.cells #[.int .i64 c0, .int .i64 c1, .int .i64 c2] 23)).alloc (.cells #[.int .i64 b0, .int .i64 b1, .int .i64 b2] 23))) ⟨by simp [List.forall_mem_cons, go_sem], by simp [List.forall_mem_cons, go_sem], by simp [List.forall_mem_cons] <;> omega, by simp, by (repeat (first | exact Below.refl _ _ | assumption | refine Below.drew ?_ | (refine Below.alloc ?_ (by simp <;> omega) _) | (refine Below.setCell ?_ (by simp <;> omega) _))), by omega⟩ hb1
    clear hb1
    go_upto_region 3 with fail
    (refine wp_region_class (Lf w.heap.size (w.heap.size + 1 + 1 + 1) [(⟨w.heap.size, 0, none⟩, .int .i64 a0), (⟨w.heap.size, 1, none⟩, .int .i64 a1), (⟨w.heap.size, 2, none⟩, .int .i64 a2), (⟨w.heap.size + 1, 0, none⟩, .int .i64 c0), (⟨w.heap.size + 1, 1, none⟩, .int .i64 c1), (⟨w.heap.size + 1, 2, none⟩, .int .i64 c2), (⟨w.heap.size + 1 + 1, 0, none⟩, .int .i64 b0), (⟨w.heap.size + 1 + 1, 1, none⟩, .int .i64 b1), (⟨w.heap.size + 1 + 1, 2, none⟩, .int .i64 b2)] w) (hT.next (Below.refl _ _).drew) (by kernel_rfl) (by kernel_rfl) ?_; repeat (refine wpQuiet_step (fun qK9 qH9 => ?_); go_simp; first | (refine qH9 _ ?_; clear qH9 qK9) | (apply Exists.intro; refine ⟨?_, qH9 _ ?_⟩; (first | (intros; rfl) | (first | (intro wx hC; ((have qk9 := (hC).cells; simp only [List.forall_mem_cons, List.not_mem_nil, false_implies, implies_true, and_true] at qk9; repeat (obtain ⟨qk8, qk9⟩ := qk9)); go_simp; first | done | rfl)) | (intro wx hC; with_reducible exact Calls.lays (S0 wx).out (fun _ => hC.next)) | (intro wx hC; with_reducible exact Calls.lays (RP wx).out (fun _ => hC.next)) | (intro wx hC; with_reducible exact Calls.lays (RR wx).out (fun _ => hC.next)))); clear qH9 qK9)))
    refine wpQuiet_nil ?_
    clear hT
    intro wy hT
    go_wp2_with fail
    go_ret
    exact ⟨rfl, hT.be⟩
end Go.Proofs.Ytdjopepipcnmdaa
