/- Proved here: BlendReversed returns true for every argument; no conditions but that integers are ints. -/
import Derived.Test.YtdjopepipcnmdaaBn1
import Derived.Test.YtdjopepipcnmdaaBm1
namespace Go.Proofs.Ytdjopepipcnmdaa
open Go.RowKit
set_option linter.unusedVariables false
set_option linter.unusedSimpArgs false
theorem bnE_rev (a0 a1 a2 c0 c1 c2 b0 b1 b2 d : Int) : bnE a0 a1 a2 c0 c1 c2 b0 b1 b2 d = bnE b0 b1 b2 c0 c1 c2 a0 a1 a2 d := by
  rw [bnE_sum a0 a1 a2 c0 c1 c2 b0 b1 b2 d _ _ _ _ _ _ rfl rfl rfl rfl rfl rfl, bnE_sum b0 b1 b2 c0 c1 c2 a0 a1 a2 d _ _ _ _ _ _ rfl rfl rfl rfl rfl rfl]
  grind
theorem moI_rev (a0 a1 a2 c0 c1 c2 b0 b1 b2 : Int) : moI a0 a1 a2 c0 c1 c2 b0 b1 b2 = moI b0 b1 b2 c0 c1 c2 a0 a1 a2 := by
  unfold moI; rw [sqD_comm c0 c1 c2 b0 b1 b2, sqD_comm c0 c1 c2 a0 a1 a2, Int.min_comm]
theorem pmB_rev (mo tol a0 a1 a2 c0 c1 c2 b0 b1 b2 d : Int) : pmB mo tol a0 a1 a2 c0 c1 c2 b0 b1 b2 d = pmB mo tol b0 b1 b2 c0 c1 c2 a0 a1 a2 d := by
  unfold pmB; rw [bnE_rev]
theorem rcG_rev (mo tol a0 a1 a2 c0 c1 c2 b0 b1 b2 : Int) : ∀ (k : Nat) (d : Int), rcG mo tol a0 a1 a2 c0 c1 c2 b0 b1 b2 k d = rcG mo tol b0 b1 b2 c0 c1 c2 a0 a1 a2 k d
  | 0, d => rfl
  | k + 1, d => by unfold rcG; rw [pmB_rev, rcG_rev mo tol a0 a1 a2 c0 c1 c2 b0 b1 b2 k, rcG_rev mo tol a0 a1 a2 c0 c1 c2 b0 b1 b2 k]
theorem rcI_rev (a0 a1 a2 c0 c1 c2 b0 b1 b2 tol : Int) : rcI a0 a1 a2 c0 c1 c2 b0 b1 b2 tol = rcI b0 b1 b2 c0 c1 c2 a0 a1 a2 tol := by
  unfold rcI; rw [moI_rev, rcG_rev]
theorem rchV_rev (a0 a1 a2 c0 c1 c2 b0 b1 b2 tol : Int) : rchV a0 a1 a2 c0 c1 c2 b0 b1 b2 tol = rchV b0 b1 b2 c0 c1 c2 a0 a1 a2 tol := by
  unfold rchV; rw [Bool.or_comm, rcI_rev]
theorem cp_id (f : Nat → Int) (x0 x1 x2 : Int) (h0 : f 0 = x0) (h1 : f 1 = x1) (h2 : f 2 = x2) : f 0 = cp x0 x1 x2 0 ∧ f 1 = cp x0 x1 x2 1 ∧ f 2 = cp x0 x1 x2 2 := ⟨h0, h1, h2⟩
/-- the points of the reversed corner -/
theorem cnr_rev {a0 a1 a2 c0 c1 c2 b0 b1 b2 tol r s : Int} {L M : Nat} {F G : Nat → Nat → Int} (ha : Pk a0 a1 a2) (hc : Pk c0 c1 c2) (hb : Pk b0 b1 b2) (hr : r = rchV a0 a1 a2 c0 c1 c2 b0 b1 b2 tol) (hs : s = rchV b0 b1 b2 c0 c1 c2 a0 a1 a2 tol)
    (h : Cnr a0 a1 a2 c0 c1 c2 b0 b1 b2 tol r L F) (k : Cnr b0 b1 b2 c0 c1 c2 a0 a1 a2 tol s M G) : L = M ∧ 1 ≤ L ∧ L ≤ 65 ∧ ∀ i j : Nat, i + j + 1 = L → F i 0 = G j 0 ∧ F i 1 = G j 1 ∧ F i 2 = G j 2 := by
  have hrs : r = s := by rw [hr, hs, rchV_rev]
  subst hrs
  rcases h.cut ha hc hb with ⟨h0, h1, h2⟩ | ⟨n, X0, X1, X2, Y0, Y1, Y2, hk⟩
  · rcases k.cut hb hc ha with ⟨g0, g1, g2⟩ | ⟨m, U0, U1, U2, V0, V1, V2, hm⟩
    · refine ⟨by omega, by omega, by omega, fun i j _ => ?_⟩
      rw [(h2 i).1, (h2 i).2.1, (h2 i).2.2, (g2 j).1, (g2 j).2.1, (g2 j).2.2]
      exact ⟨rfl, rfl, rfl⟩
    · have := hm.armA.d0; omega
  · rcases k.cut hb hc ha with ⟨g0, g1, g2⟩ | ⟨m, U0, U1, U2, V0, V1, V2, hm⟩
    · have := hk.armA.d0; omega
    · have e0 := hk.armA.e0
      have e1 := hk.armA.e1
      have e2 := hk.armA.e2
      have f0 := hk.armB.e0
      have f1 := hk.armB.e1
      have f2 := hk.armB.e2
      have p0 := hm.armA.e0
      have p1 := hm.armA.e1
      have p2 := hm.armA.e2
      have q0 := hm.armB.e0
      have q1 := hm.armB.e1
      have q2 := hm.armB.e2
      rw [← e0] at q0
      rw [← e1] at q1
      rw [← e2] at q2
      rw [← f0] at p0
      rw [← f1] at p1
      rw [← f2] at p2
      subst p0 p1 p2 q0 q1 q2
      have hn : n = m := by
        have := hk.pcs
        have g := hm.pcs
        rw [Int.add_comm U0, Int.add_comm U1, Int.add_comm U2] at g
        omega
      subst hn
      have l1 := hk.len
      have l2 := hm.len
      have num := hk.num
      refine ⟨by omega, by omega, by omega, fun i j hij => ?_⟩
      rw [hk.f0, hk.f1, hk.f2, hm.f0, hm.f1, hm.f2, show (j : Int) = (n : Int) - i by omega, coI_sym, coI_sym, coI_sym]
      exact ⟨rfl, rfl, rfl⟩
set_option maxHeartbeats 8000000 in
set_option maxRecDepth 20000 in
theorem law_BlendReversed (a0 a1 a2 c0 c1 c2 b0 b1 b2 tol : Int) (w : World) (la0 : -9223372036854775808 ≤ a0) (ua0 : a0 ≤ 9223372036854775807) (la1 : -9223372036854775808 ≤ a1) (ua1 : a1 ≤ 9223372036854775807) (la2 : -9223372036854775808 ≤ a2) (ua2 : a2 ≤ 9223372036854775807) (lc0 : -9223372036854775808 ≤ c0) (uc0 : c0 ≤ 9223372036854775807) (lc1 : -9223372036854775808 ≤ c1) (uc1 : c1 ≤ 9223372036854775807) (lc2 : -9223372036854775808 ≤ c2) (uc2 : c2 ≤ 9223372036854775807) (lb0 : -9223372036854775808 ≤ b0) (ub0 : b0 ≤ 9223372036854775807) (lb1 : -9223372036854775808 ≤ b1) (ub1 : b1 ≤ 9223372036854775807) (lb2 : -9223372036854775808 ≤ b2) (ub2 : b2 ≤ 9223372036854775807) (ltol : -9223372036854775808 ≤ tol) (utol : tol ≤ 9223372036854775807) :
    Calls Try.prog 10 #[.agg #[.int .i64 a0, .int .i64 a1, .int .i64 a2], .agg #[.int .i64 c0, .int .i64 c1, .int .i64 c2], .agg #[.int .i64 b0, .int .i64 b1, .int .i64 b2], .int .i64 tol] w fun e w' => e = .returned (.bool true) ∧ Below w.heap.size w w' := by
  have S0 := fun w => Lib.hid (small3_any a0 a1 a2 c0 c1 c2 b0 b1 b2 tol w)
  clear la0 ua0 la1 ua1 la2 ua2 lc0 uc0 lc1 uc1 lc2 uc2 lb0 ub0 lb1 ub1 lb2 ub2 ltol utol
  have hT0 : Lf w.heap.size (w.heap.size + 1 + 1 + 1) [(⟨w.heap.size, 0, none⟩, .int .i64 a0), (⟨w.heap.size, 1, none⟩, .int .i64 a1), (⟨w.heap.size, 2, none⟩, .int .i64 a2), (⟨w.heap.size + 1, 0, none⟩, .int .i64 c0), (⟨w.heap.size + 1, 1, none⟩, .int .i64 c1), (⟨w.heap.size + 1, 2, none⟩, .int .i64 c2), (⟨w.heap.size + 1 + 1, 0, none⟩, .int .i64 b0), (⟨w.heap.size + 1 + 1, 1, none⟩, .int .i64 b1), (⟨w.heap.size + 1 + 1, 2, none⟩, .int .i64 b2)] w (((w.alloc (.cells #[.int .i64 a0, .int .i64 a1, .int .i64 a2] 23)).alloc (.cells #[.int .i64 c0, .int .i64 c1, .int .i64 c2] 23)).alloc (.cells #[.int .i64 b0, .int .i64 b1, .int .i64 b2] 23)) := ⟨by simp [List.forall_mem_cons, go_sem], by simp [List.forall_mem_cons, go_sem], by simp [List.forall_mem_cons] <;> omega, by simp, by (repeat (first | exact Below.refl _ _ | assumption | refine Below.drew ?_ | (refine Below.alloc ?_ (by simp <;> omega) _) | (refine Below.setCell ?_ (by simp <;> omega) _))), by omega⟩
  cases hA : smK a0 a1 a2 c0 c1 c2 b0 b1 b2 tol
  · rw [hA] at S0
    clear hA
    go_enter Try.func10, Try.ntmps10
    go_wp2_with fail
    refine (awake_any _).mono ?_
    rintro e w1 ⟨rfl, hb1⟩
    have hT := hT0.next hb1
    clear hb1
    have kc := hT.cells
    have kf := hT.frz
    simp only [List.forall_mem_cons, List.not_mem_nil, false_implies, implies_true, and_true] at kc kf
    obtain ⟨yc0, yc1, yc2, yc3, yc4, yc5, yc6, yc7, yc8⟩ := kc
    obtain ⟨yf0, yf1, yf2, yf3, yf4, yf5, yf6, yf7, yf8⟩ := kf
    go_wp2_with fail
    refine (S0 _).out.mono ?_
    rintro e w2 ⟨rfl, hb2⟩
    have hT := hT.next hb2
    go_wp2_with fail
    go_ret
    exact ⟨rfl, hT.be⟩
  rw [hA] at S0
  obtain ⟨ha, hc, hb, ht, ht2⟩ := smK_t hA
  clear hA
  obtain ⟨r, n, F, hrv, hcn, RP, CP, CR⟩ := corner_any a0 a1 a2 c0 c1 c2 b0 b1 b2 tol ha hc hb ht ht2
  obtain ⟨r', n', G, hrv', hcn', _, CQ, _⟩ := corner_any b0 b1 b2 c0 c1 c2 a0 a1 a2 tol hb hc ha ht ht2
  obtain ⟨rfl, hL1, hL2, HF⟩ := cnr_rev ha hc hb hrv hrv' hcn hcn'
  clear hcn hrv RP CR ha hc hb ht ht2 hcn' hrv'
  go_enter Try.func10, Try.ntmps10
  go_wp2_with fail
  refine (awake_any _).mono ?_
  rintro e w1 ⟨rfl, hb1⟩
  have hT := hT0.next hb1
  clear hb1 hT0
  have kc := hT.cells
  have kf := hT.frz
  simp only [List.forall_mem_cons, List.not_mem_nil, false_implies, implies_true, and_true] at kc kf
  obtain ⟨yc0, yc1, yc2, yc3, yc4, yc5, yc6, yc7, yc8⟩ := kc
  obtain ⟨yf0, yf1, yf2, yf3, yf4, yf5, yf6, yf7, yf8⟩ := kf
  go_wp2_with fail
  refine (S0 _).out.mono ?_
  rintro e w2 ⟨rfl, hb2⟩
  have hT := hT.next hb2
  clear hb2 yc0 yf0 yc1 yf1 yc2 yf2 yc3 yf3 yc4 yf4 yc5 yf5 yc6 yf6 yc7 yf7 yc8 yf8
  go_upto_region 5 with fail
  go_region_held3 (fun w' => w'.cell? ⟨w.heap.size, 0, none⟩ = some (.int .i64 a0) ∧ w'.cell? ⟨w.heap.size, 1, none⟩ = some (.int .i64 a1) ∧ w'.cell? ⟨w.heap.size, 2, none⟩ = some (.int .i64 a2) ∧ w'.cell? ⟨w.heap.size + 1, 0, none⟩ = some (.int .i64 c0) ∧ w'.cell? ⟨w.heap.size + 1, 1, none⟩ = some (.int .i64 c1) ∧ w'.cell? ⟨w.heap.size + 1, 2, none⟩ = some (.int .i64 c2) ∧ w'.cell? ⟨w.heap.size + 1 + 1, 0, none⟩ = some (.int .i64 b0) ∧ w'.cell? ⟨w.heap.size + 1 + 1, 1, none⟩ = some (.int .i64 b1) ∧ w'.cell? ⟨w.heap.size + 1 + 1, 2, none⟩ = some (.int .i64 b2) ∧ Lf w.heap.size (w.heap.size + 1 + 1 + 1) [(⟨w.heap.size, 0, none⟩, .int .i64 a0), (⟨w.heap.size, 1, none⟩, .int .i64 a1), (⟨w.heap.size, 2, none⟩, .int .i64 a2), (⟨w.heap.size + 1, 0, none⟩, .int .i64 c0), (⟨w.heap.size + 1, 1, none⟩, .int .i64 c1), (⟨w.heap.size + 1, 2, none⟩, .int .i64 c2), (⟨w.heap.size + 1 + 1, 0, none⟩, .int .i64 b0), (⟨w.heap.size + 1 + 1, 1, none⟩, .int .i64 b1), (⟨w.heap.size + 1 + 1, 2, none⟩, .int .i64 b2)] w w') (first | (refine S9 ?_; assumption) | (refine S9 (Lf.next ?_ (Below.drew (Below.refl _ _))); assumption)) (first
    | (go_at_call 23; (with_reducible refine (CP _).out.mono ?_); rintro e w5 ⟨g5, cap5, rfl, hg5, hr5, hb5⟩; go_split_ands; have hL5 := Lf.next (by assumption) hb5)
    | (go_at_call 23; (with_reducible refine (CQ _).out.mono ?_); rintro e w6 ⟨g6, cap6, rfl, hg6, hr6, hb6⟩; go_split_ands; have hL6 := Lf.next (by assumption) hb6))
  have hC : (Both (Both (Row g5 (3 * n) (3 * n) (fun j => .int .i64 (F (j / 3) (j % 3)))) (Row g6 (3 * n) (3 * n) (fun j => .int .i64 (G (j / 3) (j % 3))))) (Below w.heap.size w)) w6 := ⟨⟨hr5.next hb6, hr6⟩, hL6.be⟩
  clear hr5 hr6 hb5 hb6 hL5 hL6 S0 CP CQ hT
  go_wp2_with fail
  go_loopw [37] (fun t wr => ∃ i : Nat, i ≤ n ∧ t = .int .i64 (i : Int) ∧ (Both (Both (Row g5 (3 * n) (3 * n) (fun j => .int .i64 (F (j / 3) (j % 3)))) (Row g6 (3 * n) (3 * n) (fun j => .int .i64 (G (j / 3) (j % 3))))) (Below w.heap.size w)) wr) (fun t _ => n - (intOf t).toNat)
  case atStart => exact ⟨0, Nat.zero_le _, rfl, hC⟩
  case round =>
  clear hC
  obtain ⟨i, hin, rfl, hC⟩ := hrel
  by_cases hi : i < n
  · have hdec : decide ((i : Int) < (n : Int)) = true := decide_eq_true (by omega)
    obtain ⟨j, hj⟩ : ∃ j, i + j + 1 = n := ⟨n - 1 - i, by omega⟩
    obtain ⟨q0, q1, q2⟩ := HF i j hj
    have HQ0 := Lib.hid q0
    have HQ1 := Lib.hid q1
    have HQ2 := Lib.hid q2
    clear q0 q1 q2
    go_upto_region 11 with fail
    have w1 : IntKind.i64.wrap ((n : Int) - 1) = (n : Int) - 1 := wr_in (by omega) (by omega)
    have w2 : IntKind.i64.wrap ((n : Int) - 1 - i) = (j : Int) := by rw [wr_in (by omega) (by omega)]; omega
    have t0 : (i : Int) < n := by omega
    have t1 : (j : Int) < n := by omega
    (refine wp_region_class (Both (Both (Row g5 (3 * n) (3 * n) (fun j => .int .i64 (F (j / 3) (j % 3)))) (Row g6 (3 * n) (3 * n) (fun j => .int .i64 (G (j / 3) (j % 3))))) (Below w.heap.size w)) ⟨⟨hC.l.l.next (Below.refl _ _).drew, hC.l.r.next (Below.refl _ _).drew⟩, hC.r.drew⟩ (by kernel_rfl) (by kernel_rfl) ?_; repeat (refine wpQuiet_step (fun qK9 qH9 => ?_); go_simp; first | (refine qH9 _ ?_; clear qH9 qK9) | (apply Exists.intro; refine ⟨?_, qH9 _ ?_⟩; (first | (intros; rfl) | ((intro wx hC; (obtain ⟨e0, e1, e2⟩ := hC.l.l.point (i := i) (by omega)); (obtain ⟨d0, d1, d2⟩ := hC.l.r.point (i := j) (by omega)); (first | rewrite [HQ0.out, HQ1.out, HQ2.out] | skip); go_simp; first | done | rfl))); clear qH9 qK9)))
    refine wpQuiet_nil ?_
    clear hC w1 w2 t0 t1
    intro wy hC
    have hz : (!F i 0 == G j 0 || !F i 1 == G j 1 || !F i 2 == G j 2) = false := by rw [HQ0.out, HQ1.out, HQ2.out]; simp
    rewrite [hz]
    clear hz
    go_wp2_with fail
    go_roundw
    case rel => exact ⟨i + 1, by omega, by go_num, hC⟩
    case measure => simp [intOf]; omega
  · have hdec : decide ((i : Int) < (n : Int)) = false := decide_eq_false (by omega)
    go_wp2_with fail
    go_ret
    exact ⟨rfl, hC.r⟩
end Go.Proofs.Ytdjopepipcnmdaa