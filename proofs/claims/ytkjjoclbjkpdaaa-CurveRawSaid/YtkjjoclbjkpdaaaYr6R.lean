/- Proved here: what the inner quotient of package wide returns: a number of 128 bits divided by one of 64 bits, and whether there is a rest. · what Over of package wide returns; every argument. · what Over of package wide returns, refusals too. · a number built by its bits; the root's test; the rounded quotient by a root, by halves; no program in sight. -/
import Derived.Test.YtkjjoclbjkpdaaaWq2R
import Derived.Test.YtkjjoclbjkpdaaaLfR
namespace Go.Proofs.Ytkjjoclbjkpdaaa
open Go.RowKit
set_option linter.unusedVariables false
theorem quo_gen (P d K : Nat) (h0 : 0 < d) (hK : 0 < K) :
    P / d / K = P / K / d ∧ P / d % K = (P / K % d * K + P % K) / d ∧ P % d = (P / K % d * K + P % K) % d := by
  have h1 := Nat.div_add_mod P K
  have h2 := Nat.div_add_mod (P / K) d
  have h3 := Nat.mod_lt (P / K) h0
  have h4 := Nat.mod_lt P hK
  generalize P / K = hi at *
  generalize P % K = lo at *
  generalize hi / d = q at *
  generalize hi % d = r at *
  have e : P = d * (q * K) + (r * K + lo) := by
    rw [← Nat.mul_assoc, ← Nat.add_assoc, ← Nat.add_mul, h2, Nat.mul_comm hi]; exact h1.symm
  have hs : (r * K + lo) / d < K := by
    rw [Nat.div_lt_iff_lt_mul h0, Nat.mul_comm K d]
    have h5 : (r + 1) * K ≤ d * K := Nat.mul_le_mul_right _ h3
    have h6 : (r + 1) * K = r * K + K := by rw [Nat.add_mul, Nat.one_mul]
    omega
  rw [e, Nat.mul_add_div h0, Nat.mul_add_mod]
  generalize (r * K + lo) / d = s at *
  refine ⟨?_, ?_, rfl⟩
  · rw [Nat.mul_comm q K, Nat.mul_add_div hK, Nat.div_eq_of_lt hs, Nat.add_zero]
  · rw [Nat.mul_comm q K, Nat.mul_add_mod, Nat.mod_eq_of_lt hs]
theorem quo_parts (P d : Nat) (h0 : 0 < d) :
    P / d / 18446744073709551616 = P / 18446744073709551616 / d ∧ P / d % 18446744073709551616 = (P / 18446744073709551616 % d * 18446744073709551616 + P % 18446744073709551616) / d
      ∧ P % d = (P / 18446744073709551616 % d * 18446744073709551616 + P % 18446744073709551616) % d := quo_gen P d 18446744073709551616 h0 (by decide)
set_option maxHeartbeats 1000000 in
theorem quotient_any (P d : Nat) (hP : P < 340282366920938463463374607431768211456) (h0 : 0 < d) (hd : d < 18446744073709551616) (w : World) :
    Calls Try.prog 66 #[pairV P, .int .u64 d] w fun e w' => e = .returned (.tuple #[pairV (P / d), .bool (decide (0 < P % d))]) ∧ Below w.heap.size w w' := by
  have HQ := Lib.hid (quo_parts P d h0)
  have H0 := Lib.hid h0
  have HD := Lib.hid hd
  have HI : Hid (P / 18446744073709551616 < 18446744073709551616) := by show P / 18446744073709551616 < _; omega
  have HL : Hid (P % 18446744073709551616 < 18446744073709551616) := by show P % 18446744073709551616 < _; omega
  unfold pairV
  rw [HQ.out.1, HQ.out.2.1, HQ.out.2.2]
  clear HQ hP h0 hd
  generalize P / 18446744073709551616 = hi at *
  generalize P % 18446744073709551616 = lo at *
  have HR : Hid (hi % d < d) := Nat.mod_lt _ H0.out
  go_enter Try.func66, Try.ntmps66
  go_wp2_with fail
  refine (div64_small hi d HI.out HD.out H0.out _).mono ?_
  rintro e w1 ⟨rfl, hb1⟩
  have hc1 : w1.cell? ⟨w.heap.size, 1, none⟩ = some (.int .u64 lo) := by
    rw [hb1.cell (p := ⟨w.heap.size, 1, none⟩) (by show w.heap.size < _; simp; omega)]
    simp [go_sem]
  have hd0 : w1.cell? ⟨w.heap.size + 1, 0, none⟩ = some (.int .u64 0) := by
    rw [hb1.cell (p := ⟨w.heap.size + 1, 0, none⟩) (by show w.heap.size + 1 < _; simp)]
    simp [go_sem]
  have hd1 : w1.cell? ⟨w.heap.size + 1, 1, none⟩ = some (.int .u64 0) := by
    rw [hb1.cell (p := ⟨w.heap.size + 1, 1, none⟩) (by show w.heap.size + 1 < _; simp)]
    simp [go_sem]
  have hf0 : w1.frozen? ⟨w.heap.size + 1, 0, none⟩ = false := by
    rw [hb1.frozen (p := ⟨w.heap.size + 1, 0, none⟩) (by show w.heap.size + 1 < _; simp)]
    simp [go_sem]
  have hf1 : w1.frozen? ⟨w.heap.size + 1, 1, none⟩ = false := by
    rw [hb1.frozen (p := ⟨w.heap.size + 1, 1, none⟩) (by show w.heap.size + 1 < _; simp)]
    simp [go_sem]
  have hs1 := hb1.size
  simp at hs1
  go_wp2_with fail
  refine (div64_any _ lo d HR.out HL.out HD.out _).mono ?_
  rintro e w2 ⟨rfl, hb2⟩
  have hd0 := (hb2.cell (p := ⟨w.heap.size + 1, 0, none⟩) (by show w.heap.size + 1 < _; omega)).trans hd0
  have hd1 := (hb2.cell (p := ⟨w.heap.size + 1, 1, none⟩) (by show w.heap.size + 1 < _; omega)).trans hd1
  have hf0 := (hb2.frozen (p := ⟨w.heap.size + 1, 0, none⟩) (by show w.heap.size + 1 < _; omega)).trans hf0
  have hf1 := (hb2.frozen (p := ⟨w.heap.size + 1, 1, none⟩) (by show w.heap.size + 1 < _; omega)).trans hf1
  have hs2 := hb2.size
  have hlt : w.heap.size + 1 < w2.heap.size := by omega
  obtain ⟨s, hs⟩ : ∃ s, (hi % d * 18446744073709551616 + lo) / d = s := ⟨_, rfl⟩
  obtain ⟨u, hu⟩ : ∃ u, (hi % d * 18446744073709551616 + lo) % d = u := ⟨_, rfl⟩
  rw [hs, hu]
  have HS := Lib.hid hs
  have HU := Lib.hid hu
  clear hs hu
  go_wp2_with fail
  have g0 : (w2.setCell ⟨w.heap.size + 1, 0, none⟩ (.int .u64 ((hi : Int) / d))).cell? ⟨w.heap.size + 1, 0, none⟩ = some (.int .u64 ((hi : Int) / d)) := World.cell?_setCell_same _ _ _ hd0
  have g1 : ((w2.setCell ⟨w.heap.size + 1, 0, none⟩ (.int .u64 ((hi : Int) / d))).setCell ⟨w.heap.size + 1, 1, none⟩ (.int .u64 s)).cell? ⟨w.heap.size + 1, 1, none⟩ = some (.int .u64 s) := World.cell?_setCell_same _ _ _ ((World.cell?_setCell_other _ _ _ _ (by simp)).trans hd1)
  refine bodyPost_ret (v := .tuple #[.agg #[.int .u64 ((hi : Int) / d), .int .u64 s], .bool (decide (0 < (u : Int)))]) (by simp [results, Try.results66, go_sem, g0, g1]) rfl ⟨?_, ?_⟩
  · rw [HS.out, HU.out]; simp
  · have hb : Below w.heap.size w w2 := ((((Below.refl w.heap.size w).alloc (Nat.le_refl _) _).alloc (by simp) _).trans (hb1.mono (by simp; omega))).trans (hb2.mono (by omega))
    exact (hb.setCell (by simp) _).setCell (by simp) _
end Go.Proofs.Ytkjjoclbjkpdaaa
namespace Go.Proofs.Ytkjjoclbjkpdaaa
open Go.RowKit
set_option linter.unusedVariables false
set_option linter.unusedSimpArgs false
/-- the square of the doubled product -/
def ovP (a b : Int) : Nat := (2 * (a.natAbs * b.natAbs)) * (2 * (a.natAbs * b.natAbs))
def ovT (a b n : Int) : Nat := rtN (ovP a b / n.toNat)
/-- is there a rest -/
def ovR (a b n : Int) : Bool := decide (0 < ovP a b % n.toNat) || decide (ovT a b n * ovT a b n ≠ ovP a b / n.toNat)
def ovM (t : Nat) (so : Bool) : Int := if t % 2 = 1 then (if so then 1 else 0) else -1
def ovS (m : Int) (t : Nat) (so neg : Bool) : Nat := t / 2 + (if grI m (ovM t so) (so || decide (t % 2 = 1)) neg then 1 else 0)
def ovN (a b n m : Int) : Nat := ovS m (ovT a b n) (ovR a b n) (decide (sgI a b < 0))
def ovG (a b n m : Int) : Bool := decide (a.natAbs ≤ 2147483648 ∧ b.natAbs ≤ 2147483648 ∧ 1 ≤ n ∧ n ≤ 4611686018427387904 ∧ 0 ≤ m ∧ m ≤ 2)
def ovV (a b n m : Int) : Int := if ovG a b n m then sgV (ovN a b n m) (decide (sgI a b < 0)) else 0
def ovO (a b n m : Int) : Bool := if ovG a b n m then sgO (ovN a b n m) (decide (sgI a b < 0)) else false
theorem sgI_mul' (a b : Int) : sgI a b = -1 ∨ sgI a b = 0 ∨ sgI a b = 1 := by unfold sgI; (repeat' split) <;> omega
theorem bt3 {w w1 w2 : World} (h1 : Below w.heap.size w w1) (h2 : Below w1.heap.size w1 w2) : Below w.heap.size w w2 := h1.trans (h2.mono h1.size)
theorem prod_le {X Y : Nat} (hX : X ≤ 2147483648) (hY : Y ≤ 2147483648) : X * Y ≤ 4611686018427387904 := Nat.le_trans (Nat.mul_le_mul hX hY) (by decide)
set_option maxHeartbeats 2000000 in
set_option maxRecDepth 20000 in
theorem over_yes (a b n m : Int) (w : World) (hX : a.natAbs ≤ 2147483648) (hY : b.natAbs ≤ 2147483648) (hn : 1 ≤ n) (hn2 : n ≤ 4611686018427387904) (hm : 0 ≤ m) (hm2 : m ≤ 2) :
    Calls Try.prog 52 #[.int .i64 a, .int .i64 b, .int .i64 n, .int .i64 m] w fun e w' => e = .returned (.tuple #[.int .i64 (sgV (ovN a b n m) (decide (sgI a b < 0))), .bool (sgO (ovN a b n m) (decide (sgI a b < 0)))]) ∧ Below w.heap.size w w' := by
  obtain ⟨d, rfl⟩ := Int.eq_ofNat_of_zero_le (show 0 ≤ n by omega)
  have SA := fun w => Lib.hid (size_any a w (by omega) (by omega))
  have SB := fun w => Lib.hid (size_any b w (by omega) (by omega))
  have SG := fun w => Lib.hid (sign_any a b w)
  have HK := Lib.hid (known_yes m w hm hm2)
  have HN : Hid (ovN a b (d : Int) m = ovS m (ovT a b (d : Int)) (ovR a b (d : Int)) (decide (sgI a b < 0))) := rfl
  have HT : Hid (ovT a b (d : Int) = rtN (ovP a b / d)) := rfl
  have HR : Hid (ovR a b (d : Int) = (decide (0 < ovP a b % d) || decide (ovT a b (d : Int) * ovT a b (d : Int) ≠ ovP a b / d))) := rfl
  have hp1 := prod_le hX hY
  have HP : Hid (ovP a b = (2 * (a.natAbs * b.natAbs)) * (2 * (a.natAbs * b.natAbs))) := rfl
  have hp2 : ((a.natAbs : Int) * b.natAbs) = ((a.natAbs * b.natAbs : Nat) : Int) := (Int.natCast_mul _ _).symm
  generalize ovP a b = P at *
  generalize ovT a b (d : Int) = t at *
  generalize ovR a b (d : Int) = so at *
  obtain ⟨p, hp⟩ : ∃ p, a.natAbs * b.natAbs = p := ⟨_, rfl⟩
  rw [hp] at hp1 hp2 HP
  have HP2 := Lib.hid hp2
  clear hp
  have g1 : ((a.natAbs : Int) * b.natAbs) ≤ 4611686018427387904 := by rw [hp2]; omega
  have g2 : 0 ≤ ((a.natAbs : Int) * b.natAbs) := by rw [hp2]; omega
  clear hp2
  have PC : ∀ w, Hid (Calls Try.prog 67 #[.int .u64 (2 * (p : Int)), .int .u64 (2 * (p : Int))] w fun e w' => e = .returned (pairV P) ∧ Below w.heap.size w w') := fun w => by
    have h := product_any (2 * p) (2 * p) (by omega) (by omega) w
    rw [← HP.out] at h
    have e : ((2 * p : Nat) : Int) = 2 * (p : Int) := Int.natCast_mul 2 p
    rw [e] at h
    exact h
  have hPb : P < 340282366920938463463374607431768211456 := by
    rw [HP.out]
    exact Nat.lt_of_le_of_lt (Nat.mul_le_mul (show 2 * p ≤ 9223372036854775808 by omega) (show 2 * p ≤ 9223372036854775808 by omega)) (by decide)
  have QC := fun w => Lib.hid (quotient_any P d hPb (by omega) (by omega) w)
  have hQb : P / d < 340282366920938463463374607431768211456 := Nat.lt_of_le_of_lt (Nat.div_le_self _ _) hPb
  have FC := fun w => Lib.hid (floorRoot_any (P / d) hQb w)
  have HTL := Lib.hid (rtN_lt (P / d) hQb)
  rw [← HT.out] at FC HTL
  have PT := fun w => Lib.hid (product_any t t HTL.out HTL.out w)
  clear hPb hQb HP
  generalize P / d = Q at *
  generalize decide (0 < P % d) = r0 at *
  obtain ⟨qh, hqh⟩ : ∃ x, Q / 18446744073709551616 = x := ⟨_, rfl⟩
  obtain ⟨ql, hql⟩ : ∃ x, Q % 18446744073709551616 = x := ⟨_, rfl⟩
  obtain ⟨th, hth⟩ : ∃ x, t * t / 18446744073709551616 = x := ⟨_, rfl⟩
  obtain ⟨tl, htl⟩ : ∃ x, t * t % 18446744073709551616 = x := ⟨_, rfl⟩
  have HV : pairV Q = .agg #[.int .u64 qh, .int .u64 ql] := by unfold pairV; rw [hqh, hql]
  have HW : pairV (t * t) = .agg #[.int .u64 th, .int .u64 tl] := by unfold pairV; rw [hth, htl]
  have HE : Hid (t * t = Q ↔ th = qh ∧ tl = ql) := by show _ ↔ _; omega
  rw [HV] at QC FC
  rw [HW] at PT
  clear HV HW hqh hql hth htl
  have ht1 : (t : Int) ≤ 18446744073709551615 := by have := HTL.out; omega
  go_enter Try.func52, Try.ntmps52
  go_wp2_with fail
  refine (SA _).out.mono ?_
  rintro e w' ⟨rfl, rfl⟩
  go_wp2_with fail
  refine (SB _).out.mono ?_
  rintro e w' ⟨rfl, rfl⟩
  go_wp2_with fail
  refine HK.out.mono ?_
  rintro e w' ⟨rfl, rfl⟩
  go_wp2_with fail
  refine (SA _).out.mono ?_
  rintro e w' ⟨rfl, rfl⟩
  go_wp2_with fail
  refine (SB _).out.mono ?_
  rintro e w' ⟨rfl, rfl⟩
  go_upto_region 4 with fail
  rw [HP2.out]
  have g3 : (p : Int) ≤ 4611686018427387904 := by omega
  clear g1 g2 hp1
  go_wp2_with fail
  refine (PC _).out.mono ?_
  rintro e w1 ⟨rfl, hb1⟩
  go_wp2_with fail
  refine (QC _).out.mono ?_
  rintro e w2 ⟨rfl, hb2⟩
  go_wp2_with fail
  refine (FC _).out.mono ?_
  rintro e w3 ⟨rfl, hb3⟩
  go_upto_region 6 with fail
  have hc0 : w3.cell? ⟨w2.heap.size, 0, none⟩ = some (.int .u64 qh) := by
    rw [hb3.cell (p := ⟨w2.heap.size, 0, none⟩) (by show w2.heap.size < _; simp)]
    simp [go_sem]
  have hc1 : w3.cell? ⟨w2.heap.size, 1, none⟩ = some (.int .u64 ql) := by
    rw [hb3.cell (p := ⟨w2.heap.size, 1, none⟩) (by show w2.heap.size < _; simp)]
    simp [go_sem]
  have hs3 := hb3.size
  simp at hs3
  have hT : Lay w3.heap.size w3.heap.size [(⟨w2.heap.size, 0, none⟩, .int .u64 qh), (⟨w2.heap.size, 1, none⟩, .int .u64 ql)] w3 w3 :=
    ⟨by simp [hc0, hc1], by simp; omega, Nat.le_refl _, Below.refl _ _, Nat.le_refl _⟩
  have HB : Hid (Below w.heap.size w w3) := (bt3 hb1 hb2).trans (((Below.refl w2.heap.size w2).alloc (Nat.le_refl _) _).trans (hb3.mono (by simp)) |>.mono (Nat.le_trans hb1.size hb2.size))
  clear hc0 hc1
  go_cut [12] (fun s wx => s = .bool so ∧ Below w3.heap.size w3 wx)
  case first =>
    cases r0
    · by_cases h : t * t = Q
      · obtain ⟨rfl, rfl⟩ := HE.out.1 h
        have HSO : Hid (so = false) := by show so = false; rw [HR.out]; simp [h]
        (refine wp_region_class (Lay w3.heap.size w3.heap.size _ w3) (hT.next (Below.refl _ _).drew) (by kernel_rfl) (by kernel_rfl) ?_; repeat (refine wpQuiet_step (fun qK9 qH9 => ?_); go_simp; first | (refine qH9 _ ?_; clear qH9 qK9) | (apply Exists.intro; refine ⟨?_, qH9 _ ?_⟩; (first | (intros; rfl) | ((intro wx hC; first | (go_at_call 67; exact Calls.lays (PT _).out (fun _ => hC.next)) | ((have qk9 := Lay.cells hC; simp only [List.forall_mem_cons, List.not_mem_nil, false_implies, implies_true, and_true] at qk9; repeat (obtain ⟨qk8, qk9⟩ := qk9)); go_simp; first | done | rfl)))); clear qH9 qK9)))
        refine wpQuiet_nil ?_
        intro wy hC
        go_wp2_with fail
        go_meet
        refine ⟨?_, hC.be⟩
        rw [HSO.out]
      · have HSO : Hid (so = true) := by show so = true; rw [HR.out]; simp [h]
        have hne : ¬ (th = qh ∧ tl = ql) := fun g => h (HE.out.2 g)
        clear h
        by_cases h1 : th = qh
        · subst h1
          have e2 : ((tl : Int) == ql) = false := by simp; omega
          clear hne
          (refine wp_region_class (Lay w3.heap.size w3.heap.size _ w3) (hT.next (Below.refl _ _).drew) (by kernel_rfl) (by kernel_rfl) ?_; repeat (refine wpQuiet_step (fun qK9 qH9 => ?_); go_simp; first | (refine qH9 _ ?_; clear qH9 qK9) | (apply Exists.intro; refine ⟨?_, qH9 _ ?_⟩; (first | (intros; rfl) | ((intro wx hC; first | (go_at_call 67; exact Calls.lays (PT _).out (fun _ => hC.next)) | ((have qk9 := Lay.cells hC; simp only [List.forall_mem_cons, List.not_mem_nil, false_implies, implies_true, and_true] at qk9; repeat (obtain ⟨qk8, qk9⟩ := qk9)); go_simp; first | done | rfl)))); clear qH9 qK9)))
          refine wpQuiet_nil ?_
          intro wy hC
          go_wp2_with fail
          go_meet
          refine ⟨?_, hC.be⟩
          rw [HSO.out]
        · have e2 : ((th : Int) == qh) = false := by simp; omega
          clear hne h1
          (refine wp_region_class (Lay w3.heap.size w3.heap.size _ w3) (hT.next (Below.refl _ _).drew) (by kernel_rfl) (by kernel_rfl) ?_; repeat (refine wpQuiet_step (fun qK9 qH9 => ?_); go_simp; first | (refine qH9 _ ?_; clear qH9 qK9) | (apply Exists.intro; refine ⟨?_, qH9 _ ?_⟩; (first | (intros; rfl) | ((intro wx hC; first | (go_at_call 67; exact Calls.lays (PT _).out (fun _ => hC.next)) | ((have qk9 := Lay.cells hC; simp only [List.forall_mem_cons, List.not_mem_nil, false_implies, implies_true, and_true] at qk9; repeat (obtain ⟨qk8, qk9⟩ := qk9)); go_simp; first | done | rfl)))); clear qH9 qK9)))
          refine wpQuiet_nil ?_
          intro wy hC
          go_wp2_with fail
          go_meet
          refine ⟨?_, hC.be⟩
          rw [HSO.out]
    · have HSO : Hid (so = true) := by show so = true; rw [HR.out]; rfl
      (refine wp_region_class (Lay w3.heap.size w3.heap.size _ w3) (hT.next (Below.refl _ _).drew) (by kernel_rfl) (by kernel_rfl) ?_; repeat (refine wpQuiet_step (fun qK9 qH9 => ?_); go_simp; first | (refine qH9 _ ?_; clear qH9 qK9) | (apply Exists.intro; refine ⟨?_, qH9 _ ?_⟩; (first | (intros; rfl) | ((intro wx hC; first | (go_at_call 67; exact Calls.lays (PT _).out (fun _ => hC.next)) | ((have qk9 := Lay.cells hC; simp only [List.forall_mem_cons, List.not_mem_nil, false_implies, implies_true, and_true] at qk9; repeat (obtain ⟨qk8, qk9⟩ := qk9)); go_simp; first | done | rfl)))); clear qH9 qK9)))
      refine wpQuiet_nil ?_
      intro wy hC
      go_wp2_with fail
      go_meet
      refine ⟨?_, hC.be⟩
      rw [HSO.out]
  case rest =>
    obtain ⟨rfl, hb4⟩ := hcut
    have HB2 : Hid (Below w.heap.size w wc) := HB.out.trans (hb4.mono (Nat.le_trans hb1.size (Nat.le_trans hb2.size (by omega))))
    clear hb1 hb2 hb3 hb4 hT HB HE HR QC FC PC PT SA SB HK hs3
    obtain ⟨ng, hng⟩ : ∃ x, decide (sgI a b < 0) = x := ⟨_, rfl⟩
    rw [hng] at HN
    have HNG := Lib.hid hng
    have hs3 := sgI_mul' a b
    clear hng
    go_wp2_with fail
    refine (SG _).out.mono ?_
    rintro e w' ⟨rfl, rfl⟩
    go_upto_region 8 with fail
    rw [HNG.out]
    go_upto_region 9 with fail
    have HTT := Lib.hid HTL.out
    clear HTL HT
    rcases (show t % 2 = 1 ∨ t % 2 = 0 by omega) with hp | hp <;> rcases (show so = true ∨ so = false by cases so <;> simp) with hso | hso
    · -- t odd, rest true
      subst hso
      have HM : Hid (ovM t true = 1) := by show ovM t true = _; unfold ovM; rw [if_pos hp]; try rfl
      have HS : Hid (ovS m t true ng = t / 2 + (if grI m 1 true ng then 1 else 0)) := by
        show ovS m t true ng = _; unfold ovS; rw [HM.out, decide_eq_true hp]; rfl
      have e2 : ((t : Int) % 2 == 1) = true := by simp; omega
      have HB3 : Hid (t / 2 < 9223372036854775808) := by have := HTT.out; show t / 2 < _; omega
      clear hp
      cases hg : grI m 1 true ng
      · have HF : Hid (ovN a b (d : Int) m = t / 2) := by have h := HN.out; rw [HS.out, hg] at h; exact h
        have HG := fun w => Lib.hid (grows_any m 1 true ng w)
        rw [hg] at HG
        clear hg
        go_wp2_with fail
        refine (HG _).out.mono ?_
        rintro e w' ⟨rfl, rfl⟩
        go_wp2_with fail
        refine (signed_any (t / 2) ng (by have := HB3.out; omega) _).mono ?_
        rintro e w' ⟨rfl, rfl⟩
        go_wp2_with fail
        go_ret2
        exact ⟨ret_ibw (by rw [HF.out, HNG.out]) (by rw [HF.out, HNG.out]), HB2.out⟩
      · have HF : Hid (ovN a b (d : Int) m = t / 2 + 1) := by have h := HN.out; rw [HS.out, hg] at h; exact h
        have HG := fun w => Lib.hid (grows_any m 1 true ng w)
        rw [hg] at HG
        clear hg
        go_wp2_with fail
        refine (HG _).out.mono ?_
        rintro e w' ⟨rfl, rfl⟩
        go_wp2_with fail
        refine (signed_any (t / 2 + 1) ng (by have := HB3.out; omega) _).mono ?_
        rintro e w' ⟨rfl, rfl⟩
        go_wp2_with fail
        go_ret2
        exact ⟨ret_ibw (by rw [HF.out, HNG.out]) (by rw [HF.out, HNG.out]), HB2.out⟩
    · -- t odd, rest false
      subst hso
      have HM : Hid (ovM t false = 0) := by show ovM t false = _; unfold ovM; rw [if_pos hp]; try rfl
      have HS : Hid (ovS m t false ng = t / 2 + (if grI m 0 true ng then 1 else 0)) := by
        show ovS m t false ng = _; unfold ovS; rw [HM.out, decide_eq_true hp]; rfl
      have e2 : ((t : Int) % 2 == 1) = true := by simp; omega
      have HB3 : Hid (t / 2 < 9223372036854775808) := by have := HTT.out; show t / 2 < _; omega
      clear hp
      cases hg : grI m 0 true ng
      · have HF : Hid (ovN a b (d : Int) m = t / 2) := by have h := HN.out; rw [HS.out, hg] at h; exact h
        have HG := fun w => Lib.hid (grows_any m 0 true ng w)
        rw [hg] at HG
        clear hg
        go_wp2_with fail
        refine (HG _).out.mono ?_
        rintro e w' ⟨rfl, rfl⟩
        go_wp2_with fail
        refine (signed_any (t / 2) ng (by have := HB3.out; omega) _).mono ?_
        rintro e w' ⟨rfl, rfl⟩
        go_wp2_with fail
        go_ret2
        exact ⟨ret_ibw (by rw [HF.out, HNG.out]) (by rw [HF.out, HNG.out]), HB2.out⟩
      · have HF : Hid (ovN a b (d : Int) m = t / 2 + 1) := by have h := HN.out; rw [HS.out, hg] at h; exact h
        have HG := fun w => Lib.hid (grows_any m 0 true ng w)
        rw [hg] at HG
        clear hg
        go_wp2_with fail
        refine (HG _).out.mono ?_
        rintro e w' ⟨rfl, rfl⟩
        go_wp2_with fail
        refine (signed_any (t / 2 + 1) ng (by have := HB3.out; omega) _).mono ?_
        rintro e w' ⟨rfl, rfl⟩
        go_wp2_with fail
        go_ret2
        exact ⟨ret_ibw (by rw [HF.out, HNG.out]) (by rw [HF.out, HNG.out]), HB2.out⟩
    · -- t even, rest true
      subst hso
      have HM : Hid (ovM t true = (-1)) := by show ovM t true = _; unfold ovM; rw [if_neg (by omega)]; try rfl
      have HS : Hid (ovS m t true ng = t / 2 + (if grI m (-1) true ng then 1 else 0)) := by
        show ovS m t true ng = _; unfold ovS; rw [HM.out, decide_eq_false (by omega : ¬ t % 2 = 1)]; rfl
      have e2 : ((t : Int) % 2 == 1) = false := by simp; omega
      have HB3 : Hid (t / 2 < 9223372036854775808) := by have := HTT.out; show t / 2 < _; omega
      clear hp
      cases hg : grI m (-1) true ng
      · have HF : Hid (ovN a b (d : Int) m = t / 2) := by have h := HN.out; rw [HS.out, hg] at h; exact h
        have HG := fun w => Lib.hid (grows_any m (-1) true ng w)
        rw [hg] at HG
        clear hg
        go_wp2_with fail
        refine (HG _).out.mono ?_
        rintro e w' ⟨rfl, rfl⟩
        go_wp2_with fail
        refine (signed_any (t / 2) ng (by have := HB3.out; omega) _).mono ?_
        rintro e w' ⟨rfl, rfl⟩
        go_wp2_with fail
        go_ret2
        exact ⟨ret_ibw (by rw [HF.out, HNG.out]) (by rw [HF.out, HNG.out]), HB2.out⟩
      · have HF : Hid (ovN a b (d : Int) m = t / 2 + 1) := by have h := HN.out; rw [HS.out, hg] at h; exact h
        have HG := fun w => Lib.hid (grows_any m (-1) true ng w)
        rw [hg] at HG
        clear hg
        go_wp2_with fail
        refine (HG _).out.mono ?_
        rintro e w' ⟨rfl, rfl⟩
        go_wp2_with fail
        refine (signed_any (t / 2 + 1) ng (by have := HB3.out; omega) _).mono ?_
        rintro e w' ⟨rfl, rfl⟩
        go_wp2_with fail
        go_ret2
        exact ⟨ret_ibw (by rw [HF.out, HNG.out]) (by rw [HF.out, HNG.out]), HB2.out⟩
    · -- t even, rest false
      subst hso
      have HM : Hid (ovM t false = (-1)) := by show ovM t false = _; unfold ovM; rw [if_neg (by omega)]; try rfl
      have HS : Hid (ovS m t false ng = t / 2 + (if grI m (-1) false ng then 1 else 0)) := by
        show ovS m t false ng = _; unfold ovS; rw [HM.out, decide_eq_false (by omega : ¬ t % 2 = 1)]; rfl
      have e2 : ((t : Int) % 2 == 1) = false := by simp; omega
      have HB3 : Hid (t / 2 < 9223372036854775808) := by have := HTT.out; show t / 2 < _; omega
      clear hp
      cases hg : grI m (-1) false ng
      · have HF : Hid (ovN a b (d : Int) m = t / 2) := by have h := HN.out; rw [HS.out, hg] at h; exact h
        have HG := fun w => Lib.hid (grows_any m (-1) false ng w)
        rw [hg] at HG
        clear hg
        go_wp2_with fail
        refine (HG _).out.mono ?_
        rintro e w' ⟨rfl, rfl⟩
        go_wp2_with fail
        refine (signed_any (t / 2) ng (by have := HB3.out; omega) _).mono ?_
        rintro e w' ⟨rfl, rfl⟩
        go_wp2_with fail
        go_ret2
        exact ⟨ret_ibw (by rw [HF.out, HNG.out]) (by rw [HF.out, HNG.out]), HB2.out⟩
      · have HF : Hid (ovN a b (d : Int) m = t / 2 + 1) := by have h := HN.out; rw [HS.out, hg] at h; exact h
        have HG := fun w => Lib.hid (grows_any m (-1) false ng w)
        rw [hg] at HG
        clear hg
        go_wp2_with fail
        refine (HG _).out.mono ?_
        rintro e w' ⟨rfl, rfl⟩
        go_wp2_with fail
        refine (signed_any (t / 2 + 1) ng (by have := HB3.out; omega) _).mono ?_
        rintro e w' ⟨rfl, rfl⟩
        go_wp2_with fail
        go_ret2
        exact ⟨ret_ibw (by rw [HF.out, HNG.out]) (by rw [HF.out, HNG.out]), HB2.out⟩
end Go.Proofs.Ytkjjoclbjkpdaaa
namespace Go.Proofs.Ytkjjoclbjkpdaaa
open Go.RowKit
set_option linter.unusedVariables false
set_option maxHeartbeats 1000000 in
theorem over_no (a b n m : Int) (w : World) (ha : -9223372036854775808 ≤ a) (ha2 : a ≤ 9223372036854775807) (hb : -9223372036854775808 ≤ b) (hb2 : b ≤ 9223372036854775807) (h : 2147483648 < a.natAbs ∨ 2147483648 < b.natAbs ∨ n < 1 ∨ 4611686018427387904 < n ∨ m < 0 ∨ 2 < m) :
    Calls Try.prog 52 #[.int .i64 a, .int .i64 b, .int .i64 n, .int .i64 m] w fun e w' => e = .returned (.tuple #[.int .i64 0, .bool false]) ∧ Below w.heap.size w w' := by
  have SA := fun w => Lib.hid (size_any a w ha ha2)
  have SB := fun w => Lib.hid (size_any b w hb hb2)
  by_cases c1 : 2147483648 < a.natAbs
  · clear h
    go_enter Try.func52, Try.ntmps52
    go_wp2_with fail
    refine (SA _).out.mono ?_
    rintro e w' ⟨rfl, rfl⟩
    go_wp2_with fail
    go_ret2
    exact ⟨rfl, Below.refl _ _⟩
  by_cases c2 : 2147483648 < b.natAbs
  · clear h
    go_enter Try.func52, Try.ntmps52
    go_wp2_with fail
    refine (SA _).out.mono ?_
    rintro e w' ⟨rfl, rfl⟩
    go_wp2_with fail
    refine (SB _).out.mono ?_
    rintro e w' ⟨rfl, rfl⟩
    go_wp2_with fail
    go_ret2
    exact ⟨rfl, Below.refl _ _⟩
  by_cases c3 : n < 1
  · clear h
    go_enter Try.func52, Try.ntmps52
    go_wp2_with fail
    refine (SA _).out.mono ?_
    rintro e w' ⟨rfl, rfl⟩
    go_wp2_with fail
    refine (SB _).out.mono ?_
    rintro e w' ⟨rfl, rfl⟩
    go_wp2_with fail
    go_ret2
    exact ⟨rfl, Below.refl _ _⟩
  by_cases c4 : 4611686018427387904 < n
  · clear h
    go_enter Try.func52, Try.ntmps52
    go_wp2_with fail
    refine (SA _).out.mono ?_
    rintro e w' ⟨rfl, rfl⟩
    go_wp2_with fail
    refine (SB _).out.mono ?_
    rintro e w' ⟨rfl, rfl⟩
    go_wp2_with fail
    go_ret2
    exact ⟨rfl, Below.refl _ _⟩
  · have HK := Lib.hid (known_no m w (by omega))
    clear h
    go_enter Try.func52, Try.ntmps52
    go_wp2_with fail
    refine (SA _).out.mono ?_
    rintro e w' ⟨rfl, rfl⟩
    go_wp2_with fail
    refine (SB _).out.mono ?_
    rintro e w' ⟨rfl, rfl⟩
    go_wp2_with fail
    refine HK.out.mono ?_
    rintro e w' ⟨rfl, rfl⟩
    go_wp2_with fail
    go_ret2
    exact ⟨rfl, Below.refl _ _⟩
/-- WHAT Over GIVES -/
theorem over_any (a b n m : Int) (w : World) (ha : -9223372036854775808 ≤ a) (ha2 : a ≤ 9223372036854775807) (hb : -9223372036854775808 ≤ b) (hb2 : b ≤ 9223372036854775807) :
    Calls Try.prog 52 #[.int .i64 a, .int .i64 b, .int .i64 n, .int .i64 m] w fun e w' => e = .returned (.tuple #[.int .i64 (ovV a b n m), .bool (ovO a b n m)]) ∧ Below w.heap.size w w' := by
  unfold ovV ovO
  by_cases h : a.natAbs ≤ 2147483648 ∧ b.natAbs ≤ 2147483648 ∧ 1 ≤ n ∧ n ≤ 4611686018427387904 ∧ 0 ≤ m ∧ m ≤ 2
  · have e : ovG a b n m = true := decide_eq_true h
    rw [e]; exact over_yes a b n m w h.1 h.2.1 h.2.2.1 h.2.2.2.1 h.2.2.2.2.1 h.2.2.2.2.2
  · have e : ovG a b n m = false := decide_eq_false h
    rw [e]; exact over_no a b n m w ha ha2 hb hb2 (by omega)
end Go.Proofs.Ytkjjoclbjkpdaaa
namespace Go.Proofs.Ytkjjoclbjkpdaaa
open Go.RowKit
set_option linter.unusedVariables false
def rnN (q : Nat) (m half : Int) (exact neg : Bool) : Nat := q + (if grI m half (!exact) neg then 1 else 0)
/-- a number T that is built from its highest bit on -/
structure BI (T k q : Nat) : Prop where
  m : q % 2 ^ k = 0
  le : q ≤ T
  lt : T < q + 2 ^ k
theorem BI.start {T k : Nat} (h : T < 2 ^ k) : BI T k 0 := ⟨Nat.zero_mod _, Nat.zero_le _, by omega⟩
theorem BI.done {T q : Nat} (h : BI T 0 q) : q = T := by have := h.le; have := h.lt; simp at this; omega
theorem mod_half {q k : Nat} (h : q % 2 ^ (k + 1) = 0) : q % 2 ^ k = 0 := by
  obtain ⟨c, rfl⟩ := Nat.dvd_of_mod_eq_zero h
  rw [Nat.pow_succ, Nat.mul_assoc]; exact Nat.mul_mod_right _ _
theorem BI.yes {T k q : Nat} (h : BI T (k + 1) q) (hc : q + 2 ^ k ≤ T) : BI T k (q + 2 ^ k) := by
  refine ⟨by rw [Nat.add_mod_right]; exact mod_half h.m, hc, ?_⟩
  have := h.lt
  rw [Nat.pow_succ] at this; omega
theorem BI.no {T k q : Nat} (h : BI T (k + 1) q) (hc : ¬ q + 2 ^ k ≤ T) : BI T k q := ⟨mod_half h.m, h.le, by omega⟩
theorem BI.fits {T k q : Nat} (h : BI T (k + 1) q) (hT : T < 18446744073709551616) (hk : k + 1 ≤ 64) : q + 2 ^ k < 18446744073709551616 := by
  have h1 := h.le
  have e : (18446744073709551616 : Nat) = 2 ^ (64 - (k + 1)) * 2 ^ (k + 1) := by rw [← Nat.pow_add, show 64 - (k + 1) + (k + 1) = 64 by omega]
  obtain ⟨c, rfl⟩ := Nat.dvd_of_mod_eq_zero h.m
  have h2 : 2 ^ (k + 1) * c < 2 ^ (64 - (k + 1)) * 2 ^ (k + 1) := by rw [← e]; omega
  rw [Nat.mul_comm] at h2
  have h3 : c < 2 ^ (64 - (k + 1)) := Nat.lt_of_mul_lt_mul_right h2
  have h4 : (c + 1) * 2 ^ (k + 1) ≤ 2 ^ (64 - (k + 1)) * 2 ^ (k + 1) := Nat.mul_le_mul_right _ h3
  rw [← e, Nat.add_mul, Nat.one_mul, Nat.mul_comm c] at h4
  have : 2 ^ k < 2 ^ (k + 1) := Nat.pow_lt_pow_right (by decide) (by omega)
  omega
theorem rt_test {X t : Nat} (hX : X < 340282366920938463463374607431768211456) : (cmpN (t * t) X ≤ 0) ↔ t ≤ rtN X := by
  have s := rtN_spec X hX
  have h : t * t ≤ X ↔ t ≤ rtN X := by
    constructor
    · intro h
      refine Nat.le_of_not_lt fun hc => ?_
      have := sq_mono (show rtN X + 1 ≤ t from hc)
      omega
    · intro h; exact Nat.le_trans (sq_mono h) s.1
  unfold cmpN
  (repeat' split) <;> omega
theorem ot_test {X d t : Nat} (hd : 0 < d) (hX : X < 340282366920938463463374607431768211456) : (cmpN (t * t * d) X ≤ 0) ↔ t ≤ rtN (X / d) := by
  have hq : X / d < 340282366920938463463374607431768211456 := Nat.lt_of_le_of_lt (Nat.div_le_self _ _) hX
  have h := rt_test (X := X / d) (t := t) hq
  have e : t * t * d ≤ X ↔ t * t ≤ X / d := (Nat.le_div_iff_mul_le hd).symm
  rw [← h]
  unfold cmpN
  (repeat' split) <;> omega
theorem ov_ref (X d m : Nat) (mm : Int) (t T : Nat) (so ng : Bool) (hd : 0 < d) (ht1 : t * t ≤ 4 * X / d) (ht2 : 4 * X / d < (t + 1) * (t + 1)) (hT1 : T * T ≤ X / d) (hT2 : X / d < (T + 1) * (T + 1))
    (hso : so = (decide (0 < 4 * X % d) || decide (t * t ≠ 4 * X / d))) :
    rnN T mm (cmpN (4 * X) ((2 * T + 1) * (2 * T + 1) * d)) (cmpN (T * T * d) X == 0) ng = ovS mm t so ng := by
  have dm := Nat.div_add_mod (4 * X) d
  have ml := Nat.mod_lt (4 * X) hd
  have a1 : t * t * d ≤ 4 * X := (Nat.le_div_iff_mul_le hd).1 ht1
  have a2 : 4 * X < (t + 1) * (t + 1) * d := (Nat.div_lt_iff_lt_mul hd).1 ht2
  have b1 : T * T * d ≤ X := (Nat.le_div_iff_mul_le hd).1 hT1
  have b2 : X < (T + 1) * (T + 1) * d := (Nat.div_lt_iff_lt_mul hd).1 hT2
  have lo : 2 * T ≤ t := by
    refine Nat.le_of_not_lt fun hc => ?_
    have h1 := sq_mono (show t + 1 ≤ 2 * T from hc)
    have h2 := Nat.mul_le_mul_right d h1
    have e : 2 * T * (2 * T) * d = 4 * (T * T * d) := by grind
    omega
  have hi : t < 2 * T + 2 := by
    refine Nat.lt_of_not_le fun hc => ?_
    have h1 := sq_mono hc
    have h2 := Nat.mul_le_mul_right d h1
    have e : (2 * T + 2) * (2 * T + 2) * d = 4 * ((T + 1) * (T + 1) * d) := by grind
    omega
  have hs : so = decide (t * t * d ≠ 4 * X) := by
    rw [hso, ← Bool.decide_or]
    refine decide_eq_decide.mpr ?_
    constructor
    · intro h e
      rcases h with h | h
      · have : 4 * X % d = 0 := by rw [← e]; exact Nat.mul_mod_left _ _
        omega
      · exact h (by rw [← e, Nat.mul_div_cancel _ hd])
    · intro h
      refine Classical.byContradiction fun g => ?_
      obtain ⟨g1, g2⟩ := not_or.mp g
      have g2 := Classical.not_not.mp g2
      have g1 : 4 * X % d = 0 := by omega
      rw [g1, ← g2, Nat.add_zero, Nat.mul_comm] at dm
      exact h dm
  have e1 : (2 * T + 1) * (2 * T + 1) * d = 4 * (T * T * d) + 4 * (T * d) + d := by grind
  have e0 : 2 * T * (2 * T) * d = 4 * (T * T * d) := by grind
  have hex : (!(cmpN (T * T * d) X == 0)) = decide (T * T * d ≠ X) := by
    by_cases h : T * T * d = X
    · have c : cmpN (T * T * d) X = 0 := by unfold cmpN; rw [if_neg (by omega), if_pos h]
      rw [c, decide_eq_false (fun g => g h)]; rfl
    · have c : cmpN (T * T * d) X = -1 := if_pos (by omega)
      rw [c, decide_eq_true h]; rfl
  unfold rnN ovS
  rw [hex, hs]
  rcases (show t = 2 * T ∨ t = 2 * T + 1 by omega) with rfl | rfl
  · have c : cmpN (4 * X) ((2 * T + 1) * (2 * T + 1) * d) = -1 := if_pos a2
    have cm : ovM (2 * T) (decide (2 * T * (2 * T) * d ≠ 4 * X)) = -1 := by unfold ovM; rw [if_neg (by omega)]
    rw [c, cm, show 2 * T / 2 = T by omega, decide_eq_false (show ¬ 2 * T % 2 = 1 by omega), Bool.or_false]
    have : decide (2 * T * (2 * T) * d ≠ 4 * X) = decide (T * T * d ≠ X) := decide_eq_decide.mpr (by omega)
    rw [this]
  · have cm : ovM (2 * T + 1) (decide ((2 * T + 1) * (2 * T + 1) * d ≠ 4 * X)) = cmpN (4 * X) ((2 * T + 1) * (2 * T + 1) * d) := by
      unfold ovM cmpN
      rw [if_pos (by omega)]
      by_cases h : (2 * T + 1) * (2 * T + 1) * d = 4 * X
      · rw [decide_eq_false (fun g => g h), if_neg (by decide), if_neg (by omega), if_pos h.symm]
      · rw [decide_eq_true h, if_pos rfl, if_neg (by omega), if_neg (by omega)]
    rw [cm, show (2 * T + 1) / 2 = T by omega, decide_eq_true (show (2 * T + 1) % 2 = 1 by omega), Bool.or_true, decide_eq_true (show T * T * d ≠ X by omega)]
end Go.Proofs.Ytkjjoclbjkpdaaa
