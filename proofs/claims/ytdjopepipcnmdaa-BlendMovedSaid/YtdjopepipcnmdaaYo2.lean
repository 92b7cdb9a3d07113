/- Proved here: what Over of package wide returns; every argument. -/
import Derived.Test.YtdjopepipcnmdaaYo1
import Derived.Test.YtdjopepipcnmdaaWr3
import Derived.Test.YtdjopepipcnmdaaWw4
import Derived.Test.YtdjopepipcnmdaaUwL
namespace Go.Proofs.Ytdjopepipcnmdaa
open Go.RowKit
set_option linter.unusedVariables false
set_option linter.unusedSimpArgs false
/-- the square of the doubled product -/
def ovP (a b : Int) : Nat := (2 * (a.natAbs * b.natAbs)) * (2 * (a.natAbs * b.natAbs))
def ovT (a b n : Int) : Nat := rtN (ovP a b / n.toNat)
/-- is there a rest -/
def ovR (a b n : Int) : Bool := decide (0 < ovP a b % n.toNat) || decide (ovT a b n * ovT a b n ≠ ovP a b / n.toNat)
def ovM (t : Nat) (so : Bool) : Int := if t % 2 = 1 then (if so then 1 else 0) else -1
def ovS (m : Int) (t : Nat) (so neg : Bool) : Nat := t / 2 + (if grI m (ovM t so) (so || decide (t % 2 = 1)) neg then 1 else 0)
def ovN (a b n m : Int) : Nat := ovS m (ovT a b n) (ovR a b n) (decide (sgI a b < 0))
def ovG (a b n m : Int) : Bool := decide (a.natAbs ≤ 2147483648 ∧ b.natAbs ≤ 2147483648 ∧ 1 ≤ n ∧ n ≤ 4611686018427387904 ∧ 0 ≤ m ∧ m ≤ 2)
def ovV (a b n m : Int) : Int := if ovG a b n m then sgV (ovN a b n m) (decide (sgI a b < 0)) else 0
def ovO (a b n m : Int) : Bool := if ovG a b n m then sgO (ovN a b n m) (decide (sgI a b < 0)) else false
theorem sgI_mul' (a b : Int) : sgI a b = -1 ∨ sgI a b = 0 ∨ sgI a b = 1 := by unfold sgI; (repeat' split) <;> omega
theorem bt3 {w w1 w2 : World} (h1 : Below w.heap.size w w1) (h2 : Below w1.heap.size w1 w2) : Below w.heap.size w w2 := h1.trans (h2.mono h1.size)
theorem prod_le {X Y : Nat} (hX : X ≤ 2147483648) (hY : Y ≤ 2147483648) : X * Y ≤ 4611686018427387904 := Nat.le_trans (Nat.mul_le_mul hX hY) (by decide)
set_option maxHeartbeats 2000000 in
set_option maxRecDepth 20000 in
theorem over_yes (a b n m : Int) (w : World) (hX : a.natAbs ≤ 2147483648) (hY : b.natAbs ≤ 2147483648) (hn : 1 ≤ n) (hn2 : n ≤ 4611686018427387904) (hm : 0 ≤ m) (hm2 : m ≤ 2) :
    Calls Try.prog 30 #[.int .i64 a, .int .i64 b, .int .i64 n, .int .i64 m] w fun e w' => e = .returned (.tuple #[.int .i64 (sgV (ovN a b n m) (decide (sgI a b < 0))), .bool (sgO (ovN a b n m) (decide (sgI a b < 0)))]) ∧ Below w.heap.size w w' := by
  obtain ⟨d, rfl⟩ := Int.eq_ofNat_of_zero_le (show 0 ≤ n by omega)
  have SA := fun w => Lib.hid (size_any a w (by omega) (by omega))
  have SB := fun w => Lib.hid (size_any b w (by omega) (by omega))
  have SG := fun w => Lib.hid (sign_any a b w)
  have HK := Lib.hid (known_yes m w hm hm2)
  have HN : Hid (ovN a b (d : Int) m = ovS m (ovT a b (d : Int)) (ovR a b (d : Int)) (decide (sgI a b < 0))) := rfl
  have HT : Hid (ovT a b (d : Int) = rtN (ovP a b / d)) := rfl
  have HR : Hid (ovR a b (d : Int) = (decide (0 < ovP a b % d) || decide (ovT a b (d : Int) * ovT a b (d : Int) ≠ ovP a b / d))) := rfl
  have hp1 := prod_le hX hY
  have HP : Hid (ovP a b = (2 * (a.natAbs * b.natAbs)) * (2 * (a.natAbs * b.natAbs))) := rfl
  have hp2 : ((a.natAbs : Int) * b.natAbs) = ((a.natAbs * b.natAbs : Nat) : Int) := (Int.natCast_mul _ _).symm
  generalize ovP a b = P at *
  generalize ovT a b (d : Int) = t at *
  generalize ovR a b (d : Int) = so at *
  obtain ⟨p, hp⟩ : ∃ p, a.natAbs * b.natAbs = p := ⟨_, rfl⟩
  rw [hp] at hp1 hp2 HP
  have HP2 := Lib.hid hp2
  clear hp
  have g1 : ((a.natAbs : Int) * b.natAbs) ≤ 4611686018427387904 := by rw [hp2]; omega
  have g2 : 0 ≤ ((a.natAbs : Int) * b.natAbs) := by rw [hp2]; omega
  clear hp2
  have PC : ∀ w, Hid (Calls Try.prog 44 #[.int .u64 (2 * (p : Int)), .int .u64 (2 * (p : Int))] w fun e w' => e = .returned (pairV P) ∧ Below w.heap.size w w') := fun w => by
    have h := product_any (2 * p) (2 * p) (by omega) (by omega) w
    rw [← HP.out] at h
    have e : ((2 * p : Nat) : Int) = 2 * (p : Int) := Int.natCast_mul 2 p
    rw [e] at h
    exact h
  have hPb : P < 340282366920938463463374607431768211456 := by
    rw [HP.out]
    exact Nat.lt_of_le_of_lt (Nat.mul_le_mul (show 2 * p ≤ 9223372036854775808 by omega) (show 2 * p ≤ 9223372036854775808 by omega)) (by decide)
  have QC := fun w => Lib.hid (quotient_any P d hPb (by omega) (by omega) w)
  have hQb : P / d < 340282366920938463463374607431768211456 := Nat.lt_of_le_of_lt (Nat.div_le_self _ _) hPb
  have FC := fun w => Lib.hid (floorRoot_any (P / d) hQb w)
  have HTL := Lib.hid (rtN_lt (P / d) hQb)
  rw [← HT.out] at FC HTL
  have PT := fun w => Lib.hid (product_any t t HTL.out HTL.out w)
  clear hPb hQb HP
  generalize P / d = Q at *
  generalize decide (0 < P % d) = r0 at *
  obtain ⟨qh, hqh⟩ : ∃ x, Q / 18446744073709551616 = x := ⟨_, rfl⟩
  obtain ⟨ql, hql⟩ : ∃ x, Q % 18446744073709551616 = x := ⟨_, rfl⟩
  obtain ⟨th, hth⟩ : ∃ x, t * t / 18446744073709551616 = x := ⟨_, rfl⟩
  obtain ⟨tl, htl⟩ : ∃ x, t * t % 18446744073709551616 = x := ⟨_, rfl⟩
  have HV : pairV Q = .agg #[.int .u64 qh, .int .u64 ql] := by unfold pairV; rw [hqh, hql]
  have HW : pairV (t * t) = .agg #[.int .u64 th, .int .u64 tl] := by unfold pairV; rw [hth, htl]
  have HE : Hid (t * t = Q ↔ th = qh ∧ tl = ql) := by show _ ↔ _; omega
  rw [HV] at QC FC
  rw [HW] at PT
  clear HV HW hqh hql hth htl
  have ht1 : (t : Int) ≤ 18446744073709551615 := by have := HTL.out; omega
  go_enter Try.func30, Try.ntmps30
  go_wp2_with fail
  refine (SA _).out.mono ?_
  rintro e w' ⟨rfl, rfl⟩
  go_wp2_with fail
  refine (SB _).out.mono ?_
  rintro e w' ⟨rfl, rfl⟩
  go_wp2_with fail
  refine HK.out.mono ?_
  rintro e w' ⟨rfl, rfl⟩
  go_wp2_with fail
  refine (SA _).out.mono ?_
  rintro e w' ⟨rfl, rfl⟩
  go_wp2_with fail
  refine (SB _).out.mono ?_
  rintro e w' ⟨rfl, rfl⟩
  go_upto_region 4 with fail
  rw [HP2.out]
  have g3 : (p : Int) ≤ 4611686018427387904 := by omega
  clear g1 g2 hp1
  go_wp2_with fail
  refine (PC _).out.mono ?_
  rintro e w1 ⟨rfl, hb1⟩
  go_wp2_with fail
  refine (QC _).out.mono ?_
  rintro e w2 ⟨rfl, hb2⟩
  go_wp2_with fail
  refine (FC _).out.mono ?_
  rintro e w3 ⟨rfl, hb3⟩
  go_upto_region 6 with fail
  have hc0 : w3.cell? ⟨w2.heap.size, 0, none⟩ = some (.int .u64 qh) := by
    rw [hb3.cell (p := ⟨w2.heap.size, 0, none⟩) (by show w2.heap.size < _; simp)]
    simp [go_sem]
  have hc1 : w3.cell? ⟨w2.heap.size, 1, none⟩ = some (.int .u64 ql) := by
    rw [hb3.cell (p := ⟨w2.heap.size, 1, none⟩) (by show w2.heap.size < _; simp)]
    simp [go_sem]
  have hs3 := hb3.size
  simp at hs3
  have hT : Lay w3.heap.size w3.heap.size [(⟨w2.heap.size, 0, none⟩, .int .u64 qh), (⟨w2.heap.size, 1, none⟩, .int .u64 ql)] w3 w3 :=
    ⟨by simp [hc0, hc1], by simp; omega, Nat.le_refl _, Below.refl _ _, Nat.le_refl _⟩
  have HB : Hid (Below w.heap.size w w3) := (bt3 hb1 hb2).trans (((Below.refl w2.heap.size w2).alloc (Nat.le_refl _) _).trans (hb3.mono (by simp)) |>.mono (Nat.le_trans hb1.size hb2.size))
  clear hc0 hc1
  go_cut [12] (fun s wx => s = .bool so ∧ Below w3.heap.size w3 wx)
  case first =>
    cases r0
    · by_cases h : t * t = Q
      · obtain ⟨rfl, rfl⟩ := HE.out.1 h
        have HSO : Hid (so = false) := by show so = false; rw [HR.out]; simp [h]
        (refine wp_region_class (Lay w3.heap.size w3.heap.size _ w3) (hT.next (Below.refl _ _).drew) (by kernel_rfl) (by kernel_rfl) ?_; repeat (refine wpQuiet_step (fun qK9 qH9 => ?_); go_simp; first | (refine qH9 _ ?_; clear qH9 qK9) | (apply Exists.intro; refine ⟨?_, qH9 _ ?_⟩; (first | (intros; rfl) | ((intro wx hC; first | (go_at_call 44; exact Calls.lays (PT _).out (fun _ => hC.next)) | ((have qk9 := Lay.cells hC; simp only [List.forall_mem_cons, List.not_mem_nil, false_implies, implies_true, and_true] at qk9; repeat (obtain ⟨qk8, qk9⟩ := qk9)); go_simp; first | done | rfl)))); clear qH9 qK9)))
        refine wpQuiet_nil ?_
        intro wy hC
        go_wp2_with fail
        go_meet
        refine ⟨?_, hC.be⟩
        rw [HSO.out]
      · have HSO : Hid (so = true) := by show so = true; rw [HR.out]; simp [h]
        have hne : ¬ (th = qh ∧ tl = ql) := fun g => h (HE.out.2 g)
        clear h
        by_cases h1 : th = qh
        · subst h1
          have e2 : ((tl : Int) == ql) = false := by simp; omega
          clear hne
          (refine wp_region_class (Lay w3.heap.size w3.heap.size _ w3) (hT.next (Below.refl _ _).drew) (by kernel_rfl) (by kernel_rfl) ?_; repeat (refine wpQuiet_step (fun qK9 qH9 => ?_); go_simp; first | (refine qH9 _ ?_; clear qH9 qK9) | (apply Exists.intro; refine ⟨?_, qH9 _ ?_⟩; (first | (intros; rfl) | ((intro wx hC; first | (go_at_call 44; exact Calls.lays (PT _).out (fun _ => hC.next)) | ((have qk9 := Lay.cells hC; simp only [List.forall_mem_cons, List.not_mem_nil, false_implies, implies_true, and_true] at qk9; repeat (obtain ⟨qk8, qk9⟩ := qk9)); go_simp; first | done | rfl)))); clear qH9 qK9)))
          refine wpQuiet_nil ?_
          intro wy hC
          go_wp2_with fail
          go_meet
          refine ⟨?_, hC.be⟩
          rw [HSO.out]
        · have e2 : ((th : Int) == qh) = false := by simp; omega
          clear hne h1
          (refine wp_region_class (Lay w3.heap.size w3.heap.size _ w3) (hT.next (Below.refl _ _).drew) (by kernel_rfl) (by kernel_rfl) ?_; repeat (refine wpQuiet_step (fun qK9 qH9 => ?_); go_simp; first | (refine qH9 _ ?_; clear qH9 qK9) | (apply Exists.intro; refine ⟨?_, qH9 _ ?_⟩; (first | (intros; rfl) | ((intro wx hC; first | (go_at_call 44; exact Calls.lays (PT _).out (fun _ => hC.next)) | ((have qk9 := Lay.cells hC; simp only [List.forall_mem_cons, List.not_mem_nil, false_implies, implies_true, and_true] at qk9; repeat (obtain ⟨qk8, qk9⟩ := qk9)); go_simp; first | done | rfl)))); clear qH9 qK9)))
          refine wpQuiet_nil ?_
          intro wy hC
          go_wp2_with fail
          go_meet
          refine ⟨?_, hC.be⟩
          rw [HSO.out]
    · have HSO : Hid (so = true) := by show so = true; rw [HR.out]; rfl
      (refine wp_region_class (Lay w3.heap.size w3.heap.size _ w3) (hT.next (Below.refl _ _).drew) (by kernel_rfl) (by kernel_rfl) ?_; repeat (refine wpQuiet_step (fun qK9 qH9 => ?_); go_simp; first | (refine qH9 _ ?_; clear qH9 qK9) | (apply Exists.intro; refine ⟨?_, qH9 _ ?_⟩; (first | (intros; rfl) | ((intro wx hC; first | (go_at_call 44; exact Calls.lays (PT _).out (fun _ => hC.next)) | ((have qk9 := Lay.cells hC; simp only [List.forall_mem_cons, List.not_mem_nil, false_implies, implies_true, and_true] at qk9; repeat (obtain ⟨qk8, qk9⟩ := qk9)); go_simp; first | done | rfl)))); clear qH9 qK9)))
      refine wpQuiet_nil ?_
      intro wy hC
      go_wp2_with fail
      go_meet
      refine ⟨?_, hC.be⟩
      rw [HSO.out]
  case rest =>
    obtain ⟨rfl, hb4⟩ := hcut
    have HB2 : Hid (Below w.heap.size w wc) := HB.out.trans (hb4.mono (Nat.le_trans hb1.size (Nat.le_trans hb2.size (by omega))))
    clear hb1 hb2 hb3 hb4 hT HB HE HR QC FC PC PT SA SB HK hs3
    obtain ⟨ng, hng⟩ : ∃ x, decide (sgI a b < 0) = x := ⟨_, rfl⟩
    rw [hng] at HN
    have HNG := Lib.hid hng
    have hs3 := sgI_mul' a b
    clear hng
    go_wp2_with fail
    refine (SG _).out.mono ?_
    rintro e w' ⟨rfl, rfl⟩
    go_upto_region 8 with fail
    rw [HNG.out]
    go_upto_region 9 with fail
    have HTT := Lib.hid HTL.out
    clear HTL HT
    rcases (show t % 2 = 1 ∨ t % 2 = 0 by omega) with hp | hp <;> rcases (show so = true ∨ so = false by cases so <;> simp) with hso | hso
    · -- t odd, rest true
      subst hso
      have HM : Hid (ovM t true = 1) := by show ovM t true = _; unfold ovM; rw [if_pos hp]; try rfl
      have HS : Hid (ovS m t true ng = t / 2 + (if grI m 1 true ng then 1 else 0)) := by
        show ovS m t true ng = _; unfold ovS; rw [HM.out, decide_eq_true hp]; rfl
      have e2 : ((t : Int) % 2 == 1) = true := by simp; omega
      have HB3 : Hid (t / 2 < 9223372036854775808) := by have := HTT.out; show t / 2 < _; omega
      clear hp
      cases hg : grI m 1 true ng
      · have HF : Hid (ovN a b (d : Int) m = t / 2) := by have h := HN.out; rw [HS.out, hg] at h; exact h
        have HG := fun w => Lib.hid (grows_any m 1 true ng w)
        rw [hg] at HG
        clear hg
        go_wp2_with fail
        refine (HG _).out.mono ?_
        rintro e w' ⟨rfl, rfl⟩
        go_wp2_with fail
        refine (signed_any (t / 2) ng (by have := HB3.out; omega) _).mono ?_
        rintro e w' ⟨rfl, rfl⟩
        go_wp2_with fail
        go_ret2
        exact ⟨ret_ibw (by rw [HF.out, HNG.out]) (by rw [HF.out, HNG.out]), HB2.out⟩
      · have HF : Hid (ovN a b (d : Int) m = t / 2 + 1) := by have h := HN.out; rw [HS.out, hg] at h; exact h
        have HG := fun w => Lib.hid (grows_any m 1 true ng w)
        rw [hg] at HG
        clear hg
        go_wp2_with fail
        refine (HG _).out.mono ?_
        rintro e w' ⟨rfl, rfl⟩
        go_wp2_with fail
        refine (signed_any (t / 2 + 1) ng (by have := HB3.out; omega) _).mono ?_
        rintro e w' ⟨rfl, rfl⟩
        go_wp2_with fail
        go_ret2
        exact ⟨ret_ibw (by rw [HF.out, HNG.out]) (by rw [HF.out, HNG.out]), HB2.out⟩
    · -- t odd, rest false
      subst hso
      have HM : Hid (ovM t false = 0) := by show ovM t false = _; unfold ovM; rw [if_pos hp]; try rfl
      have HS : Hid (ovS m t false ng = t / 2 + (if grI m 0 true ng then 1 else 0)) := by
        show ovS m t false ng = _; unfold ovS; rw [HM.out, decide_eq_true hp]; rfl
      have e2 : ((t : Int) % 2 == 1) = true := by simp; omega
      have HB3 : Hid (t / 2 < 9223372036854775808) := by have := HTT.out; show t / 2 < _; omega
      clear hp
      cases hg : grI m 0 true ng
      · have HF : Hid (ovN a b (d : Int) m = t / 2) := by have h := HN.out; rw [HS.out, hg] at h; exact h
        have HG := fun w => Lib.hid (grows_any m 0 true ng w)
        rw [hg] at HG
        clear hg
        go_wp2_with fail
        refine (HG _).out.mono ?_
        rintro e w' ⟨rfl, rfl⟩
        go_wp2_with fail
        refine (signed_any (t / 2) ng (by have := HB3.out; omega) _).mono ?_
        rintro e w' ⟨rfl, rfl⟩
        go_wp2_with fail
        go_ret2
        exact ⟨ret_ibw (by rw [HF.out, HNG.out]) (by rw [HF.out, HNG.out]), HB2.out⟩
      · have HF : Hid (ovN a b (d : Int) m = t / 2 + 1) := by have h := HN.out; rw [HS.out, hg] at h; exact h
        have HG := fun w => Lib.hid (grows_any m 0 true ng w)
        rw [hg] at HG
        clear hg
        go_wp2_with fail
        refine (HG _).out.mono ?_
        rintro e w' ⟨rfl, rfl⟩
        go_wp2_with fail
        refine (signed_any (t / 2 + 1) ng (by have := HB3.out; omega) _).mono ?_
        rintro e w' ⟨rfl, rfl⟩
        go_wp2_with fail
        go_ret2
        exact ⟨ret_ibw (by rw [HF.out, HNG.out]) (by rw [HF.out, HNG.out]), HB2.out⟩
    · -- t even, rest true
      subst hso
      have HM : Hid (ovM t true = (-1)) := by show ovM t true = _; unfold ovM; rw [if_neg (by omega)]; try rfl
      have HS : Hid (ovS m t true ng = t / 2 + (if grI m (-1) true ng then 1 else 0)) := by
        show ovS m t true ng = _; unfold ovS; rw [HM.out, decide_eq_false (by omega : ¬ t % 2 = 1)]; rfl
      have e2 : ((t : Int) % 2 == 1) = false := by simp; omega
      have HB3 : Hid (t / 2 < 9223372036854775808) := by have := HTT.out; show t / 2 < _; omega
      clear hp
      cases hg : grI m (-1) true ng
      · have HF : Hid (ovN a b (d : Int) m = t / 2) := by have h := HN.out; rw [HS.out, hg] at h; exact h
        have HG := fun w => Lib.hid (grows_any m (-1) true ng w)
        rw [hg] at HG
        clear hg
        go_wp2_with fail
        refine (HG _).out.mono ?_
        rintro e w' ⟨rfl, rfl⟩
        go_wp2_with fail
        refine (signed_any (t / 2) ng (by have := HB3.out; omega) _).mono ?_
        rintro e w' ⟨rfl, rfl⟩
        go_wp2_with fail
        go_ret2
        exact ⟨ret_ibw (by rw [HF.out, HNG.out]) (by rw [HF.out, HNG.out]), HB2.out⟩
      · have HF : Hid (ovN a b (d : Int) m = t / 2 + 1) := by have h := HN.out; rw [HS.out, hg] at h; exact h
        have HG := fun w => Lib.hid (grows_any m (-1) true ng w)
        rw [hg] at HG
        clear hg
        go_wp2_with fail
        refine (HG _).out.mono ?_
        rintro e w' ⟨rfl, rfl⟩
        go_wp2_with fail
        refine (signed_any (t / 2 + 1) ng (by have := HB3.out; omega) _).mono ?_
        rintro e w' ⟨rfl, rfl⟩
        go_wp2_with fail
        go_ret2
        exact ⟨ret_ibw (by rw [HF.out, HNG.out]) (by rw [HF.out, HNG.out]), HB2.out⟩
    · -- t even, rest false
      subst hso
      have HM : Hid (ovM t false = (-1)) := by show ovM t false = _; unfold ovM; rw [if_neg (by omega)]; try rfl
      have HS : Hid (ovS m t false ng = t / 2 + (if grI m (-1) false ng then 1 else 0)) := by
        show ovS m t false ng = _; unfold ovS; rw [HM.out, decide_eq_false (by omega : ¬ t % 2 = 1)]; rfl
      have e2 : ((t : Int) % 2 == 1) = false := by simp; omega
      have HB3 : Hid (t / 2 < 9223372036854775808) := by have := HTT.out; show t / 2 < _; omega
      clear hp
      cases hg : grI m (-1) false ng
      · have HF : Hid (ovN a b (d : Int) m = t / 2) := by have h := HN.out; rw [HS.out, hg] at h; exact h
        have HG := fun w => Lib.hid (grows_any m (-1) false ng w)
        rw [hg] at HG
        clear hg
        go_wp2_with fail
        refine (HG _).out.mono ?_
        rintro e w' ⟨rfl, rfl⟩
        go_wp2_with fail
        refine (signed_any (t / 2) ng (by have := HB3.out; omega) _).mono ?_
        rintro e w' ⟨rfl, rfl⟩
        go_wp2_with fail
        go_ret2
        exact ⟨ret_ibw (by rw [HF.out, HNG.out]) (by rw [HF.out, HNG.out]), HB2.out⟩
      · have HF : Hid (ovN a b (d : Int) m = t / 2 + 1) := by have h := HN.out; rw [HS.out, hg] at h; exact h
        have HG := fun w => Lib.hid (grows_any m (-1) false ng w)
        rw [hg] at HG
        clear hg
        go_wp2_with fail
        refine (HG _).out.mono ?_
        rintro e w' ⟨rfl, rfl⟩
        go_wp2_with fail
        refine (signed_any (t / 2 + 1) ng (by have := HB3.out; omega) _).mono ?_
        rintro e w' ⟨rfl, rfl⟩
        go_wp2_with fail
        go_ret2
        exact ⟨ret_ibw (by rw [HF.out, HNG.out]) (by rw [HF.out, HNG.out]), HB2.out⟩
end Go.Proofs.Ytdjopepipcnmdaa
