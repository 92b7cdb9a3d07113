/- Proved here: the reference's root, Root and Sqrt give what the program's give, for every argument. -/
import Derived.Test.YtlblodiamcnnpaaLs6
import Derived.Test.YtlblodiamcnnpaaWr4
namespace Go.Proofs.Ytlblodiamcnnpaa
open Go.RowKit
set_option linter.unusedVariables false
theorem or_shift {T j q : Nat} (h : BI T (j + 1) q) (hT : T < 18446744073709551616) (hk : j + 1 ≤ 64) : bits .or .u64 (q : Int) (IntKind.u64.wrap (2 ^ j)) = ((q + 2 ^ j : Nat) : Int) := by
  have f := h.fits hT hk
  have p0 := Nat.pow_pos (n := j) (show 0 < 2 by decide)
  have e : (2 : Int) ^ j = ((2 ^ j : Nat) : Int) := by simp
  rw [e, wrapU (by omega)]
  exact or_bit (k := j + 1) (by omega) (by omega) h.m (Nat.pow_lt_pow_right (by decide) (by omega))
def roG (a b m : Int) : Bool := decide (0 ≤ a ∧ 0 ≤ b ∧ 0 ≤ m ∧ m ≤ 2)
def roV (a b m : Int) : Int := if roG a b m then sgV (rootN (a.toNat * b.toNat) m) false else 0
def roO (a b m : Int) : Bool := if roG a b m then sgO (rootN (a.toNat * b.toNat) m) false else false
theorem ro_not (a b m : Int) (h : a < 0 ∨ b < 0 ∨ m < 0 ∨ 2 < m) : roO a b m = false ∧ roV a b m = 0 := by
  have e : roG a b m = false := decide_eq_false (by omega)
  unfold roO roV; rw [e]; exact ⟨rfl, rfl⟩
theorem rt_test {X t : Nat} (hX : X < 340282366920938463463374607431768211456) : (cmpN (t * t) X ≤ 0) ↔ t ≤ rtN X := by
  have s := rtN_spec X hX
  have h : t * t ≤ X ↔ t ≤ rtN X := by
    constructor
    · intro h
      refine Nat.le_of_not_lt fun hc => ?_
      have := sq_mono (show rtN X + 1 ≤ t from hc)
      omega
    · intro h; exact Nat.le_trans (sq_mono h) s.1
  unfold cmpN
  (repeat' split) <;> omega
def rhI (X : Nat) : Int := if rtN X * (rtN X + 1) < X then 1 else -1
set_option maxHeartbeats 4000000 in
set_option maxRecDepth 20000 in
theorem rootR_any (X : Nat) (hX : X < 85070591730234615865843651857942052864) (u : Value) (w : World) (hu : Sl w u (dg X)) :
    Calls Try.prog 56 #[u] w fun e w' => e = .returned (.tuple #[.int .u64 (rtN X : Int), .bool (cmpN (rtN X * rtN X) X == 0), .int .i64 (rhI X)]) ∧ Below w.heap.size w w' := by
  have HU := Lib.hid hu
  have hX2 : X < 340282366920938463463374607431768211456 := by omega
  have HS := Lib.hid (rtN_spec X hX2)
  have HXL : Hid ((dg X).length ≤ 8) := dg_len 8 X (Nat.lt_of_lt_of_le hX2 (by decide))
  have HTT := fun t => Lib.hid (rt_test (t := t) hX2)
  have HR : Hid (rhI X = if rtN X * (rtN X + 1) < X then 1 else -1) := rfl
  have HT63 : Hid (rtN X < 9223372036854775808) := by
    refine Nat.lt_of_not_le fun hc => ?_
    have h1 := sq_mono hc
    have h2 := HS.out.1
    exact absurd (Nat.lt_of_le_of_lt (Nat.le_trans h1 h2) hX) (by decide)
  have HT : Hid (rtN X < 18446744073709551616) := by have := HT63.out; show rtN X < _; omega
  generalize rhI X = hf at *
  generalize rtN X = T at *
  clear hX hX2 hu
  go_enter Try.func56, Try.ntmps56
  go_wp2_with fail
  go_loopw [5, 6] (fun s t wr => ∃ (k q : Nat) (i : Int), s = .int .u64 (q : Int) ∧ t = .int .i64 i ∧ i = (k : Int) - 1 ∧ k ≤ 63 ∧ BI T k q ∧ Below w.heap.size w wr) (fun _ t _ => (intOf t + 1).toNat)
  case atStart => exact ⟨63, 0, _, rfl, rfl, by decide, by decide, BI.start (by have := HT63.out; omega), Below.refl _ _⟩
  case round =>
  obtain ⟨k, q, i, rfl, rfl, hi, hk, hbi, hb3⟩ := hrel
  have HBI := Lib.hid hbi
  clear hbi
  rcases Nat.eq_zero_or_pos k with h0 | h0
  · subst h0
    obtain rfl : i = -1 := by omega
    clear hi
    obtain rfl : q = T := HBI.out.done
    have HQL : Hid ((dg q).length ≤ 4) := dg_len 4 q HT.out
    have HQ1 : Hid (q + 1 < 18446744073709551616) := by have := HT63.out; show q + 1 < _; omega
    have HW1 : Hid (IntKind.u64.wrap ((q : Int) + 1) = ((q + 1 : Nat) : Int)) := wrapU HQ1.out
    have HP1 := Lib.hid (prod8 HT.out HQ1.out)
    have HP2 := Lib.hid (prod8 HT.out HT.out)
    have HC1 : Hid (decide (0 < cmpN X (q * (q + 1))) = decide (q * (q + 1) < X)) := by
      refine decide_eq_decide.mpr ?_
      unfold cmpN; (repeat' split) <;> omega
    clear HTT
    have hq63 : (q : Int) ≤ 9223372036854775807 := by have := HT63.out; omega
    go_wp2_with fail
    refine (limbs_any q HT.out _).mono ?_
    rintro e w3 ⟨x1, rfl, h1, hb4⟩
    go_wp2_with fail
    refine (limbs_any (q + 1) HQ1.out _).mono ?_
    rintro e w4 ⟨x2, rfl, h2, hb5⟩
    go_wp2_with fail
    refine (mulL_any q (q + 1) x1 x2 w4 (h1.next hb5) h2 (by have := HQL.out; omega) (by have := dg_len 4 _ HQ1.out; omega)).mono ?_
    rintro e w5 ⟨x3, rfl, h3, hb6⟩
    have HW5 := Lib.hid (btW (btW (btW hb3 hb4) hb5) hb6)
    clear hb3 hb4 hb5 hb6 h1 h2
    go_wp2_with fail
    refine (cmpL_any X (q * (q + 1)) u x3 w5 (HU.out.next HW5.out) h3 (by have := HXL.out; omega) (by have := HP1.out; omega)).mono ?_
    rintro e w6 ⟨rfl, hb7⟩
    have HW6 := Lib.hid (btW HW5.out hb7)
    clear hb7 h3
    by_cases hc : q * (q + 1) < X
    · have e1 : decide (0 < cmpN X (q * (q + 1))) = true := by rw [HC1.out]; exact decide_eq_true hc
      have HH : Hid (hf = 1) := by have := HR.out; rw [if_pos hc] at this; exact this
      generalize cmpN X (q * (q + 1)) = z at *
      clear hc HC1
      go_wp2_with fail
      refine (limbs_any q HT.out _).mono ?_
      rintro e w7 ⟨x4, rfl, h4, hb8⟩
      go_wp2_with fail
      refine (limbs_any q HT.out _).mono ?_
      rintro e w8 ⟨x5, rfl, h5, hb9⟩
      go_wp2_with fail
      refine (mulL_any q q x4 x5 w8 (h4.next hb9) h5 (by have := HQL.out; omega) (by have := HQL.out; omega)).mono ?_
      rintro e w9 ⟨x6, rfl, h6, hb10⟩
      go_wp2_with fail
      refine (cmpL_any (q * q) X x6 u w9 h6 (HU.out.next (btW (btW (btW HW6.out hb8) hb9) hb10)) (by have := HP2.out; omega) (by have := HXL.out; omega)).mono ?_
      rintro e w10 ⟨rfl, hb11⟩
      go_wp2_with fail
      exact bodyPost_ret (v := .tuple #[.int .u64 (q : Int), .bool (cmpN (q * q) X == 0), .int .i64 (1)]) (by simp [results, Try.results56, go_sem]) rfl ⟨by rw [HH.out], btW (btW (btW (btW HW6.out hb8) hb9) hb10) hb11⟩
    · have e1 : decide (0 < cmpN X (q * (q + 1))) = false := by rw [HC1.out]; exact decide_eq_false hc
      have HH : Hid (hf = -1) := by have := HR.out; rw [if_neg hc] at this; exact this
      generalize cmpN X (q * (q + 1)) = z at *
      clear hc HC1
      go_wp2_with fail
      refine (limbs_any q HT.out _).mono ?_
      rintro e w7 ⟨x4, rfl, h4, hb8⟩
      go_wp2_with fail
      refine (limbs_any q HT.out _).mono ?_
      rintro e w8 ⟨x5, rfl, h5, hb9⟩
      go_wp2_with fail
      refine (mulL_any q q x4 x5 w8 (h4.next hb9) h5 (by have := HQL.out; omega) (by have := HQL.out; omega)).mono ?_
      rintro e w9 ⟨x6, rfl, h6, hb10⟩
      go_wp2_with fail
      refine (cmpL_any (q * q) X x6 u w9 h6 (HU.out.next (btW (btW (btW HW6.out hb8) hb9) hb10)) (by have := HP2.out; omega) (by have := HXL.out; omega)).mono ?_
      rintro e w10 ⟨rfl, hb11⟩
      go_wp2_with fail
      exact bodyPost_ret (v := .tuple #[.int .u64 (q : Int), .bool (cmpN (q * q) X == 0), .int .i64 (-1)]) (by simp [results, Try.results56, go_sem]) rfl ⟨by rw [HH.out], btW (btW (btW (btW HW6.out hb8) hb9) hb10) hb11⟩
  · obtain ⟨j, rfl⟩ : ∃ j, k = j + 1 := ⟨k - 1, by omega⟩
    obtain rfl : i = (j : Int) := by omega
    clear hi h0
    have HO := Lib.hid (or_shift HBI.out HT.out (by omega))
    have HF := Lib.hid (HBI.out.fits HT.out (by omega))
    have HY : Hid (q + 2 ^ j ≤ T → BI T j (q + 2 ^ j)) := HBI.out.yes
    have HN : Hid (¬ q + 2 ^ j ≤ T → BI T j q) := HBI.out.no
    go_wp2_with fail
    rw [HO.out]
    obtain ⟨t, ht⟩ : ∃ t, q + 2 ^ j = t := ⟨_, rfl⟩
    rw [ht] at HO HF HY HN ⊢
    clear ht
    refine (limbs_any t HF.out _).mono ?_
    rintro e w3 ⟨x1, rfl, h1, hb4⟩
    go_wp2_with fail
    refine (mulL_any t t x1 x1 w3 h1 h1 (by have := dg_len 4 t HF.out; omega) (by have := dg_len 4 t HF.out; omega)).mono ?_
    rintro e w4 ⟨x2, rfl, h2, hb5⟩
    go_wp2_with fail
    refine (cmpL_any (t * t) X x2 u w4 h2 (HU.out.next (btW (btW hb3 hb4) hb5)) (by have := prod8 HF.out HF.out; omega) (by have := HXL.out; omega)).mono ?_
    rintro e w5 ⟨rfl, hb6⟩
    have HW := Lib.hid (btW (btW (btW hb3 hb4) hb5) hb6)
    clear hb3 hb4 hb5 hb6 h1 h2
    have HC := HTT t
    by_cases hc : t ≤ T
    · have e1 : decide (cmpN (t * t) X ≤ 0) = true := decide_eq_true (HC.out.2 hc)
      have HQ := Lib.hid (HY.out hc)
      clear HC hc HY HN
      generalize cmpN (t * t) X = z at *
      go_wp2_with fail
      go_roundw
      case rel => exact ⟨j, t, _, by rw [HO.out], rfl, rfl, by omega, HQ.out, HW.out⟩
      case measure => simp [intOf]
    · have e1 : decide (cmpN (t * t) X ≤ 0) = false := decide_eq_false (fun h => hc (HC.out.1 h))
      have HQ := Lib.hid (HN.out hc)
      clear HC hc HY HN
      generalize cmpN (t * t) X = z at *
      go_wp2_with fail
      go_roundw
      case rel => exact ⟨j, q, _, rfl, rfl, rfl, by omega, HQ.out, HW.out⟩
      case measure => simp [intOf]
theorem ro_ref (X : Nat) (m : Int) (hX : X < 340282366920938463463374607431768211456) (hm : 0 ≤ m) (hm2 : m ≤ 2) : rnN (rtN X) m (rhI X) (cmpN (rtN X * rtN X) X == 0) false = rootN X m := by
  have s := rtN_spec X hX
  unfold rnN rootN rhI
  generalize rtN X = r at *
  have e : (r + 1) * (r + 1) = r * r + 2 * r + 1 := by grind
  have e2 : r * (r + 1) = r * r + r := by grind
  rw [e] at s
  rw [e2]
  have hs : (!(cmpN (r * r) X == 0)) = decide (0 < X - r * r) := by
    by_cases h : r * r = X
    · have c : cmpN (r * r) X = 0 := by unfold cmpN; rw [if_neg (by omega), if_pos h]
      rw [c, decide_eq_false (by omega)]; rfl
    · have c : cmpN (r * r) X = -1 := if_pos (by omega)
      rw [c, decide_eq_true (by omega)]; rfl
  rw [hs]
  congr 2
  rcases (show m = 0 ∨ m = 1 ∨ m = 2 by omega) with rfl | rfl | rfl
  · rw [grI_0, up_false (by omega), Bool.and_false]
  · rw [grI_1]
    by_cases h : 0 < X - r * r
    · rw [up_true (Or.inl ⟨rfl, h⟩), decide_eq_true h]; rfl
    · rw [up_false (by omega), decide_eq_false h]; rfl
  · rw [grI_2 _ _ (by decide) (by decide)]
    by_cases h : r < X - r * r
    · rw [up_true (Or.inr ⟨rfl, h⟩), if_pos (by omega)]; rfl
    · rw [up_false (by omega), if_neg (by omega)]; rfl
theorem ro_one (n m : Int) : roV n 1 m = sqV n m ∧ roO n 1 m = sqO n m := by
  have e : roG n 1 m = sqG n m := by unfold roG sqG; exact decide_eq_decide.mpr (by omega)
  unfold roV roO sqV sqO
  rw [e, show (1 : Int).toNat = 1 from rfl, Nat.mul_one]
  exact ⟨rfl, rfl⟩
set_option maxHeartbeats 1000000 in
theorem RootR_yes (a b m : Int) (w : World) (ha : 0 ≤ a) (ha1 : a ≤ 9223372036854775807) (hb : 0 ≤ b) (hb1 : b ≤ 9223372036854775807) (hm : 0 ≤ m) (hm2 : m ≤ 2) :
    Calls Try.prog 50 #[.int .i64 a, .int .i64 b, .int .i64 m] w fun e w' => e = .returned (.tuple #[.int .i64 (roV a b m), .bool (roO a b m)]) ∧ Below w.heap.size w w' := by
  have hg : roG a b m = true := decide_eq_true ⟨ha, hb, hm, hm2⟩
  have HK := Lib.hid (rightR_yes m w hm hm2)
  have PR := fun w => Lib.hid (productR_any a b w (by omega) ha1 (by omega) hb1)
  have hP : a.natAbs * b.natAbs < 85070591730234615865843651857942052864 := by
    have h := Nat.mul_le_mul (show a.natAbs ≤ 9223372036854775807 by omega) (show b.natAbs ≤ 9223372036854775807 by omega)
    exact Nat.lt_of_le_of_lt h (by decide)
  have e : a.toNat * b.toNat = a.natAbs * b.natAbs := by rw [show a.toNat = a.natAbs by omega, show b.toNat = b.natAbs by omega]
  have HV : Hid (roV a b m = sgV (rnN (rtN (a.natAbs * b.natAbs)) m (rhI (a.natAbs * b.natAbs)) (cmpN (rtN (a.natAbs * b.natAbs) * rtN (a.natAbs * b.natAbs)) (a.natAbs * b.natAbs) == 0) false) false
      ∧ roO a b m = sgO (rnN (rtN (a.natAbs * b.natAbs)) m (rhI (a.natAbs * b.natAbs)) (cmpN (rtN (a.natAbs * b.natAbs) * rtN (a.natAbs * b.natAbs)) (a.natAbs * b.natAbs) == 0) false) false) := by
    show _ ∧ _
    rw [ro_ref _ m (by omega) hm hm2]
    unfold roV roO
    rw [hg, if_pos rfl, if_pos rfl, e]
    exact ⟨rfl, rfl⟩
  obtain ⟨X, hX⟩ : ∃ X, a.natAbs * b.natAbs = X := ⟨_, rfl⟩
  rw [hX] at HV PR hP
  have HTL := Lib.hid (rtN_lt X (by omega))
  have RR := fun u w h => Lib.hid (rootR_any X hP u w h)
  clear hX e hP hg
  generalize rhI X = hf at *
  generalize rtN X = T at *
  have e0 : decide (a < 0) = false := by simp; omega
  have e1 : decide (b < 0) = false := by simp; omega
  go_enter Try.func50, Try.ntmps50
  go_wp2_with fail
  refine HK.out.mono ?_
  rintro e w' ⟨rfl, rfl⟩
  go_wp2_with fail
  refine (PR _).out.mono ?_
  rintro e w1 ⟨u, rfl, hu, hb1'⟩
  go_wp2_with fail
  refine (RR u _ hu).out.mono ?_
  rintro e w2 ⟨rfl, hb2⟩
  go_wp2_with fail
  refine (rounded_any false T _ hf m _ HTL.out).mono ?_
  rintro e w3 ⟨rfl, hb3⟩
  go_wp2_with fail
  go_ret2
  exact ⟨ret_ibw HV.out.1.symm HV.out.2.symm, btW (btW hb1' hb2) hb3⟩
set_option maxHeartbeats 1000000 in
theorem RootR_no (a b m : Int) (w : World) (h : a < 0 ∨ b < 0 ∨ m < 0 ∨ 2 < m) :
    Calls Try.prog 50 #[.int .i64 a, .int .i64 b, .int .i64 m] w fun e w' => e = .returned (.tuple #[.int .i64 0, .bool false]) ∧ Below w.heap.size w w' := by
  by_cases ha : a < 0
  · clear h
    go_enter Try.func50, Try.ntmps50
    go_wp2_with fail
    go_ret2
    exact ⟨rfl, Below.refl _ _⟩
  by_cases hb : b < 0
  · have e0 : decide (a < 0) = false := by simpa using ha
    clear h
    go_enter Try.func50, Try.ntmps50
    go_wp2_with fail
    go_ret2
    exact ⟨rfl, Below.refl _ _⟩
  have HK := Lib.hid (rightR_no m w (by omega))
  have e0 : decide (a < 0) = false := by simpa using ha
  have e1 : decide (b < 0) = false := by simpa using hb
  clear h
  go_enter Try.func50, Try.ntmps50
  go_wp2_with fail
  refine HK.out.mono ?_
  rintro e w' ⟨rfl, rfl⟩
  go_wp2_with fail
  go_ret2
  exact ⟨rfl, Below.refl _ _⟩
theorem RootR_any (a b m : Int) (w : World) (ha1 : a ≤ 9223372036854775807) (hb1 : b ≤ 9223372036854775807) :
    Calls Try.prog 50 #[.int .i64 a, .int .i64 b, .int .i64 m] w fun e w' => e = .returned (.tuple #[.int .i64 (roV a b m), .bool (roO a b m)]) ∧ Below w.heap.size w w' := by
  by_cases h : 0 ≤ a ∧ 0 ≤ b ∧ 0 ≤ m ∧ m ≤ 2
  · exact RootR_yes a b m w h.1 ha1 h.2.1 hb1 h.2.2.1 h.2.2.2
  · rw [(ro_not a b m (by omega)).1, (ro_not a b m (by omega)).2]
    exact RootR_no a b m w (by omega)
set_option maxHeartbeats 1000000 in
theorem SqrtR_any (n m : Int) (w : World) (h1 : n ≤ 9223372036854775807) :
    Calls Try.prog 41 #[.int .i64 n, .int .i64 m] w fun e w' => e = .returned (.tuple #[.int .i64 (sqV n m), .bool (sqO n m)]) ∧ Below w.heap.size w w' := by
  have RR := fun w => Lib.hid (RootR_any n 1 m w h1 (by omega))
  rw [(ro_one n m).1, (ro_one n m).2] at RR
  go_enter Try.func41, Try.ntmps41
  go_wp2_with fail
  refine (RR _).out.mono ?_
  rintro e w1 ⟨rfl, hb1⟩
  go_wp2_with fail
  go_ret2
  exact ⟨rfl, hb1⟩
end Go.Proofs.Ytlblodiamcnnpaa
