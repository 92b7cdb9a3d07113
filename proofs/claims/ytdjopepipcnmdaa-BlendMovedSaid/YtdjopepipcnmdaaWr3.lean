/- Proved here: what root, Sqrt and Root of package wide return. -/
import Derived.Test.YtdjopepipcnmdaaWr2
import Derived.Test.YtdjopepipcnmdaaWw3
import Derived.Deep.DeepCutAuto
namespace Go.Proofs.Ytdjopepipcnmdaa
open Go.RowKit
set_option linter.unusedVariables false
theorem sub64_0 (x y : Nat) (w : World) : (callFunc 63 #[.int .u64 (x : Int), .int .u64 (y : Int), .int .u64 0]).run Try.prog w =
    .ok (.value (.tuple #[.int .u64 (((x + 18446744073709551616 - y - 0) % 18446744073709551616 : Nat) : Int), .int .u64 ((if x < y + 0 then 1 else 0 : Nat) : Int)])) w := by
  kernel_rfl
theorem sub64_1 (x y : Nat) (w : World) : (callFunc 63 #[.int .u64 (x : Int), .int .u64 (y : Int), .int .u64 1]).run Try.prog w =
    .ok (.value (.tuple #[.int .u64 (((x + 18446744073709551616 - y - 1) % 18446744073709551616 : Nat) : Int), .int .u64 ((if x < y + 1 then 1 else 0 : Nat) : Int)])) w := by
  kernel_rfl
theorem sub_b {hi lo h2 l2 D R H K : Nat} (hR : lo + K = l2 + R) (hH : hi = h2 + 1 + H) (h : hi * K + lo = h2 * K + l2 + D) : H * K + R = D := by
  subst hH
  rw [Nat.add_mul, Nat.add_mul, Nat.one_mul] at h
  omega
theorem sub_c {hi lo h2 l2 D R H K : Nat} (hR : lo = l2 + R) (hH : hi = h2 + H) (h : hi * K + lo = h2 * K + l2 + D) : H * K + R = D := by
  subst hH
  rw [Nat.add_mul] at h
  omega
set_option maxRecDepth 20000 in
/-- a difference of 128 bits -/
theorem sub_two {hi lo h2 l2 D : Nat} (h : hi * 18446744073709551616 + lo = h2 * 18446744073709551616 + l2 + D) (hlo : lo < 18446744073709551616) (hl2 : l2 < 18446744073709551616) (hhi : hi < 18446744073709551616) :
    ∃ b R H : Nat, Hid (H * 18446744073709551616 + R = D ∧ R < 18446744073709551616) ∧ (∀ w, (callFunc 63 #[.int .u64 (lo : Int), .int .u64 (l2 : Int), .int .u64 0]).run Try.prog w = .ok (.value (.tuple #[.int .u64 (R : Int), .int .u64 (b : Int)])) w)
      ∧ (∀ w, (callFunc 63 #[.int .u64 (hi : Int), .int .u64 (h2 : Int), .int .u64 (b : Int)]).run Try.prog w = .ok (.value (.tuple #[.int .u64 (H : Int), .int .u64 0])) w) := by
  by_cases hb : lo < l2
  · obtain ⟨R, hR⟩ : ∃ R, lo + 18446744073709551616 = l2 + R := ⟨lo + 18446744073709551616 - l2, by omega⟩
    obtain ⟨H, hH⟩ : ∃ H, hi = h2 + 1 + H := ⟨hi - (h2 + 1), by omega⟩
    refine ⟨1, R, H, ⟨sub_b hR hH h, by omega⟩, fun w => ?_, fun w => ?_⟩
    · rw [sub64_0, if_pos (by omega)]
      have e : (lo + 18446744073709551616 - l2 - 0) % 18446744073709551616 = R := by omega
      rw [e]
    · have h1 := sub64_1 hi h2 w
      rw [if_neg (by omega)] at h1
      have e : (hi + 18446744073709551616 - h2 - 1) % 18446744073709551616 = H := by omega
      rw [e] at h1
      exact h1
  · obtain ⟨R, hR⟩ : ∃ R, lo = l2 + R := ⟨lo - l2, by omega⟩
    obtain ⟨H, hH⟩ : ∃ H, hi = h2 + H := ⟨hi - h2, by omega⟩
    refine ⟨0, R, H, ⟨sub_c hR hH h, by omega⟩, fun w => ?_, fun w => ?_⟩
    · rw [sub64_0, if_neg (by omega)]
      have e : (lo + 18446744073709551616 - l2 - 0) % 18446744073709551616 = R := by omega
      rw [e]
    · have h1 := sub64_0 hi h2 w
      rw [if_neg (by omega)] at h1
      have e : (hi + 18446744073709551616 - h2 - 0) % 18446744073709551616 = H := by omega
      rw [e] at h1
      exact h1
theorem sub_arg {P r hi lo h2 l2 : Nat} (h1 : hi = P / 18446744073709551616) (h3 : lo = P % 18446744073709551616) (h4 : r * r = h2 * 18446744073709551616 + l2) (h5 : r * r ≤ P) :
    hi * 18446744073709551616 + lo = h2 * 18446744073709551616 + l2 + (P - r * r) := by
  rw [← h4, h1, h3, Nat.div_add_mod', Nat.add_sub_cancel' h5]
def upI (m : Int) (D r : Nat) : Bool := (decide (m = 1) && decide (0 < D)) || (decide (m = 2) && decide (r < D))
def rootN (P : Nat) (m : Int) : Nat := rtN P + (if upI m (P - rtN P * rtN P) (rtN P) then 1 else 0)
theorem up_true {m : Int} {D r : Nat} (h : (m = 1 ∧ 0 < D) ∨ (m = 2 ∧ r < D)) : upI m D r = true := by
  unfold upI
  rcases h with ⟨h1, h2⟩ | ⟨h1, h2⟩
  · rw [decide_eq_true h1, decide_eq_true h2]; rfl
  · rw [decide_eq_true h1, decide_eq_true h2, Bool.or_comm]; rfl
theorem up_false {m : Int} {D r : Nat} (h : ¬ ((m = 1 ∧ 0 < D) ∨ (m = 2 ∧ r < D))) : upI m D r = false := by
  cases e : upI m D r
  · rfl
  · exfalso; apply h
    unfold upI at e
    simpa using e
set_option maxHeartbeats 1000000 in
set_option maxRecDepth 20000 in
theorem root_raw (P : Nat) (m : Int) (hP : P < 85070591730234615865843651857942052864) (w : World) :
    Calls Try.prog 58 #[.agg #[.int .u64 ((P / 18446744073709551616 : Nat) : Int), .int .u64 ((P % 18446744073709551616 : Nat) : Int)], .int .i64 m] w fun e w' => e = .returned (.tuple #[.int .i64 (sgV (rootN P m) false), .bool (sgO (rootN P m) false)]) ∧ Below w.heap.size w w' := by
  have HF := fun w => Lib.hid (floorRoot_raw P (by omega) w)
  have HR := Lib.hid (rtN_spec P (by omega))
  have HL := Lib.hid (rtN_lt P (by omega))
  have HN : Hid (rootN P m = rtN P + (if upI m (P - rtN P * rtN P) (rtN P) then 1 else 0)) := rfl
  obtain ⟨r, hr⟩ : ∃ r, rtN P = r := ⟨_, rfl⟩
  rw [hr] at HF HR HL HN
  clear hr
  have HP := Lib.hid hP
  clear hP
  obtain ⟨hi, hhi⟩ : ∃ hi, P / 18446744073709551616 = hi := ⟨_, rfl⟩
  obtain ⟨lo, hlo⟩ : ∃ lo, P % 18446744073709551616 = lo := ⟨_, rfl⟩
  rw [hhi, hlo] at HF ⊢
  have HV : Hid (hi = P / 18446744073709551616 ∧ lo = P % 18446744073709551616) := ⟨hhi.symm, hlo.symm⟩
  clear hhi hlo
  go_enter Try.func58, Try.ntmps58
  go_wp2_with fail
  refine (HF _).out.mono ?_
  rintro e w1 ⟨rfl, hb1⟩
  have hc0 : w1.cell? ⟨w.heap.size, 0, none⟩ = some (.int .u64 hi) := by
    rw [hb1.cell (p := ⟨w.heap.size, 0, none⟩) (by show w.heap.size < _; simp)]
    have h := (MapKept.heap_alloc w (.cells #[.int .u64 hi, .int .u64 lo] 51)).1
    simp only [World.cell?, h]; rfl
  have hc1 : w1.cell? ⟨w.heap.size, 1, none⟩ = some (.int .u64 lo) := by
    rw [hb1.cell (p := ⟨w.heap.size, 1, none⟩) (by show w.heap.size < _; simp)]
    have h := (MapKept.heap_alloc w (.cells #[.int .u64 hi, .int .u64 lo] 51)).1
    simp only [World.cell?, h]; rfl
  go_wp2_with fail
  refine (mul64_any r r HL.out HL.out _).mono ?_
  rintro e w' ⟨rfl, rfl⟩
  obtain ⟨h2, hh2⟩ : ∃ h2, r * r / 18446744073709551616 = h2 := ⟨_, rfl⟩
  obtain ⟨l2, hl2⟩ : ∃ l2, r * r % 18446744073709551616 = l2 := ⟨_, rfl⟩
  rw [hh2, hl2]
  have HM : Hid (r * r = h2 * 18446744073709551616 + l2 ∧ l2 < 18446744073709551616) := by
    show _ ∧ _
    rw [← hh2, ← hl2]; exact ⟨(Nat.div_add_mod' _ _).symm, Nat.mod_lt _ (by decide)⟩
  clear hh2 hl2
  have HHI : Hid (hi < 18446744073709551616) := by have h1 := HP.out; have h3 := HV.out.1; show hi < _; omega
  have HLO : Hid (lo < 18446744073709551616) := by have h3 := HV.out.2; show lo < _; omega
  have HSA := Lib.hid (sub_arg HV.out.1 HV.out.2 HM.out.1 HR.out.1)
  obtain ⟨D, hD⟩ : ∃ D, P - r * r = D := ⟨_, rfl⟩
  rw [hD] at HSA HN
  have HDE := Lib.hid hD
  clear hD
  obtain ⟨b, R, H, HD, s1, s2⟩ := sub_two HSA.out HLO.out HM.out.2 HHI.out
  go_upto_region 5 with fail
  have hR0 : (0 : Int) ≤ R := by omega
  have hH0 : (0 : Int) ≤ H := by omega
  have HW : Hid (Below w.heap.size w w1) := ((Below.refl _ _).alloc (Nat.le_refl _) _).trans (hb1.mono (by simp))
  clear hb1
  go_cut [13] (fun s wx => s = .bool (upI m D r) ∧ w1 = wx)
  case first =>
    cases e1 : (m == 1) <;> cases e2 : (m == 2)
    all_goals
      cases f1 : decide (0 < H) <;> cases f2 : decide (0 < R) <;> cases f3 : decide (r < R)
      all_goals
        have HX : Hid ((m = 1 ∧ 0 < D) ∨ (m = 2 ∧ r < D) ∨ ¬ ((m = 1 ∧ 0 < D) ∨ (m = 2 ∧ r < D))) := by show _ ∨ _; omega
        have HE1 := Lib.hid e1
        have HE2 := Lib.hid e2
        have HF1 := Lib.hid f1
        have HF3 := Lib.hid f2
        have HF4 := Lib.hid f3
        go_wp2_with fail
        go_meet
        refine ⟨congrArg Value.bool ?_, rfl⟩
        have h := HD.out
        have hl := HL.out
        have g1 := HE1.out
        have g2 := HE2.out
        have g3 := HF1.out
        have g4 := HF3.out
        have g5 := HF4.out
        simp only [decide_eq_true_eq, decide_eq_false_iff_not, beq_iff_eq, beq_eq_false_iff_ne, ne_eq] at g1 g2 g3 g4 g5
        first
          | exact (up_true (by omega)).symm
          | exact (up_false (by omega)).symm
          | (exfalso; omega)
  case rest =>
    obtain ⟨rfl, rfl⟩ := hcut
    cases hu : upI m D r
    · have HF2 : Hid (rootN P m = r) := by have h := HN.out; rw [hu] at h; exact h
      clear hu
      go_wp2_with fail
      refine (signed_any r false HL.out _).mono ?_
      rintro e w' ⟨rfl, rfl⟩
      go_wp2_with fail
      go_ret2
      exact ⟨ret_ibw (by rw [HF2.out]) (by rw [HF2.out]), HW.out⟩
    · have HF2 : Hid (rootN P m = r + 1) := by have h := HN.out; rw [hu] at h; exact h
      clear hu
      have HL2 : Hid (r + 1 < 18446744073709551616) := by
        refine Nat.lt_of_not_le fun hc => ?_
        have h1 := sq_mono (show 18446744073709551615 ≤ r by omega)
        have h2 := HR.out.1
        have h3 := HP.out
        exact absurd (Nat.lt_of_le_of_lt (Nat.le_trans h1 h2) h3) (by decide)
      have hr1 : (r : Int) ≤ 18446744073709551614 := by have := HL2.out; omega
      go_wp2_with fail
      refine (signed_any (r + 1) false HL2.out _).mono ?_
      rintro e w' ⟨rfl, rfl⟩
      go_wp2_with fail
      go_ret2
      exact ⟨ret_ibw (by rw [HF2.out]) (by rw [HF2.out]), HW.out⟩
theorem root_any (P : Nat) (m : Int) (hP : P < 85070591730234615865843651857942052864) (w : World) :
    Calls Try.prog 58 #[pairV P, .int .i64 m] w fun e w' => e = .returned (.tuple #[.int .i64 (sgV (rootN P m) false), .bool (sgO (rootN P m) false)]) ∧ Below w.heap.size w w' := root_raw P m hP w
end Go.Proofs.Ytdjopepipcnmdaa
