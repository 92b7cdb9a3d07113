/- Proved here: floorRoot of package wide returns the root by bits, for every number of 128 bits. -/
import Derived.Test.YtdjopepipcnmdaaWw2
import Derived.Test.YtdjopepipcnmdaaWr1
import Derived.Deep.RegionWith
import Derived.Deep.DeepCutAuto
namespace Go.Proofs.Ytdjopepipcnmdaa
open Go.RowKit
set_option linter.unusedVariables false
theorem or_bit {r b k : Nat} (hr : r < 18446744073709551616) (hb : b < 18446744073709551616) (hm : r % 2 ^ k = 0) (hl : b < 2 ^ k) : bits .or .u64 (r : Int) (b : Int) = ((r + b : Nat) : Int) := by
  rw [bits_or_u64_nat r b hr hb]
  obtain ⟨c, rfl⟩ := Nat.dvd_of_mod_eq_zero hm
  rw [Nat.mul_comm, ← Nat.shiftLeft_eq, ← Nat.shiftLeft_add_eq_or_of_lt hl]
theorem drewB {B : Nat} {w : World} : Below B w w.drew := (Below.refl B w).drew
set_option maxHeartbeats 1000000 in
theorem floorRoot_raw (P : Nat) (hP : P < 340282366920938463463374607431768211456) (w : World) :
    Calls Try.prog 45 #[.agg #[.int .u64 ((P / 18446744073709551616 : Nat) : Int), .int .u64 ((P % 18446744073709551616 : Nat) : Int)]] w fun e w' => e = .returned (.int .u64 (rtN P : Int)) ∧ Below w.heap.size w w' := by
  have HP := Lib.hid hP
  clear hP
  obtain ⟨hi, hhi⟩ : ∃ hi, P / 18446744073709551616 = hi := ⟨_, rfl⟩
  obtain ⟨lo, hlo⟩ : ∃ lo, P % 18446744073709551616 = lo := ⟨_, rfl⟩
  rw [hhi, hlo]
  have HV : Hid (pairV P = .agg #[.int .u64 hi, .int .u64 lo]) := by show pairV P = _; unfold pairV; rw [hhi, hlo]
  clear hhi hlo
  go_enter Try.func45, Try.ntmps45
  go_wp2_with fail
  go_loopw [3, 4, 5] (fun a b c wr => ∃ r k : Nat, a = .int .u64 r ∧ b = .int .u64 (bitK k) ∧ RI P k r ∧ Below (w.heap.size + 1) (w.alloc (.cells #[.int .u64 hi, .int .u64 lo] 51)) wr) (fun _ b _ _ => (intOf b).toNat)
  case atStart => exact ⟨0, 64, rfl, by rw [bitK_64]; rfl, RI.start P, Below.refl _ _⟩
  case round =>
    obtain ⟨r, k, rfl, rfl, hr, hb⟩ := hrel
    have HR := Lib.hid hr
    clear hr
    cases k with
    | zero =>
      rw [bitK_zero]
      go_wp2_with fail
      go_ret
      exact ⟨congrArg Ending.returned (congrArg (Value.int IntKind.u64) (by have := HR.out.eq; rw [← this]; rfl)), ((Below.refl _ _).alloc (Nat.le_refl _) _).trans (hb.mono (by omega))⟩
    | succ k =>
      have HH := Lib.hid (bitK_half k)
      have hfit := HR.out.fits
      have hc0 : wr.cell? ⟨w.heap.size, 0, none⟩ = some (.int .u64 hi) := by
        rw [hb.cell (p := ⟨w.heap.size, 0, none⟩) (by show w.heap.size < _; omega)]
        have h := (MapKept.heap_alloc w (.cells #[.int .u64 hi, .int .u64 lo] 51)).1
        simp only [World.cell?, h]; rfl
      have hc1 : wr.cell? ⟨w.heap.size, 1, none⟩ = some (.int .u64 lo) := by
        rw [hb.cell (p := ⟨w.heap.size, 1, none⟩) (by show w.heap.size < _; omega)]
        have h := (MapKept.heap_alloc w (.cells #[.int .u64 hi, .int .u64 lo] 51)).1
        simp only [World.cell?, h]; rfl
      obtain ⟨b, hbk⟩ : ∃ b, bitK (k + 1) = b := ⟨_, rfl⟩
      have HB : Hid (b = 2 ^ k) := by show b = _; rw [← hbk, bitK_succ]
      rw [hbk] at HH ⊢
      clear hbk
      have HO : Hid (bits .or .u64 (r : Int) (b : Int) = ((r + b : Nat) : Int)) := or_bit (k := k + 1) HR.out.lt (by have := HB.out; omega) HR.out.m (by have := HB.out; rw [Nat.pow_succ]; omega)
      have hb0 : (0 : Int) < b := by have := HB.out; have : 0 < 2 ^ k := Nat.pow_pos (by decide); omega
      have HN : Hid (r + b < 18446744073709551616) := by have := HB.out; show r + b < _; omega
      clear hfit
      go_upto_region 6 with fail
      rw [HO.out]
      clear HO
      obtain ⟨n, hn⟩ : ∃ n, r + b = n := ⟨_, rfl⟩
      rw [hn] at HN ⊢
      have HE := Lib.hid hn
      clear hn
      have HC := fun (Q : Nat) (w : World) => Lib.hid (compare_any Q P w)
      rw [HV.out] at HC
      have hlt : w.heap.size < wr.heap.size := by have := hb.size; simp at this; omega
      have HBW := Lib.hid hb
      clear hb
      go_cut [18] (fun s wx => s = .bool (decide (cmpN (n * n) P ≤ 0)) ∧ Below (w.heap.size + 1) wr wx)
      case first =>
        go_region_with (first
          | (go_at_call 44; refine (product_any n n HN.out HN.out _).mono ?_; rintro e w2 ⟨rfl, hb2⟩; have hd0 := (hb2.cell (p := ⟨w.heap.size, 0, none⟩) (by first | exact hlt | (simp; exact hlt))).trans hc0; have hd1 := (hb2.cell (p := ⟨w.heap.size, 1, none⟩) (by first | exact hlt | (simp; exact hlt))).trans hc1)
          | (go_at_call 56; refine (HC _ _).out.mono ?_; rintro e w3 ⟨rfl, hb3⟩))
        all_goals
          have hs2 := hb2.size
          go_wp2_with fail
          go_meet
          exact ⟨rfl, (drewB.trans (hb2.mono (by simp; omega))).trans (hb3.mono (by simp at hs2; omega))⟩
      case rest =>
        obtain ⟨rfl, hb2⟩ := hcut
        by_cases hc : n * n ≤ P
        · have e1 : decide (cmpN (n * n) P ≤ 0) = true := decide_eq_true (by unfold cmpN; split; decide; split; decide; omega)
          rw [e1]
          have HY : Hid (RI P k n) := by have h := HR.out.yes; rw [← HB.out, HE.out] at h; exact h hc
          clear e1 hc HC
          go_wp2_with fail
          go_roundw
          case rel => exact ⟨n, k, rfl, congrArg _ (by have := HH.out; omega), HY.out, HBW.out.trans hb2⟩
          case measure => simp [intOf]; omega
        · have e1 : decide (cmpN (n * n) P ≤ 0) = false := decide_eq_false (by unfold cmpN; rw [if_neg (by omega), if_neg (by omega)]; decide)
          rw [e1]
          have HY : Hid (RI P k r) := by have h := HR.out.no; rw [← HB.out, HE.out] at h; exact h hc
          clear e1 hc HC
          go_wp2_with fail
          go_roundw
          case rel => exact ⟨r, k, rfl, congrArg _ (by have := HH.out; omega), HY.out, HBW.out.trans hb2⟩
          case measure => simp [intOf]; omega
theorem floorRoot_any (P : Nat) (hP : P < 340282366920938463463374607431768211456) (w : World) :
    Calls Try.prog 45 #[pairV P] w fun e w' => e = .returned (.int .u64 (rtN P : Int)) ∧ Below w.heap.size w w' := floorRoot_raw P hP w
end Go.Proofs.Ytdjopepipcnmdaa
