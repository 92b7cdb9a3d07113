/- Proved here: the 128 by 64 bit division of Go's math/bits, walked over its own text, where its quotient fits 64 bits; the divisor is greater than the upper half. -/
import Derived.Test.YtdjopepipcnmdaaWb2
import Derived.Test.YtdjopepipcnmdaaWd1
import Derived.Deep.QuietTactic
import Derived.BigQuiet
import Derived.Deep.DeepCutAuto
import Derived.Deep.CutBlock
namespace Go.Proofs.Ytdjopepipcnmdaa
open Go.RowKit
set_option linter.unusedVariables false
theorem eqz {n : Nat} (h : n ≠ 0) : ((n : Int) == 0) = false := by simp; omega
set_option maxHeartbeats 1000000 in
theorem div64_small (lo y : Nat) (hlo : lo < 18446744073709551616) (hy : y < 18446744073709551616) (h0 : 0 < y) (w : World) :
    Calls Try.prog 51 #[.int .u64 (0 : Nat), .int .u64 lo, .int .u64 y] w fun e w' => e = .returned (.tuple #[.int .u64 ((lo / y : Nat) : Int), .int .u64 ((lo % y : Nat) : Int)]) ∧ Below w.heap.size w w' := by
  have e0 : ((y : Int) == 0) = false := eqz (by omega)
  go_enter Try.func51, Try.ntmps51
  go_wp2
  go_quiet (fail)
  go_wp2
  go_ret2
  exact ⟨ret_uu (by rw [← Int.natCast_ediv]; have := Nat.div_le_self lo y; exact wrapU (by omega)) (Int.natCast_emod lo y).symm, below_drewN (Below.refl _ _) _⟩
theorem or_add {a b s : Nat} (ha : a * 2 ^ s < 18446744073709551616) (hb : b < 2 ^ s) (hs : s ≤ 63) : bits .or .u64 ((a * 2 ^ s : Nat) : Int) (b : Int) = ((a * 2 ^ s + b : Nat) : Int) := by
  have h2 : 2 ^ s ≤ 2 ^ 63 := Nat.pow_le_pow_right (by decide) hs
  have h := bits_or_u64_nat (a * 2 ^ s) b ha (by omega)
  rw [h, ← Nat.shiftLeft_eq, ← Nat.shiftLeft_add_eq_or_of_lt hb]
/-- what the first part lays ahead of the estimates -/
structure DN (hi lo y s z a b u v x : Nat) : Prop where
  ez : z = y * 2 ^ s
  ezz : z = a * 4294967296 + b
  a0 : 2147483648 ≤ a
  a1 : a < 4294967296
  b1 : b < 4294967296
  v1 : v < 4294967296
  x1 : x < 4294967296
  u1 : u < z
  en : (hi * 18446744073709551616 + lo) * 2 ^ s = (u * 4294967296 + v) * 4294967296 + x
def NormRel (hi lo y s : Nat) (w : World) (s2 s8 s9 s10 s11 s13 s14 : Value) (wx : World) : Prop :=
  ∃ z a b u v x : Nat, s2 = .int .u64 z ∧ s8 = .int .u64 s ∧ s9 = .int .u64 a ∧ s10 = .int .u64 b ∧ s11 = .int .u64 u ∧ s13 = .int .u64 v ∧ s14 = .int .u64 x ∧ DN hi lo y s z a b u v x ∧ w = wx
theorem norm_rel {hi lo y s : Nat} (w : World) (hhi : hi < y) (hlo : lo < 18446744073709551616) (hs : s ≤ 63) (hs1 : 9223372036854775808 ≤ y * 2 ^ s) (hz : y * 2 ^ s < 18446744073709551616) :
    NormRel hi lo y s w (.int .u64 ((y : Int) * 2 ^ s)) (.int .u64 s) (.int .u64 ((y : Int) * 2 ^ s / 4294967296)) (.int .u64 (bits .and .u64 ((y : Int) * 2 ^ s) 4294967295)) (.int .u64 (bits .or .u64 (IntKind.u64.wrap ((hi : Int) * 2 ^ s)) ((lo : Int) / 2 ^ (64 - s)))) (.int .u64 (IntKind.u64.wrap ((lo : Int) * 2 ^ s) / 4294967296)) (.int .u64 (bits .and .u64 (IntKind.u64.wrap ((lo : Int) * 2 ^ s)) 4294967295)) w := by
  obtain ⟨n1, n2, n3, n4⟩ := normed hhi hlo hs hz
  have c1 : (y : Int) * 2 ^ s = ((y * 2 ^ s : Nat) : Int) := by push_cast; rfl
  have c2 : (hi : Int) * 2 ^ s = ((hi * 2 ^ s : Nat) : Int) := by push_cast; rfl
  have c3 : (lo : Int) * 2 ^ s = ((lo * 2 ^ s : Nat) : Int) := by push_cast; rfl
  have c4 : (lo : Int) / 2 ^ (64 - s) = ((lo / 2 ^ (64 - s) : Nat) : Int) := by push_cast; rfl
  have hm : lo * 2 ^ s % 18446744073709551616 < 18446744073709551616 := Nat.mod_lt _ (by decide)
  rw [c1, c2, c3, c4, wrapU n1, wrapUm, or_add n1 n2 hs, mask32 _ hz, mask32 _ hm, half32, half32]
  generalize lo * 2 ^ s % 18446744073709551616 = l at *
  generalize hi * 2 ^ s + lo / 2 ^ (64 - s) = u at *
  obtain ⟨z, ez⟩ : ∃ z, y * 2 ^ s = z := ⟨_, rfl⟩
  rw [ez] at hs1 hz n4 ⊢
  clear n1 n2 c1 c2 c3 c4
  refine ⟨z, z / 4294967296, z % 4294967296, u, l / 4294967296, l % 4294967296, rfl, rfl, rfl, rfl, rfl, rfl, rfl, ⟨ez.symm, ?_, ?_, ?_, ?_, ?_, ?_, n4, ?_⟩, rfl⟩
  · omega
  · omega
  · omega
  · omega
  · omega
  · omega
  · rw [n3]; omega
theorem est_q {u a : Nat} (a0 : 2147483648 ≤ a) (hu : u < 18446744073709551616 := by omega) : IntKind.u64.wrap ((u : Int) / a) = ((u / a : Nat) : Int) := by
  have h : u / a ≤ u := Nat.div_le_self u a
  rw [← Int.natCast_ediv]; exact wrapU (by omega)
theorem est_r {u a : Nat} (a0 : 2147483648 ≤ a) (hu : u < 18446744073709551616) : IntKind.u64.wrap ((u : Int) - IntKind.u64.wrap (((u / a : Nat) : Int) * a)) = ((u % a : Nat) : Int) := by
  have h := Nat.div_add_mod' u a
  have h2 : IntKind.u64.wrap (((u / a : Nat) : Int) * a) = ((u / a * a : Nat) : Int) := by rw [mulU, wrapU (by omega)]
  rw [h2]
  have h3 : (u : Int) - ((u / a * a : Nat) : Int) = ((u % a : Nat) : Int) := by omega
  rw [h3]; exact wrapU (by omega)
/-- the rest behind the first digit, as the machine reckons it -/
theorem rest_w {u v z Q m : Nat} (h : Q * z + m = u * 4294967296 + v) (hm : m < z) (hz : z < 18446744073709551616) (hu : u < 18446744073709551616) (hv : v < 4294967296) (hQ : Q < 4294967296) :
    IntKind.u64.wrap (IntKind.u64.wrap (IntKind.u64.wrap ((u : Int) * 4294967296) + v) - IntKind.u64.wrap ((Q : Int) * z)) = (m : Int) := by
  have e : (Q : Int) * z = ((Q * z : Nat) : Int) := (Int.natCast_mul Q z).symm
  rw [e]
  simp only [IntKind.wrap_u64]
  omega
set_option maxHeartbeats 1000000 in
set_option maxRecDepth 100000 in
theorem div64_great (hi lo y : Nat) (hhi : hi < y) (hlo : lo < 18446744073709551616) (hy : y < 18446744073709551616) (h0 : 0 < hi) (w : World) :
    Calls Try.prog 51 #[.int .u64 hi, .int .u64 lo, .int .u64 y] w fun e w' => e = .returned (.tuple #[.int .u64 (((hi * 18446744073709551616 + lo) / y : Nat) : Int), .int .u64 (((hi * 18446744073709551616 + lo) % y : Nat) : Int)]) ∧ Below w.heap.size w w' := by
  have e0 : ((y : Int) == 0) = false := eqz (by omega)
  have e1 : ((hi : Int) == 0) = false := eqz (by omega)
  go_enter Try.func51, Try.ntmps51
  go_wp2_with fail
  refine (lz64_any y hy (by omega) _).mono ?_
  rintro e w' ⟨s, hs, hs1, hs2, rfl, rfl⟩
  have HN := Lib.hid (norm_rel w hhi hlo hs hs1 hs2)
  have z1 : (y : Int) * 2 ^ s ≤ 18446744073709551615 := by
    have : ((y * 2 ^ s : Nat) : Int) < 18446744073709551616 := by omega
    push_cast at this; omega
  have z2 : 9223372036854775808 ≤ (y : Int) * 2 ^ s := by
    have : 9223372036854775808 ≤ ((y * 2 ^ s : Nat) : Int) := by omega
    push_cast at this; omega
  go_upto_region 14 with fail
  go_cut [2, 8, 9, 10, 11, 13, 14] (fun s2 s8 s9 s10 s11 s13 s14 wx => NormRel hi lo y s w s2 s8 s9 s10 s11 s13 s14 wx)
  case first =>
    go_wp2_with fail
    go_meet
    exact HN.out
  case rest =>
    obtain ⟨z, a, b, u, v, x, rfl, rfl, rfl, rfl, rfl, rfl, rfl, hd, rfl⟩ := hcut
    have a0 := hd.a0
    have a1 := hd.a1
    have b1 := hd.b1
    have v1 := hd.v1
    have x1 := hd.x1
    have hzz := hd.u1
    have hz2 : z < 18446744073709551616 := by rw [hd.ez]; exact hs2
    have HD := Lib.hid hd
    have HI := Lib.hid (DI.start (v := v) a0 a1 b1 v1 hd.ezz hd.u1)
    clear HN hd z1 z2
    go_upto_block 0 with fail
    go_cut [15] (fun q wx => q = .int .u64 (((u * 4294967296 + v) / z : Nat) : Int) ∧ w = wx)
    case first =>
      go_wp2_with fail
      go_loop [15, 16] (fun c d => ∃ q r : Nat, c = .int .u64 q ∧ d = .int .u64 r ∧ r < 4294967296 ∧ DI u v z a b q r) (fun c _ => (intOf c).toNat)
      case atStart => exact ⟨u / a, u % a, by rw [est_q a0], by rw [est_q a0, est_r a0 (by omega)], Nat.lt_trans (Nat.mod_lt _ (by omega)) a1, HI.out⟩
      case round =>
        obtain ⟨q, r, rfl, rfl, hr, hi⟩ := hrel
        have HJ := Lib.hid hi
        have i0 : (r : Int) < 4294967296 := by omega
        have i1 : (q : Int) ≤ 8589934592 := by have := hi.small; omega
        have i2 : (a : Int) < 4294967296 := by omega
        have i3 : (v : Int) < 4294967296 := by omega
        have i4 : (b : Int) ≤ 4294967295 := by omega
        clear hi hr a0 a1 b1 v1 x1 hzz hz2 hlo hy hs1 hs2 hhi h0
        by_cases c1 : 4294967296 ≤ (q : Int)
        · have HG := Lib.hid (HJ.out.great (by omega))
          by_cases c3 : 4294967296 ≤ (r : Int) + a
          · have HL := Lib.hid (HG.out.2.leave (by omega))
            go_wp2_with fail
            go_meet
            exact ⟨congrArg _ (by have h1 := HL.out.2; have h2 := HG.out.1; rw [h1]; omega), rfl⟩
          · go_wp2_with fail
            go_round
            case rel => exact ⟨q - 1, r + a, congrArg _ (by have h2 := HG.out.1; omega), congrArg _ (by omega), by omega, HG.out.2⟩
            case measure => simp [intOf]; have h2 := HG.out.1; omega
        · have k0 : 0 ≤ (q : Int) * b := Int.mul_nonneg (by omega) (by omega)
          have k1 : (q : Int) * b ≤ 18446744065119617025 := (prod_bound q b (by omega) (by omega) (by omega) (by omega)).2
          by_cases c2 : 4294967296 * (r : Int) + v < (q : Int) * b
          · have HG := Lib.hid (HJ.out.great2 (by omega))
            have i5 : (1 : Int) ≤ q := by have := HG.out.1; omega
            by_cases c3 : 4294967296 ≤ (r : Int) + a
            · have HL := Lib.hid (HG.out.2.leave (by omega))
              go_wp2_with fail
              go_meet
              exact ⟨congrArg _ (by have h1 := HL.out.2; have h2 := HG.out.1; rw [h1]; omega), rfl⟩
            · go_wp2_with fail
              go_round
              case rel => exact ⟨q - 1, r + a, congrArg _ (by have h2 := HG.out.1; omega), congrArg _ (by omega), by omega, HG.out.2⟩
              case measure => simp [intOf]; have h2 := HG.out.1; omega
          · have HL := Lib.hid (HJ.out.done (by omega))
            go_wp2_with fail
            go_meet
            exact ⟨congrArg _ (by have h1 := HL.out; rw [h1]), rfl⟩
    case rest =>
      obtain ⟨rfl, rfl⟩ := hcut
      obtain ⟨Q, hQ⟩ : ∃ Q, (u * 4294967296 + v) / z = Q := ⟨_, rfl⟩
      have HQ := Lib.hid (digit (by omega) hzz v1 hQ)
      obtain ⟨M, hM⟩ : ∃ M, (u * 4294967296 + v) % z = M := ⟨_, rfl⟩
      have HR := Lib.hid (rest_w HQ.out.2.1 HQ.out.2.2 hz2 (by omega) v1 HQ.out.1)
      have HE : Hid (Q * z + M = u * 4294967296 + v) := by have := HQ.out.2.1; rw [hM] at this; exact this
      have HM : Hid (M < z) := by have := HQ.out.2.2; rw [hM] at this; exact this
      have HI2 := Lib.hid (DI.start (u := M) (v := x) a0 a1 b1 x1 HD.out.ezz HM.out)
      have HQ1 := Lib.hid HQ.out.1
      rw [hQ]
      rw [hM] at HR
      clear hQ hM HI HQ
      go_upto_region 22 with fail
      rw [HR.out]
      clear HR
      have hzz := HM.out
      go_upto_block 2 with fail
      go_cut [18] (fun q wx => q = .int .u64 (((M * 4294967296 + x) / z : Nat) : Int) ∧ w = wx)
      case first =>
        go_wp2_with fail
        go_loop [18, 16] (fun c d => ∃ q r : Nat, c = .int .u64 q ∧ d = .int .u64 r ∧ r < 4294967296 ∧ DI M x z a b q r) (fun c _ => (intOf c).toNat)
        case atStart => exact ⟨M / a, M % a, by rw [est_q a0], by rw [est_q a0, est_r a0 (by omega)], Nat.lt_trans (Nat.mod_lt _ (by omega)) a1, HI2.out⟩
        case round =>
          obtain ⟨q, r, rfl, rfl, hr, hi⟩ := hrel
          have HJ := Lib.hid hi
          have i0 : (r : Int) < 4294967296 := by omega
          have i1 : (q : Int) ≤ 8589934592 := by have := hi.small; omega
          have i2 : (a : Int) < 4294967296 := by omega
          have i3 : (x : Int) < 4294967296 := by omega
          have i4 : (b : Int) ≤ 4294967295 := by omega
          clear hi hr a0 a1 b1 v1 x1 hzz hz2 hlo hy hs1 hs2 hhi h0
          by_cases c1 : 4294967296 ≤ (q : Int)
          · have HG := Lib.hid (HJ.out.great (by omega))
            by_cases c3 : 4294967296 ≤ (r : Int) + a
            · have HL := Lib.hid (HG.out.2.leave (by omega))
              go_wp2_with fail
              go_meet
              exact ⟨congrArg _ (by have h1 := HL.out.2; have h2 := HG.out.1; rw [h1]; omega), rfl⟩
            · go_wp2_with fail
              go_round
              case rel => exact ⟨q - 1, r + a, congrArg _ (by have h2 := HG.out.1; omega), congrArg _ (by omega), by omega, HG.out.2⟩
              case measure => simp [intOf]; have h2 := HG.out.1; omega
          · have k0 : 0 ≤ (q : Int) * b := Int.mul_nonneg (by omega) (by omega)
            have k1 : (q : Int) * b ≤ 18446744065119617025 := (prod_bound q b (by omega) (by omega) (by omega) (by omega)).2
            by_cases c2 : 4294967296 * (r : Int) + x < (q : Int) * b
            · have HG := Lib.hid (HJ.out.great2 (by omega))
              have i5 : (1 : Int) ≤ q := by have := HG.out.1; omega
              by_cases c3 : 4294967296 ≤ (r : Int) + a
              · have HL := Lib.hid (HG.out.2.leave (by omega))
                go_wp2_with fail
                go_meet
                exact ⟨congrArg _ (by have h1 := HL.out.2; have h2 := HG.out.1; rw [h1]; omega), rfl⟩
              · go_wp2_with fail
                go_round
                case rel => exact ⟨q - 1, r + a, congrArg _ (by have h2 := HG.out.1; omega), congrArg _ (by omega), by omega, HG.out.2⟩
                case measure => simp [intOf]; have h2 := HG.out.1; omega
            · have HL := Lib.hid (HJ.out.done (by omega))
              go_wp2_with fail
              go_meet
              exact ⟨congrArg _ (by have h1 := HL.out; rw [h1]), rfl⟩
      case rest =>
        obtain ⟨rfl, rfl⟩ := hcut
        obtain ⟨Q0, hQ0⟩ : ∃ Q0, (M * 4294967296 + x) / z = Q0 := ⟨_, rfl⟩
        have HQ0 := Lib.hid (digit (by omega) HM.out x1 hQ0)
        have HF := Lib.hid (digits (n := hi * 18446744073709551616 + lo) (by omega) HD.out.ez HD.out.en HE.out.symm HQ0.out.2.1.symm HQ0.out.2.2)
        have HR := Lib.hid (rest_w HQ0.out.2.1 HQ0.out.2.2 hz2 (by omega) x1 HQ0.out.1)
        have j1 : (Q : Int) < 4294967296 := by have := HQ1.out; omega
        have j2 : (Q0 : Int) < 4294967296 := by have := HQ0.out.1; omega
        rw [hQ0]
        clear hQ0 HI2 a0 a1 b1 v1 x1 hzz hz2 hlo hy hs1 hs2 hhi h0
        go_upto_region 28 with fail
        go_wp2_with fail
        go_ret2
        refine ⟨ret_uu ?_ ?_, Below.refl _ _⟩
        · rw [HF.out.1]; omega
        · rw [HR.out, HF.out.2, Int.natCast_ediv, Int.natCast_pow]; rfl
/-- WHAT Div64 GIVES -/
theorem div64_any (hi lo y : Nat) (hhi : hi < y) (hlo : lo < 18446744073709551616) (hy : y < 18446744073709551616) (w : World) :
    Calls Try.prog 51 #[.int .u64 hi, .int .u64 lo, .int .u64 y] w fun e w' => e = .returned (.tuple #[.int .u64 (((hi * 18446744073709551616 + lo) / y : Nat) : Int), .int .u64 (((hi * 18446744073709551616 + lo) % y : Nat) : Int)]) ∧ Below w.heap.size w w' := by
  rcases Nat.eq_zero_or_pos hi with h | h
  · subst h
    rw [Nat.zero_mul, Nat.zero_add]
    exact div64_small lo y hlo hy hhi w
  · exact div64_great hi lo y hhi hlo hy h w
end Go.Proofs.Ytdjopepipcnmdaa
