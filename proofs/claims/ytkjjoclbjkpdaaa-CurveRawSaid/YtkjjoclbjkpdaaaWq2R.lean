/- Proved here: the 128 bit product and the bit length of Go's math/bits, walked over their own text; every argument. · the bit length and the leading zeros of Go's math/bits, walked over their own text; every argument. · the plain law of a division of 96 by 64 bits by an estimate that is lowered: no program in sight; the divisor is normalized. · the 128 by 64 bit division of Go's math/bits, walked over its own text, where its quotient fits 64 bits; the divisor is greater than the upper half. · what the small functions of package wide return: size, known, product, compare, sign, signed, grows; every argument. · what compare of package wide returns, for all numbers of 128 bits. · the square root by bits is the greatest number whose square is at most the given one; plain; numbers below 2^128. · floorRoot of package wide returns the root by bits, for every number of 128 bits. · what sign, signed and grows of package wide return; every argument. · what root, Sqrt and Root of package wide return. · what grows of package wide returns; every argument. · what Sqrt of package wide returns; every argument. · the plain function for roots is the exact root, rounded; no program in sight; every argument. -/
import Derived.Test.YtkjjoclbjkpdaaaRows
import Derived.WalkKit
import Derived.WalkSpells
import Derived.WalkLawsBesides
import Derived.Lib.Hide
import Derived.Lib.Mul64
import Derived.Laws.Bits64b
import Derived.Lib.Strings
import Derived.Lib.Slices
import Derived.Lib.Small
import Derived.Lib.Walk
import Derived.Lib.BitFns
import Derived.Deep.QuietTactic
import Derived.BigQuiet
import Derived.Deep.DeepCutAuto
import Derived.Deep.CutBlock
import Derived.Deep.RegionWith
namespace Go.Proofs.Ytkjjoclbjkpdaaa
open Go.RowKit
set_option linter.unusedVariables false

theorem mask32 (a : Nat) (ha : a < 18446744073709551616) : bits .and .u64 (a : Int) 4294967295 = ((a % 4294967296 : Nat) : Int) := by
  have h := bits_and_u64_nat a 4294967295 ha (by omega)
  rw [Nat.and_two_pow_sub_one_eq_mod a 32] at h
  exact h
theorem wrapU {a : Nat} (ha : a < 18446744073709551616) : IntKind.u64.wrap (a : Int) = (a : Int) := by rw [IntKind.wrap_u64]; omega
theorem wrapUm (a : Nat) : IntKind.u64.wrap (a : Int) = ((a % 18446744073709551616 : Nat) : Int) := by rw [IntKind.wrap_u64]; omega
theorem half32 (a : Nat) : (a : Int) / 4294967296 = ((a / 4294967296 : Nat) : Int) := by omega
theorem mulU (a b : Nat) : (a : Int) * (b : Int) = ((a * b : Nat) : Int) := (Int.natCast_mul a b).symm
theorem addU (a b : Nat) : (a : Int) + (b : Int) = ((a + b : Nat) : Int) := (Int.natCast_add a b).symm
theorem ret_uu {a b c d : Int} (h : a = b) (g : c = d) : Ending.returned (.tuple #[.int .u64 a, .int .u64 c]) = .returned (.tuple #[.int .u64 b, .int .u64 d]) := by rw [h, g]
/-- the school method with halves of 32 bits -/
theorem school (x y : Nat) (hx : x < 18446744073709551616) (hy : y < 18446744073709551616) :
    IntKind.u64.wrap (IntKind.u64.wrap (IntKind.u64.wrap ((x : Int) / 4294967296 * ((y : Int) / 4294967296)) + IntKind.u64.wrap (IntKind.u64.wrap ((x : Int) / 4294967296 * bits BinOp.and IntKind.u64 (y : Int) 4294967295) + IntKind.u64.wrap (bits BinOp.and IntKind.u64 (x : Int) 4294967295 * bits BinOp.and IntKind.u64 (y : Int) 4294967295) / 4294967296) / 4294967296)
      + IntKind.u64.wrap (bits BinOp.and IntKind.u64 (IntKind.u64.wrap (IntKind.u64.wrap ((x : Int) / 4294967296 * bits BinOp.and IntKind.u64 (y : Int) 4294967295) + IntKind.u64.wrap (bits BinOp.and IntKind.u64 (x : Int) 4294967295 * bits BinOp.and IntKind.u64 (y : Int) 4294967295) / 4294967296)) 4294967295 + IntKind.u64.wrap (bits BinOp.and IntKind.u64 (x : Int) 4294967295 * ((y : Int) / 4294967296))) / 4294967296)
    = ((x * y / 18446744073709551616 : Nat) : Int) := by
  obtain ⟨b1, b2, b3, hhi⟩ := Lib.mul64_hi x y hx hy
  have p11 := Lib.half_mul_le (a := x / 4294967296) (b := y / 4294967296) (by omega) (by omega)
  have p10 := Lib.half_mul_le (a := x / 4294967296) (b := y % 4294967296) (by omega) (by omega)
  have p01 := Lib.half_mul_le (a := x % 4294967296) (b := y / 4294967296) (by omega) (by omega)
  rw [mask32 x hx, mask32 y hy, half32 x, half32 y]
  simp only [mulU, wrapU b1, half32]
  rw [wrapU (a := x / 4294967296 * (y % 4294967296)) (by omega), wrapU (a := x / 4294967296 * (y / 4294967296)) (by omega), wrapU (a := x % 4294967296 * (y / 4294967296)) (by omega)]
  have h1 : IntKind.u64.wrap (((x / 4294967296 * (y % 4294967296) : Nat) : Int) + ((x % 4294967296 * (y % 4294967296) / 4294967296 : Nat) : Int)) = ((x / 4294967296 * (y % 4294967296) + x % 4294967296 * (y % 4294967296) / 4294967296 : Nat) : Int) := by rw [addU, wrapU b2]
  rw [h1, half32, mask32 _ b2]
  have h2 : IntKind.u64.wrap ((((x / 4294967296 * (y % 4294967296) + x % 4294967296 * (y % 4294967296) / 4294967296) % 4294967296 : Nat) : Int) + ((x % 4294967296 * (y / 4294967296) : Nat) : Int)) = (((x / 4294967296 * (y % 4294967296) + x % 4294967296 * (y % 4294967296) / 4294967296) % 4294967296 + x % 4294967296 * (y / 4294967296) : Nat) : Int) := by rw [addU, wrapU b3]
  rw [h2, half32]
  have h3 : IntKind.u64.wrap (((x / 4294967296 * (y / 4294967296) : Nat) : Int) + (((x / 4294967296 * (y % 4294967296) + x % 4294967296 * (y % 4294967296) / 4294967296) / 4294967296 : Nat) : Int)) = ((x / 4294967296 * (y / 4294967296) + (x / 4294967296 * (y % 4294967296) + x % 4294967296 * (y % 4294967296) / 4294967296) / 4294967296 : Nat) : Int) := by rw [addU, wrapU (by omega)]
  rw [h3, addU, wrapU (by omega), hhi]
set_option maxHeartbeats 1000000 in
theorem mul64_any (x y : Nat) (hx : x < 18446744073709551616) (hy : y < 18446744073709551616) (w : World) :
    Calls Try.prog 72 #[.int .u64 x, .int .u64 y] w fun e w' => e = .returned (.tuple #[.int .u64 ((x * y / 18446744073709551616 : Nat) : Int), .int .u64 ((x * y % 18446744073709551616 : Nat) : Int)]) ∧ w = w' := by
  go_enter Try.func72, Try.ntmps72
  go_wp2
  go_ret2
  exact ⟨ret_uu (school x y hx hy) (by rw [mulU, wrapUm]), rfl⟩
end Go.Proofs.Ytkjjoclbjkpdaaa
namespace Go.Proofs.Ytkjjoclbjkpdaaa
open Go.RowKit
set_option linter.unusedVariables false

theorem tab8_size : Lib.len8tab.size = 256 := by decide +kernel
theorem tab8_all : ∀ j : Fin 256, (Lib.len8tab[j.val]'(by rw [tab8_size]; exact j.isLt)).toNat = Lib.bitLen j.val := by decide +kernel
theorem tab8 (i : Nat) (h : i < Lib.len8tab.size) : (Lib.len8tab[i]'h).toNat = Lib.bitLen i := tab8_all ⟨i, by rw [tab8_size] at h; exact h⟩
theorem tab8_le (i : Nat) (h : i < 256) : Lib.bitLen i ≤ 8 := Lib.bitLen_le8 ⟨i, h⟩
theorem len_56 (x : Int) (h : 72057594037927936 ≤ x) (h1 : x ≤ 18446744073709551615) (hs : x / 4294967296 / 65536 / 256 ≤ 255) (hi : (x / 4294967296 / 65536 / 256).toNat < Lib.len8tab.size) : wrap64 (56 + wrap64 ((Lib.len8tab[(x / 4294967296 / 65536 / 256).toNat]'hi).toNat : Int)) = (Lib.bitLen x.toNat : Int) := by
  rw [tab8]
  clear hi
  have e : (x / 4294967296 / 65536 / 256).toNat = x.toNat / 72057594037927936 := by omega
  have l := tab8_le (x / 4294967296 / 65536 / 256).toNat (by omega)
  have s := Lib.bitLen_shift56 x.toNat (by omega) (by omega)
  rw [e] at l ⊢
  rw [s]; clear s e
  generalize Lib.bitLen _ = m at l ⊢
  unfold wrap64; omega
theorem len_48 (x : Int) (h : 281474976710656 ≤ x) (h1 : x ≤ 18446744073709551615) (hs : x / 4294967296 / 65536 ≤ 255) (hi : (x / 4294967296 / 65536).toNat < Lib.len8tab.size) : wrap64 (48 + wrap64 ((Lib.len8tab[(x / 4294967296 / 65536).toNat]'hi).toNat : Int)) = (Lib.bitLen x.toNat : Int) := by
  rw [tab8]
  clear hi
  have e : (x / 4294967296 / 65536).toNat = x.toNat / 281474976710656 := by omega
  have l := tab8_le (x / 4294967296 / 65536).toNat (by omega)
  have s := Lib.bitLen_shift48 x.toNat (by omega) (by omega)
  rw [e] at l ⊢
  rw [s]; clear s e
  generalize Lib.bitLen _ = m at l ⊢
  unfold wrap64; omega
theorem len_40 (x : Int) (h : 1099511627776 ≤ x) (h1 : x ≤ 18446744073709551615) (hs : x / 4294967296 / 256 ≤ 255) (hi : (x / 4294967296 / 256).toNat < Lib.len8tab.size) : wrap64 (40 + wrap64 ((Lib.len8tab[(x / 4294967296 / 256).toNat]'hi).toNat : Int)) = (Lib.bitLen x.toNat : Int) := by
  rw [tab8]
  clear hi
  have e : (x / 4294967296 / 256).toNat = x.toNat / 1099511627776 := by omega
  have l := tab8_le (x / 4294967296 / 256).toNat (by omega)
  have s := Lib.bitLen_shift40 x.toNat (by omega) (by omega)
  rw [e] at l ⊢
  rw [s]; clear s e
  generalize Lib.bitLen _ = m at l ⊢
  unfold wrap64; omega
theorem len_32 (x : Int) (h : 4294967296 ≤ x) (h1 : x ≤ 18446744073709551615) (hs : x / 4294967296 ≤ 255) (hi : (x / 4294967296).toNat < Lib.len8tab.size) : wrap64 (32 + wrap64 ((Lib.len8tab[(x / 4294967296).toNat]'hi).toNat : Int)) = (Lib.bitLen x.toNat : Int) := by
  rw [tab8]
  clear hi
  have e : (x / 4294967296).toNat = x.toNat / 4294967296 := by omega
  have l := tab8_le (x / 4294967296).toNat (by omega)
  have s := Lib.bitLen_shift32 x.toNat (by omega) (by omega)
  rw [e] at l ⊢
  rw [s]; clear s e
  generalize Lib.bitLen _ = m at l ⊢
  unfold wrap64; omega
theorem len_24 (x : Int) (h : 16777216 ≤ x) (h1 : x ≤ 18446744073709551615) (hs : x / 65536 / 256 ≤ 255) (hi : (x / 65536 / 256).toNat < Lib.len8tab.size) : wrap64 (24 + wrap64 ((Lib.len8tab[(x / 65536 / 256).toNat]'hi).toNat : Int)) = (Lib.bitLen x.toNat : Int) := by
  rw [tab8]
  clear hi
  have e : (x / 65536 / 256).toNat = x.toNat / 16777216 := by omega
  have l := tab8_le (x / 65536 / 256).toNat (by omega)
  have s := Lib.bitLen_shift24 x.toNat (by omega) (by omega)
  rw [e] at l ⊢
  rw [s]; clear s e
  generalize Lib.bitLen _ = m at l ⊢
  unfold wrap64; omega
theorem len_16 (x : Int) (h : 65536 ≤ x) (h1 : x ≤ 18446744073709551615) (hs : x / 65536 ≤ 255) (hi : (x / 65536).toNat < Lib.len8tab.size) : wrap64 (16 + wrap64 ((Lib.len8tab[(x / 65536).toNat]'hi).toNat : Int)) = (Lib.bitLen x.toNat : Int) := by
  rw [tab8]
  clear hi
  have e : (x / 65536).toNat = x.toNat / 65536 := by omega
  have l := tab8_le (x / 65536).toNat (by omega)
  have s := Lib.bitLen_shift16 x.toNat (by omega) (by omega)
  rw [e] at l ⊢
  rw [s]; clear s e
  generalize Lib.bitLen _ = m at l ⊢
  unfold wrap64; omega
theorem len_8 (x : Int) (h : 256 ≤ x) (h1 : x ≤ 18446744073709551615) (hs : x / 256 ≤ 255) (hi : (x / 256).toNat < Lib.len8tab.size) : wrap64 (8 + wrap64 ((Lib.len8tab[(x / 256).toNat]'hi).toNat : Int)) = (Lib.bitLen x.toNat : Int) := by
  rw [tab8]
  clear hi
  have e : (x / 256).toNat = x.toNat / 256 := by omega
  have l := tab8_le (x / 256).toNat (by omega)
  have s := Lib.bitLen_shift8 x.toNat (by omega) (by omega)
  rw [e] at l ⊢
  rw [s]; clear s e
  generalize Lib.bitLen _ = m at l ⊢
  unfold wrap64; omega
theorem len_0 (x : Int) (h : 0 ≤ x) (hs : x ≤ 255) (hi : x.toNat < Lib.len8tab.size) : wrap64 (wrap64 ((Lib.len8tab[x.toNat]'hi).toNat : Int)) = (Lib.bitLen x.toNat : Int) := by
  rw [tab8]
  clear hi
  have l := tab8_le x.toNat (by omega)
  generalize Lib.bitLen _ = m at l ⊢
  unfold wrap64; omega
set_option maxHeartbeats 4000000 in
set_option maxRecDepth 100000 in
theorem len64_any (x : Int) (w : World) (h0 : 0 ≤ x) (h1 : x ≤ 18446744073709551615) :
    Calls Try.prog 87 #[.int .u64 x] w fun e w' => e = .returned (.int .i64 (Lib.bitLen x.toNat)) ∧ w = w' := by
  go_enter Try.func87, Try.ntmps87
  go_wp2
  all_goals first
    | (rename_i hneg; exact absurd (by rw [tab8_size]; omega) hneg)
    | (go_ret; refine ⟨congrArg Ending.returned (congrArg (Value.int IntKind.i64) ?_), rfl⟩; first
      | exact len_56 x (by omega) h1 (by omega) _
      | exact len_48 x (by omega) h1 (by omega) _
      | exact len_40 x (by omega) h1 (by omega) _
      | exact len_32 x (by omega) h1 (by omega) _
      | exact len_24 x (by omega) h1 (by omega) _
      | exact len_16 x (by omega) h1 (by omega) _
      | exact len_8 x (by omega) h1 (by omega) _
      | exact len_0 x (by omega) (by omega) _)
theorem bitLen_zero : Lib.bitLen 0 = 0 := by decide +kernel
theorem bitLen_gen (n : Nat) : ∀ x, x < 2 ^ n → x ≠ 0 → n ≤ 64 → 1 ≤ Lib.bitLen x ∧ 2 ^ (Lib.bitLen x - 1) ≤ x ∧ x < 2 ^ Lib.bitLen x ∧ Lib.bitLen x ≤ n := by
  induction n with
  | zero => intro x hx h0; omega
  | succ n ih =>
    intro x hx hz hn
    have hx64 : x < 2 ^ 64 := Nat.lt_of_lt_of_le hx (Nat.pow_le_pow_right (by decide) hn)
    have e := Lib.bitLen_half x hz hx64
    by_cases h1 : x / 2 = 0
    · rw [h1, bitLen_zero] at e
      have : x = 1 := by omega
      subst this
      rw [e]; simp
    · obtain ⟨a, b, c, d⟩ := ih (x / 2) (by rw [Nat.pow_succ] at hx; omega) h1 (by omega)
      rw [e]
      generalize Lib.bitLen (x / 2) = m at *
      obtain ⟨m, rfl⟩ : ∃ k, m = k + 1 := ⟨m - 1, by omega⟩
      refine ⟨by omega, ?_, ?_, by omega⟩
      · have : 1 + (m + 1) - 1 = m + 1 := by omega
        rw [this, Nat.pow_succ]
        have : m + 1 - 1 = m := by omega
        rw [this] at b
        omega
      · have : 1 + (m + 1) = (m + 1) + 1 := by omega
        rw [this, Nat.pow_succ]
        omega
theorem bitLen_spec (x : Nat) (h : x < 18446744073709551616) (h0 : x ≠ 0) : 1 ≤ Lib.bitLen x ∧ 2 ^ (Lib.bitLen x - 1) ≤ x ∧ x < 2 ^ Lib.bitLen x ∧ Lib.bitLen x ≤ 64 := by
  have e : 18446744073709551616 = 2 ^ 64 := by decide
  rw [e] at h
  exact bitLen_gen 64 x h h0 (Nat.le_refl _)
/-- the leading zeros: the shift that normalizes a divisor -/
theorem lz64_any (y : Nat) (hy : y < 18446744073709551616) (h0 : y ≠ 0) (w : World) :
    Calls Try.prog 85 #[.int .u64 y] w fun e w' => ∃ s : Nat, s ≤ 63 ∧ 9223372036854775808 ≤ y * 2 ^ s ∧ y * 2 ^ s < 18446744073709551616 ∧ e = .returned (.int .i64 s) ∧ w = w' := by
  obtain ⟨a, b, c, d⟩ := bitLen_spec y hy h0
  have hl := len64_any y w (by omega) (by omega)
  rw [Int.toNat_natCast] at hl
  generalize Lib.bitLen y = m at *
  have HL := Lib.hid hl
  clear hl
  have q1 : 9223372036854775808 ≤ y * 2 ^ (64 - m) := by
    have := Nat.mul_le_mul_right (2 ^ (64 - m)) b
    rw [← Nat.pow_add] at this
    have e : m - 1 + (64 - m) = 63 := by omega
    rw [e] at this; exact this
  have q2 : y * 2 ^ (64 - m) < 18446744073709551616 := by
    have := Nat.mul_lt_mul_of_pos_right c (Nat.pow_pos (n := 64 - m) (show 0 < 2 by decide))
    rw [← Nat.pow_add] at this
    have e : m + (64 - m) = 64 := by omega
    rw [e] at this; exact this
  have HQ := Lib.hid (And.intro q1 q2)
  clear q1 q2 b c
  go_enter Try.func85, Try.ntmps85
  go_wp2_with fail
  refine HL.out.mono ?_
  rintro e w' ⟨rfl, rfl⟩
  go_wp2_with fail
  go_ret
  exact ⟨64 - m, by omega, HQ.out.1, HQ.out.2, congrArg Ending.returned (congrArg (Value.int IntKind.i64) (by omega)), rfl⟩
end Go.Proofs.Ytkjjoclbjkpdaaa
namespace Go.Proofs.Ytkjjoclbjkpdaaa
set_option linter.unusedVariables false
/-- the estimate q of the digit of (u * 2^32 + v) / y, with its rest r; a and b are the halves of y -/
structure DI (u v y a b q r : Nat) : Prop where
  a0 : 2147483648 ≤ a
  a1 : a < 4294967296
  b1 : b < 4294967296
  v1 : v < 4294967296
  ey : y = a * 4294967296 + b
  u1 : u < y
  eq : q * a + r = u
  up : (u * 4294967296 + v) / y ≤ q
theorem distr (q a b : Nat) : q * (a * 4294967296 + b) = q * a * 4294967296 + q * b := by grind
theorem DI.start {u v y a b : Nat} (a0 : 2147483648 ≤ a) (a1 : a < 4294967296) (b1 : b < 4294967296) (v1 : v < 4294967296) (ey : y = a * 4294967296 + b) (u1 : u < y) : DI u v y a b (u / a) (u % a) := by
  have e : u / a * a + u % a = u := Nat.div_add_mod' u a
  refine ⟨a0, a1, b1, v1, ey, u1, e, ?_⟩
  have hm : u % a < a := Nat.mod_lt _ (by omega)
  have hlt : (u * 4294967296 + v) / y < u / a + 1 := by
    rw [Nat.div_lt_iff_lt_mul (by omega), ey, distr, Nat.add_mul, Nat.add_mul]
    omega
  omega
/-- the product of the estimate and the divisor -/
theorem DI.prod {u v y a b q r : Nat} (h : DI u v y a b q r) : q * y + r * 4294967296 = u * 4294967296 + q * b := by
  have e := h.eq
  rw [h.ey, distr]
  omega
theorem less_of {p t R U v : Nat} (hp : p + R = U + t) (hg : R + v < t) : U + v < p := by omega
/-- too great -/
theorem DI.less {u v y a b q r : Nat} (h : DI u v y a b q r) (hlt : u * 4294967296 + v < q * y) : 1 ≤ q ∧ DI u v y a b (q - 1) (r + a) := by
  have hq : (u * 4294967296 + v) / y < q := by
    have a0 := h.a0
    have ey := h.ey
    rw [Nat.div_lt_iff_lt_mul (by omega)]
    exact hlt
  have q1 : 1 ≤ q := Nat.lt_of_le_of_lt (Nat.zero_le _) hq
  refine ⟨q1, h.a0, h.a1, h.b1, h.v1, h.ey, h.u1, ?_, Nat.le_pred_of_lt hq⟩
  have e := h.eq
  obtain ⟨k, rfl⟩ : ∃ k, q = k + 1 := ⟨q - 1, (Nat.sub_add_cancel q1).symm⟩
  rw [Nat.add_mul, Nat.one_mul] at e
  rw [Nat.add_sub_cancel]
  omega
theorem DI.great {u v y a b q r : Nat} (h : DI u v y a b q r) (hg : 4294967296 ≤ q) : 1 ≤ q ∧ DI u v y a b (q - 1) (r + a) := by
  refine h.less ?_
  have h1 := Nat.mul_le_mul_right y hg
  have u1 := h.u1
  have v1 := h.v1
  omega
theorem DI.great2 {u v y a b q r : Nat} (h : DI u v y a b q r) (hg : r * 4294967296 + v < q * b) : 1 ≤ q ∧ DI u v y a b (q - 1) (r + a) := by
  refine h.less ?_
  have hp := h.prod
  exact less_of hp hg
/-- the rest has left its range: the estimate is the digit -/
theorem DI.leave {u v y a b q r : Nat} (h : DI u v y a b q r) (hr : 4294967296 ≤ r) : q < 4294967296 ∧ (u * 4294967296 + v) / y = q := by
  have a0 := h.a0
  have ey := h.ey
  have u1 := h.u1
  have b1 := h.b1
  have e := h.eq
  have hp := h.prod
  have up := h.up
  have hq : q < 4294967296 := by
    refine Nat.lt_of_not_le fun hq => ?_
    have h1 := Nat.mul_le_mul_right a hq
    omega
  refine ⟨hq, Nat.le_antisymm up ?_⟩
  rw [Nat.le_div_iff_mul_le (by omega)]
  have h2 : q * b ≤ 4294967295 * 4294967295 := Nat.mul_le_mul (by omega) (by omega)
  omega
/-- small enough: the estimate is the digit -/
theorem DI.done {u v y a b q r : Nat} (h : DI u v y a b q r) (hg : q * b ≤ r * 4294967296 + v) : (u * 4294967296 + v) / y = q := by
  have a0 := h.a0
  have ey := h.ey
  have hp := h.prod
  refine Nat.le_antisymm h.up ?_
  rw [Nat.le_div_iff_mul_le (by omega)]
  omega
theorem DI.small {u v y a b q r : Nat} (h : DI u v y a b q r) : q ≤ 8589934592 ∧ r ≤ u := by
  have a0 := h.a0
  have e := h.eq
  have h1 := Nat.mul_le_mul_left q a0
  have := h.u1
  have := h.ey
  have := h.a1
  have := h.b1
  omega
/-- the digit and the rest -/
theorem digit {u v y q : Nat} (hy : 0 < y) (hu : u < y) (hv : v < 4294967296) (h : (u * 4294967296 + v) / y = q) : q < 4294967296 ∧ q * y + (u * 4294967296 + v) % y = u * 4294967296 + v ∧ (u * 4294967296 + v) % y < y := by
  have e := Nat.div_add_mod' (u * 4294967296 + v) y
  have m := Nat.mod_lt (u * 4294967296 + v) hy
  refine ⟨?_, by rw [← h]; exact e, m⟩
  rw [← h, Nat.div_lt_iff_lt_mul hy]
  omega
/-- both digits, and the shift undone -/
theorem digits {n y z s u v w q1 r1 q0 r0 : Nat} (hy : 0 < y) (hz : z = y * 2 ^ s) (hn : n * 2 ^ s = (u * 4294967296 + v) * 4294967296 + w) (h1 : u * 4294967296 + v = q1 * z + r1) (h2 : r1 * 4294967296 + w = q0 * z + r0) (h3 : r0 < z) :
    n / y = q1 * 4294967296 + q0 ∧ n % y = r0 / 2 ^ s := by
  have hp : 0 < 2 ^ s := Nat.pow_pos (by decide)
  have hz0 : 0 < z := by omega
  have e : n * 2 ^ s = (q1 * 4294967296 + q0) * z + r0 := by
    rw [hn, h1, Nat.add_mul (q1 * 4294967296), Nat.mul_right_comm q1 4294967296 z, Nat.add_mul, Nat.add_assoc, h2, Nat.add_assoc]
  generalize q1 * 4294967296 + q0 = q at e ⊢
  have d : n * 2 ^ s / z = n / y := by rw [hz]; exact Nat.mul_div_mul_right n y hp
  have m : n * 2 ^ s % z = n % y * 2 ^ s := by rw [hz]; exact Nat.mul_mod_mul_right (2 ^ s) n y
  have hq : n * 2 ^ s / z = q := by
    rw [e, Nat.mul_comm q, Nat.mul_add_div hz0, Nat.div_eq_of_lt h3]; rfl
  have hr : n * 2 ^ s % z = r0 := by
    rw [e, Nat.mul_comm q, Nat.mul_add_mod, Nat.mod_eq_of_lt h3]
  refine ⟨by rw [← d, hq], ?_⟩
  rw [← hr, m, Nat.mul_div_cancel _ hp]
/-- the dividend, shifted with its divisor -/
theorem normed {hi lo y s : Nat} (hhi : hi < y) (hlo : lo < 18446744073709551616) (hs : s ≤ 63) (hz : y * 2 ^ s < 18446744073709551616) :
    hi * 2 ^ s < 18446744073709551616 ∧ lo / 2 ^ (64 - s) < 2 ^ s ∧ (hi * 18446744073709551616 + lo) * 2 ^ s = (hi * 2 ^ s + lo / 2 ^ (64 - s)) * 18446744073709551616 + lo * 2 ^ s % 18446744073709551616 ∧ hi * 2 ^ s + lo / 2 ^ (64 - s) < y * 2 ^ s := by
  have hp : 0 < 2 ^ s := Nat.pow_pos (by decide)
  have e64 : 2 ^ (64 - s) * 2 ^ s = 18446744073709551616 := by rw [← Nat.pow_add, Nat.sub_add_cancel (by omega)]
  have hq : 0 < 2 ^ (64 - s) := Nat.pow_pos (by decide)
  have h1 : hi * 2 ^ s + 2 ^ s ≤ y * 2 ^ s := by have := Nat.mul_le_mul_right (2 ^ s) hhi; rwa [Nat.succ_mul] at this
  have h2 : lo / 2 ^ (64 - s) < 2 ^ s := by rw [Nat.div_lt_iff_lt_mul hq, Nat.mul_comm, e64]; exact hlo
  have h3 : lo * 2 ^ s / 18446744073709551616 = lo / 2 ^ (64 - s) := by rw [← e64]; exact Nat.mul_div_mul_right _ _ hp
  have h4 := Nat.div_add_mod' (lo * 2 ^ s) 18446744073709551616
  rw [h3] at h4
  refine ⟨Nat.lt_of_le_of_lt (Nat.le_trans (Nat.le_add_right _ _) h1) hz, h2, ?_, Nat.lt_of_lt_of_le (Nat.add_lt_add_left h2 _) h1⟩
  rw [Nat.add_mul, Nat.add_mul, Nat.add_assoc, h4, Nat.mul_right_comm]
end Go.Proofs.Ytkjjoclbjkpdaaa
namespace Go.Proofs.Ytkjjoclbjkpdaaa
open Go.RowKit
set_option linter.unusedVariables false
theorem eqz {n : Nat} (h : n ≠ 0) : ((n : Int) == 0) = false := by simp; omega
set_option maxHeartbeats 1000000 in
theorem div64_small (lo y : Nat) (hlo : lo < 18446744073709551616) (hy : y < 18446744073709551616) (h0 : 0 < y) (w : World) :
    Calls Try.prog 82 #[.int .u64 (0 : Nat), .int .u64 lo, .int .u64 y] w fun e w' => e = .returned (.tuple #[.int .u64 ((lo / y : Nat) : Int), .int .u64 ((lo % y : Nat) : Int)]) ∧ Below w.heap.size w w' := by
  have e0 : ((y : Int) == 0) = false := eqz (by omega)
  go_enter Try.func82, Try.ntmps82
  go_wp2
  go_quiet (fail)
  go_wp2
  go_ret2
  exact ⟨ret_uu (by rw [← Int.natCast_ediv]; have := Nat.div_le_self lo y; exact wrapU (by omega)) (Int.natCast_emod lo y).symm, below_drewN (Below.refl _ _) _⟩
theorem or_add {a b s : Nat} (ha : a * 2 ^ s < 18446744073709551616) (hb : b < 2 ^ s) (hs : s ≤ 63) : bits .or .u64 ((a * 2 ^ s : Nat) : Int) (b : Int) = ((a * 2 ^ s + b : Nat) : Int) := by
  have h2 : 2 ^ s ≤ 2 ^ 63 := Nat.pow_le_pow_right (by decide) hs
  have h := bits_or_u64_nat (a * 2 ^ s) b ha (by omega)
  rw [h, ← Nat.shiftLeft_eq, ← Nat.shiftLeft_add_eq_or_of_lt hb]
/-- what the first part lays ahead of the estimates -/
structure DN (hi lo y s z a b u v x : Nat) : Prop where
  ez : z = y * 2 ^ s
  ezz : z = a * 4294967296 + b
  a0 : 2147483648 ≤ a
  a1 : a < 4294967296
  b1 : b < 4294967296
  v1 : v < 4294967296
  x1 : x < 4294967296
  u1 : u < z
  en : (hi * 18446744073709551616 + lo) * 2 ^ s = (u * 4294967296 + v) * 4294967296 + x
def NormRel (hi lo y s : Nat) (w : World) (s2 s8 s9 s10 s11 s13 s14 : Value) (wx : World) : Prop :=
  ∃ z a b u v x : Nat, s2 = .int .u64 z ∧ s8 = .int .u64 s ∧ s9 = .int .u64 a ∧ s10 = .int .u64 b ∧ s11 = .int .u64 u ∧ s13 = .int .u64 v ∧ s14 = .int .u64 x ∧ DN hi lo y s z a b u v x ∧ w = wx
theorem norm_rel {hi lo y s : Nat} (w : World) (hhi : hi < y) (hlo : lo < 18446744073709551616) (hs : s ≤ 63) (hs1 : 9223372036854775808 ≤ y * 2 ^ s) (hz : y * 2 ^ s < 18446744073709551616) :
    NormRel hi lo y s w (.int .u64 ((y : Int) * 2 ^ s)) (.int .u64 s) (.int .u64 ((y : Int) * 2 ^ s / 4294967296)) (.int .u64 (bits .and .u64 ((y : Int) * 2 ^ s) 4294967295)) (.int .u64 (bits .or .u64 (IntKind.u64.wrap ((hi : Int) * 2 ^ s)) ((lo : Int) / 2 ^ (64 - s)))) (.int .u64 (IntKind.u64.wrap ((lo : Int) * 2 ^ s) / 4294967296)) (.int .u64 (bits .and .u64 (IntKind.u64.wrap ((lo : Int) * 2 ^ s)) 4294967295)) w := by
  obtain ⟨n1, n2, n3, n4⟩ := normed hhi hlo hs hz
  have c1 : (y : Int) * 2 ^ s = ((y * 2 ^ s : Nat) : Int) := by push_cast; rfl
  have c2 : (hi : Int) * 2 ^ s = ((hi * 2 ^ s : Nat) : Int) := by push_cast; rfl
  have c3 : (lo : Int) * 2 ^ s = ((lo * 2 ^ s : Nat) : Int) := by push_cast; rfl
  have c4 : (lo : Int) / 2 ^ (64 - s) = ((lo / 2 ^ (64 - s) : Nat) : Int) := by push_cast; rfl
  have hm : lo * 2 ^ s % 18446744073709551616 < 18446744073709551616 := Nat.mod_lt _ (by decide)
  rw [c1, c2, c3, c4, wrapU n1, wrapUm, or_add n1 n2 hs, mask32 _ hz, mask32 _ hm, half32, half32]
  generalize lo * 2 ^ s % 18446744073709551616 = l at *
  generalize hi * 2 ^ s + lo / 2 ^ (64 - s) = u at *
  obtain ⟨z, ez⟩ : ∃ z, y * 2 ^ s = z := ⟨_, rfl⟩
  rw [ez] at hs1 hz n4 ⊢
  clear n1 n2 c1 c2 c3 c4
  refine ⟨z, z / 4294967296, z % 4294967296, u, l / 4294967296, l % 4294967296, rfl, rfl, rfl, rfl, rfl, rfl, rfl, ⟨ez.symm, ?_, ?_, ?_, ?_, ?_, ?_, n4, ?_⟩, rfl⟩
  · omega
  · omega
  · omega
  · omega
  · omega
  · omega
  · rw [n3]; omega
theorem est_q {u a : Nat} (a0 : 2147483648 ≤ a) (hu : u < 18446744073709551616 := by omega) : IntKind.u64.wrap ((u : Int) / a) = ((u / a : Nat) : Int) := by
  have h : u / a ≤ u := Nat.div_le_self u a
  rw [← Int.natCast_ediv]; exact wrapU (by omega)
theorem est_r {u a : Nat} (a0 : 2147483648 ≤ a) (hu : u < 18446744073709551616) : IntKind.u64.wrap ((u : Int) - IntKind.u64.wrap (((u / a : Nat) : Int) * a)) = ((u % a : Nat) : Int) := by
  have h := Nat.div_add_mod' u a
  have h2 : IntKind.u64.wrap (((u / a : Nat) : Int) * a) = ((u / a * a : Nat) : Int) := by rw [mulU, wrapU (by omega)]
  rw [h2]
  have h3 : (u : Int) - ((u / a * a : Nat) : Int) = ((u % a : Nat) : Int) := by omega
  rw [h3]; exact wrapU (by omega)
/-- the rest behind the first digit, as the machine reckons it -/
theorem rest_w {u v z Q m : Nat} (h : Q * z + m = u * 4294967296 + v) (hm : m < z) (hz : z < 18446744073709551616) (hu : u < 18446744073709551616) (hv : v < 4294967296) (hQ : Q < 4294967296) :
    IntKind.u64.wrap (IntKind.u64.wrap (IntKind.u64.wrap ((u : Int) * 4294967296) + v) - IntKind.u64.wrap ((Q : Int) * z)) = (m : Int) := by
  have e : (Q : Int) * z = ((Q * z : Nat) : Int) := (Int.natCast_mul Q z).symm
  rw [e]
  simp only [IntKind.wrap_u64]
  omega
set_option maxHeartbeats 1000000 in
set_option maxRecDepth 100000 in
theorem div64_great (hi lo y : Nat) (hhi : hi < y) (hlo : lo < 18446744073709551616) (hy : y < 18446744073709551616) (h0 : 0 < hi) (w : World) :
    Calls Try.prog 82 #[.int .u64 hi, .int .u64 lo, .int .u64 y] w fun e w' => e = .returned (.tuple #[.int .u64 (((hi * 18446744073709551616 + lo) / y : Nat) : Int), .int .u64 (((hi * 18446744073709551616 + lo) % y : Nat) : Int)]) ∧ Below w.heap.size w w' := by
  have e0 : ((y : Int) == 0) = false := eqz (by omega)
  have e1 : ((hi : Int) == 0) = false := eqz (by omega)
  go_enter Try.func82, Try.ntmps82
  go_wp2_with fail
  refine (lz64_any y hy (by omega) _).mono ?_
  rintro e w' ⟨s, hs, hs1, hs2, rfl, rfl⟩
  have HN := Lib.hid (norm_rel w hhi hlo hs hs1 hs2)
  have z1 : (y : Int) * 2 ^ s ≤ 18446744073709551615 := by
    have : ((y * 2 ^ s : Nat) : Int) < 18446744073709551616 := by omega
    push_cast at this; omega
  have z2 : 9223372036854775808 ≤ (y : Int) * 2 ^ s := by
    have : 9223372036854775808 ≤ ((y * 2 ^ s : Nat) : Int) := by omega
    push_cast at this; omega
  go_upto_region 14 with fail
  go_cut [2, 8, 9, 10, 11, 13, 14] (fun s2 s8 s9 s10 s11 s13 s14 wx => NormRel hi lo y s w s2 s8 s9 s10 s11 s13 s14 wx)
  case first =>
    go_wp2_with fail
    go_meet
    exact HN.out
  case rest =>
    obtain ⟨z, a, b, u, v, x, rfl, rfl, rfl, rfl, rfl, rfl, rfl, hd, rfl⟩ := hcut
    have a0 := hd.a0
    have a1 := hd.a1
    have b1 := hd.b1
    have v1 := hd.v1
    have x1 := hd.x1
    have hzz := hd.u1
    have hz2 : z < 18446744073709551616 := by rw [hd.ez]; exact hs2
    have HD := Lib.hid hd
    have HI := Lib.hid (DI.start (v := v) a0 a1 b1 v1 hd.ezz hd.u1)
    clear HN hd z1 z2
    go_upto_block 0 with fail
    go_cut [15] (fun q wx => q = .int .u64 (((u * 4294967296 + v) / z : Nat) : Int) ∧ w = wx)
    case first =>
      go_wp2_with fail
      go_loop [15, 16] (fun c d => ∃ q r : Nat, c = .int .u64 q ∧ d = .int .u64 r ∧ r < 4294967296 ∧ DI u v z a b q r) (fun c _ => (intOf c).toNat)
      case atStart => exact ⟨u / a, u % a, by rw [est_q a0], by rw [est_q a0, est_r a0 (by omega)], Nat.lt_trans (Nat.mod_lt _ (by omega)) a1, HI.out⟩
      case round =>
        obtain ⟨q, r, rfl, rfl, hr, hi⟩ := hrel
        have HJ := Lib.hid hi
        have i0 : (r : Int) < 4294967296 := by omega
        have i1 : (q : Int) ≤ 8589934592 := by have := hi.small; omega
        have i2 : (a : Int) < 4294967296 := by omega
        have i3 : (v : Int) < 4294967296 := by omega
        have i4 : (b : Int) ≤ 4294967295 := by omega
        clear hi hr a0 a1 b1 v1 x1 hzz hz2 hlo hy hs1 hs2 hhi h0
        by_cases c1 : 4294967296 ≤ (q : Int)
        · have HG := Lib.hid (HJ.out.great (by omega))
          by_cases c3 : 4294967296 ≤ (r : Int) + a
          · have HL := Lib.hid (HG.out.2.leave (by omega))
            go_wp2_with fail
            go_meet
            exact ⟨congrArg _ (by have h1 := HL.out.2; have h2 := HG.out.1; rw [h1]; omega), rfl⟩
          · go_wp2_with fail
            go_round
            case rel => exact ⟨q - 1, r + a, congrArg _ (by have h2 := HG.out.1; omega), congrArg _ (by omega), by omega, HG.out.2⟩
            case measure => simp [intOf]; have h2 := HG.out.1; omega
        · have k0 : 0 ≤ (q : Int) * b := Int.mul_nonneg (by omega) (by omega)
          have k1 : (q : Int) * b ≤ 18446744065119617025 := (prod_bound q b (by omega) (by omega) (by omega) (by omega)).2
          by_cases c2 : 4294967296 * (r : Int) + v < (q : Int) * b
          · have HG := Lib.hid (HJ.out.great2 (by omega))
            have i5 : (1 : Int) ≤ q := by have := HG.out.1; omega
            by_cases c3 : 4294967296 ≤ (r : Int) + a
            · have HL := Lib.hid (HG.out.2.leave (by omega))
              go_wp2_with fail
              go_meet
              exact ⟨congrArg _ (by have h1 := HL.out.2; have h2 := HG.out.1; rw [h1]; omega), rfl⟩
            · go_wp2_with fail
              go_round
              case rel => exact ⟨q - 1, r + a, congrArg _ (by have h2 := HG.out.1; omega), congrArg _ (by omega), by omega, HG.out.2⟩
              case measure => simp [intOf]; have h2 := HG.out.1; omega
          · have HL := Lib.hid (HJ.out.done (by omega))
            go_wp2_with fail
            go_meet
            exact ⟨congrArg _ (by have h1 := HL.out; rw [h1]), rfl⟩
    case rest =>
      obtain ⟨rfl, rfl⟩ := hcut
      obtain ⟨Q, hQ⟩ : ∃ Q, (u * 4294967296 + v) / z = Q := ⟨_, rfl⟩
      have HQ := Lib.hid (digit (by omega) hzz v1 hQ)
      obtain ⟨M, hM⟩ : ∃ M, (u * 4294967296 + v) % z = M := ⟨_, rfl⟩
      have HR := Lib.hid (rest_w HQ.out.2.1 HQ.out.2.2 hz2 (by omega) v1 HQ.out.1)
      have HE : Hid (Q * z + M = u * 4294967296 + v) := by have := HQ.out.2.1; rw [hM] at this; exact this
      have HM : Hid (M < z) := by have := HQ.out.2.2; rw [hM] at this; exact this
      have HI2 := Lib.hid (DI.start (u := M) (v := x) a0 a1 b1 x1 HD.out.ezz HM.out)
      have HQ1 := Lib.hid HQ.out.1
      rw [hQ]
      rw [hM] at HR
      clear hQ hM HI HQ
      go_upto_region 22 with fail
      rw [HR.out]
      clear HR
      have hzz := HM.out
      go_upto_block 2 with fail
      go_cut [18] (fun q wx => q = .int .u64 (((M * 4294967296 + x) / z : Nat) : Int) ∧ w = wx)
      case first =>
        go_wp2_with fail
        go_loop [18, 16] (fun c d => ∃ q r : Nat, c = .int .u64 q ∧ d = .int .u64 r ∧ r < 4294967296 ∧ DI M x z a b q r) (fun c _ => (intOf c).toNat)
        case atStart => exact ⟨M / a, M % a, by rw [est_q a0], by rw [est_q a0, est_r a0 (by omega)], Nat.lt_trans (Nat.mod_lt _ (by omega)) a1, HI2.out⟩
        case round =>
          obtain ⟨q, r, rfl, rfl, hr, hi⟩ := hrel
          have HJ := Lib.hid hi
          have i0 : (r : Int) < 4294967296 := by omega
          have i1 : (q : Int) ≤ 8589934592 := by have := hi.small; omega
          have i2 : (a : Int) < 4294967296 := by omega
          have i3 : (x : Int) < 4294967296 := by omega
          have i4 : (b : Int) ≤ 4294967295 := by omega
          clear hi hr a0 a1 b1 v1 x1 hzz hz2 hlo hy hs1 hs2 hhi h0
          by_cases c1 : 4294967296 ≤ (q : Int)
          · have HG := Lib.hid (HJ.out.great (by omega))
            by_cases c3 : 4294967296 ≤ (r : Int) + a
            · have HL := Lib.hid (HG.out.2.leave (by omega))
              go_wp2_with fail
              go_meet
              exact ⟨congrArg _ (by have h1 := HL.out.2; have h2 := HG.out.1; rw [h1]; omega), rfl⟩
            · go_wp2_with fail
              go_round
              case rel => exact ⟨q - 1, r + a, congrArg _ (by have h2 := HG.out.1; omega), congrArg _ (by omega), by omega, HG.out.2⟩
              case measure => simp [intOf]; have h2 := HG.out.1; omega
          · have k0 : 0 ≤ (q : Int) * b := Int.mul_nonneg (by omega) (by omega)
            have k1 : (q : Int) * b ≤ 18446744065119617025 := (prod_bound q b (by omega) (by omega) (by omega) (by omega)).2
            by_cases c2 : 4294967296 * (r : Int) + x < (q : Int) * b
            · have HG := Lib.hid (HJ.out.great2 (by omega))
              have i5 : (1 : Int) ≤ q := by have := HG.out.1; omega
              by_cases c3 : 4294967296 ≤ (r : Int) + a
              · have HL := Lib.hid (HG.out.2.leave (by omega))
                go_wp2_with fail
                go_meet
                exact ⟨congrArg _ (by have h1 := HL.out.2; have h2 := HG.out.1; rw [h1]; omega), rfl⟩
              · go_wp2_with fail
                go_round
                case rel => exact ⟨q - 1, r + a, congrArg _ (by have h2 := HG.out.1; omega), congrArg _ (by omega), by omega, HG.out.2⟩
                case measure => simp [intOf]; have h2 := HG.out.1; omega
            · have HL := Lib.hid (HJ.out.done (by omega))
              go_wp2_with fail
              go_meet
              exact ⟨congrArg _ (by have h1 := HL.out; rw [h1]), rfl⟩
      case rest =>
        obtain ⟨rfl, rfl⟩ := hcut
        obtain ⟨Q0, hQ0⟩ : ∃ Q0, (M * 4294967296 + x) / z = Q0 := ⟨_, rfl⟩
        have HQ0 := Lib.hid (digit (by omega) HM.out x1 hQ0)
        have HF := Lib.hid (digits (n := hi * 18446744073709551616 + lo) (by omega) HD.out.ez HD.out.en HE.out.symm HQ0.out.2.1.symm HQ0.out.2.2)
        have HR := Lib.hid (rest_w HQ0.out.2.1 HQ0.out.2.2 hz2 (by omega) x1 HQ0.out.1)
        have j1 : (Q : Int) < 4294967296 := by have := HQ1.out; omega
        have j2 : (Q0 : Int) < 4294967296 := by have := HQ0.out.1; omega
        rw [hQ0]
        clear hQ0 HI2 a0 a1 b1 v1 x1 hzz hz2 hlo hy hs1 hs2 hhi h0
        go_upto_region 28 with fail
        go_wp2_with fail
        go_ret2
        refine ⟨ret_uu ?_ ?_, Below.refl _ _⟩
        · rw [HF.out.1]; omega
        · rw [HR.out, HF.out.2, Int.natCast_ediv, Int.natCast_pow]; rfl
/-- WHAT Div64 GIVES -/
theorem div64_any (hi lo y : Nat) (hhi : hi < y) (hlo : lo < 18446744073709551616) (hy : y < 18446744073709551616) (w : World) :
    Calls Try.prog 82 #[.int .u64 hi, .int .u64 lo, .int .u64 y] w fun e w' => e = .returned (.tuple #[.int .u64 (((hi * 18446744073709551616 + lo) / y : Nat) : Int), .int .u64 (((hi * 18446744073709551616 + lo) % y : Nat) : Int)]) ∧ Below w.heap.size w w' := by
  rcases Nat.eq_zero_or_pos hi with h | h
  · subst h
    rw [Nat.zero_mul, Nat.zero_add]
    exact div64_small lo y hlo hy hhi w
  · exact div64_great hi lo y hhi hlo hy h w
end Go.Proofs.Ytkjjoclbjkpdaaa
namespace Go.Proofs.Ytkjjoclbjkpdaaa
open Go.RowKit
set_option linter.unusedVariables false
theorem ret_u64 {a b : Int} (h : a = b) : Ending.returned (.int .u64 a) = .returned (.int .u64 b) := by rw [h]
theorem btW {w w1 w2 : World} (h1 : Below w.heap.size w w1) (h2 : Below w1.heap.size w1 w2) : Below w.heap.size w w2 := h1.trans (h2.mono h1.size)
set_option maxHeartbeats 400000 in
theorem size_any (n : Int) (w : World) (h1 : -9223372036854775808 ≤ n) (h2 : n ≤ 9223372036854775807) :
    Calls Try.prog 65 #[.int .i64 n] w fun e w' => e = .returned (.int .u64 (n.natAbs : Int)) ∧ w = w' := by
  by_cases h : n < 0
  · go_enter Try.func65, Try.ntmps65
    go_wp2
    go_ret
    exact ⟨ret_u64 (by omega), rfl⟩
  · go_enter Try.func65, Try.ntmps65
    go_wp2
    go_ret
    exact ⟨ret_u64 (by omega), rfl⟩
theorem known_yes (m : Int) (w : World) (h1 : 0 ≤ m) (h2 : m ≤ 2) :
    Calls Try.prog 54 #[.int .i64 m] w fun e w' => e = .returned (.bool true) ∧ w = w' := by
  have h3 : m = 0 ∨ m = 1 ∨ m = 2 := by omega
  rcases h3 with rfl | rfl | rfl <;>
  · go_enter Try.func54, Try.ntmps54
    go_wp2
    go_ret
    exact ⟨rfl, rfl⟩
theorem known_no (m : Int) (w : World) (h : m < 0 ∨ 2 < m) :
    Calls Try.prog 54 #[.int .i64 m] w fun e w' => e = .returned (.bool false) ∧ w = w' := by
  have e0 : (m == 0) = false := by simp; omega
  have e1 : (m == 1) = false := by simp; omega
  have e2 : (m == 2) = false := by simp; omega
  clear h
  go_enter Try.func54, Try.ntmps54
  go_wp2
  go_ret
  exact ⟨rfl, rfl⟩
/-- a number of 128 bits as a value -/
def pairV (P : Nat) : Value := .agg #[.int .u64 ((P / 18446744073709551616 : Nat) : Int), .int .u64 ((P % 18446744073709551616 : Nat) : Int)]
set_option maxHeartbeats 400000 in
theorem product_any (x y : Nat) (hx : x < 18446744073709551616) (hy : y < 18446744073709551616) (w : World) :
    Calls Try.prog 67 #[.int .u64 x, .int .u64 y] w fun e w' => e = .returned (pairV (x * y)) ∧ Below w.heap.size w w' := by
  go_enter Try.func67, Try.ntmps67
  go_wp2_with fail
  refine (mul64_any x y hx hy _).mono ?_
  rintro e w' ⟨rfl, rfl⟩
  go_wp2_with fail
  refine bodyPost_ret (v := pairV (x * y)) ?_ rfl ⟨rfl, ?_⟩
  · simp [results, Try.results67, go_sem, pairV]
  · exact (Below.refl _ _).alloc (Nat.le_refl _) _
end Go.Proofs.Ytkjjoclbjkpdaaa
namespace Go.Proofs.Ytkjjoclbjkpdaaa
open Go.RowKit
set_option linter.unusedVariables false
def cmpP (a b c d : Int) : Int := if a < c ∨ (a = c ∧ b < d) then -1 else if a = c ∧ b = d then 0 else 1
theorem cmpP_lt {a b c d : Int} (h : a < c ∨ (a = c ∧ b < d)) : cmpP a b c d = -1 := if_pos h
theorem cmpP_eq (a b : Int) : cmpP a b a b = 0 := by unfold cmpP; rw [if_neg (by omega), if_pos (by omega)]
theorem cmpP_gt {a b c d : Int} (h : ¬ (a < c ∨ (a = c ∧ b < d))) (h2 : ¬ (a = c ∧ b = d)) : cmpP a b c d = 1 := by unfold cmpP; rw [if_neg h, if_neg h2]
theorem ab2 {w : World} (o o' : Obj) : Below w.heap.size w ((w.alloc o).alloc o') := ((Below.refl _ _).alloc (Nat.le_refl _) _).alloc (by simp) _
set_option maxHeartbeats 400000 in
theorem compare_raw (a b c d : Int) (w : World) (ha : 0 ≤ a) (hb : 0 ≤ b) (hc : 0 ≤ c) (hd : 0 ≤ d) :
    Calls Try.prog 78 #[.agg #[.int .u64 a, .int .u64 b], .agg #[.int .u64 c, .int .u64 d]] w fun e w' => e = .returned (.int .i64 (cmpP a b c d)) ∧ Below w.heap.size w w' := by
  by_cases h1 : a < c
  · have e := cmpP_lt (a := a) (b := b) (c := c) (d := d) (Or.inl h1)
    rw [e]
    clear e
    go_enter Try.func78, Try.ntmps78
    go_wp2
    go_ret
    exact ⟨rfl, ab2 _ _⟩
  by_cases h2 : a = c
  · subst h2
    have f0 : decide (a < a) = false := by simp
    by_cases h3 : b < d
    · have e := cmpP_lt (a := a) (b := b) (c := a) (d := d) (Or.inr ⟨rfl, h3⟩)
      rw [e]
      clear e h1
      go_enter Try.func78, Try.ntmps78
      go_wp2
      go_ret
      exact ⟨rfl, ab2 _ _⟩
    by_cases h4 : b = d
    · subst h4
      rw [cmpP_eq]
      clear h1 h3
      have f1 : decide (b < b) = false := by simp
      go_enter Try.func78, Try.ntmps78
      go_wp2
      go_ret
      exact ⟨rfl, ab2 _ _⟩
    · have e1 : (b == d) = false := by simpa using h4
      have f1 : decide (b < d) = false := by simpa using h3
      have e := cmpP_gt (a := a) (b := b) (c := a) (d := d) (by omega) (by omega)
      rw [e]
      clear e h1
      go_enter Try.func78, Try.ntmps78
      go_wp2
      go_ret
      exact ⟨rfl, ab2 _ _⟩
  · have e1 : (a == c) = false := by simpa using h2
    have f1 : decide (a < c) = false := by simpa using h1
    have e := cmpP_gt (a := a) (b := b) (c := c) (d := d) (by omega) (by omega)
    rw [e]
    clear e
    go_enter Try.func78, Try.ntmps78
    go_wp2
    go_ret
    exact ⟨rfl, ab2 _ _⟩
/-- comparison of numbers -/
def cmpN (P Q : Nat) : Int := if P < Q then -1 else if P = Q then 0 else 1
theorem cmpP_N (P Q : Nat) : cmpP ((P / 18446744073709551616 : Nat) : Int) ((P % 18446744073709551616 : Nat) : Int) ((Q / 18446744073709551616 : Nat) : Int) ((Q % 18446744073709551616 : Nat) : Int) = cmpN P Q := by
  unfold cmpN
  by_cases h1 : P < Q
  · rw [if_pos h1]; exact cmpP_lt (by omega)
  · by_cases h2 : P = Q
    · subst h2; rw [if_neg h1, if_pos rfl]; exact cmpP_eq _ _
    · rw [if_neg h1, if_neg h2]; exact cmpP_gt (by omega) (by omega)
theorem compare_any (P Q : Nat) (w : World) :
    Calls Try.prog 78 #[pairV P, pairV Q] w fun e w' => e = .returned (.int .i64 (cmpN P Q)) ∧ Below w.heap.size w w' := by
  have h := compare_raw ((P / 18446744073709551616 : Nat) : Int) ((P % 18446744073709551616 : Nat) : Int) ((Q / 18446744073709551616 : Nat) : Int) ((Q % 18446744073709551616 : Nat) : Int) w (by omega) (by omega) (by omega) (by omega)
  rw [cmpP_N] at h
  exact h
end Go.Proofs.Ytkjjoclbjkpdaaa
namespace Go.Proofs.Ytkjjoclbjkpdaaa
set_option linter.unusedVariables false
/-- the root, bit by bit -/
def rtGo : Nat → Nat → Nat → Nat
  | 0, P, r => r
  | k + 1, P, r => if (r + 2 ^ k) * (r + 2 ^ k) ≤ P then rtGo k P (r + 2 ^ k) else rtGo k P r
def rtN (P : Nat) : Nat := rtGo 64 P 0
theorem sq_mono {a b : Nat} (h : a ≤ b) : a * a ≤ b * b := Nat.mul_le_mul h h
theorem rtGo_spec (k P r : Nat) (h1 : r * r ≤ P) (h2 : P < (r + 2 ^ k) * (r + 2 ^ k)) : rtGo k P r * rtGo k P r ≤ P ∧ P < (rtGo k P r + 1) * (rtGo k P r + 1) := by
  induction k generalizing r with
  | zero => exact ⟨h1, h2⟩
  | succ k ih =>
    unfold rtGo
    split
    · rename_i h
      refine ih _ h ?_
      have : r + 2 ^ (k + 1) = r + 2 ^ k + 2 ^ k := by rw [Nat.pow_succ]; omega
      rw [← this]; exact h2
    · rename_i h
      exact ih _ h1 (by omega)
theorem rtN_spec (P : Nat) (h : P < 340282366920938463463374607431768211456) : rtN P * rtN P ≤ P ∧ P < (rtN P + 1) * (rtN P + 1) := by
  refine rtGo_spec 64 P 0 (Nat.zero_le _) ?_
  have e : (0 + 2 ^ 64) * (0 + 2 ^ 64) = 340282366920938463463374607431768211456 := by decide
  rw [e]; exact h
theorem rtN_lt (P : Nat) (h : P < 340282366920938463463374607431768211456) : rtN P < 18446744073709551616 := by
  refine Nat.lt_of_not_le fun hc => ?_
  have h1 := sq_mono hc
  have h2 := (rtN_spec P h).1
  have e : 18446744073709551616 * 18446744073709551616 = 340282366920938463463374607431768211456 := by decide
  rw [e] at h1
  exact absurd (Nat.lt_of_le_of_lt (Nat.le_trans h1 h2) h) (Nat.lt_irrefl _)
/-- the state of the loop: the bits from k on are decided -/
structure RI (P k r : Nat) : Prop where
  k1 : k ≤ 64
  m : r % 2 ^ k = 0
  lt : r < 18446744073709551616
  eq : rtGo k P r = rtN P
theorem RI.start (P : Nat) : RI P 64 0 := ⟨Nat.le_refl _, Nat.zero_mod _, by decide, rfl⟩
theorem RI.fits {P k r : Nat} (h : RI P (k + 1) r) : r + 2 ^ k < 18446744073709551616 ∧ (r + 2 ^ k) % 2 ^ k = 0 ∧ r % 2 ^ k = 0 ∧ 2 ^ k < 18446744073709551616 := by
  have hp : 0 < 2 ^ k := Nat.pow_pos (by decide)
  have hm := h.m
  have hl := h.lt
  have hk := h.k1
  obtain ⟨c, hc⟩ := Nat.dvd_of_mod_eq_zero hm
  have e64 : 2 ^ (k + 1) * 2 ^ (63 - k) = 18446744073709551616 := by
    rw [← Nat.pow_add]
    have : k + 1 + (63 - k) = 64 := by omega
    rw [this]
  have hq : 0 < 2 ^ (63 - k) := Nat.pow_pos (by decide)
  have hc2 : c < 2 ^ (63 - k) := by
    rw [hc, ← e64] at hl
    exact Nat.lt_of_mul_lt_mul_left hl
  have h1 : r + 2 ^ (k + 1) ≤ 18446744073709551616 := by
    rw [hc, ← e64]
    have := Nat.mul_le_mul_left (2 ^ (k + 1)) (show c + 1 ≤ 2 ^ (63 - k) from hc2)
    rw [Nat.mul_add, Nat.mul_one] at this
    exact this
  have h2 : 2 ^ (k + 1) = 2 ^ k * 2 := Nat.pow_succ 2 k
  have h3 : r % 2 ^ k = 0 := by
    rw [hc, h2, Nat.mul_assoc, Nat.mul_mod_right]
  refine ⟨by omega, ?_, h3, by omega⟩
  rw [Nat.add_mod, h3, Nat.mod_self, Nat.zero_add, Nat.zero_mod]
theorem RI.yes {P k r : Nat} (h : RI P (k + 1) r) (hc : (r + 2 ^ k) * (r + 2 ^ k) ≤ P) : RI P k (r + 2 ^ k) := by
  have f := h.fits
  have e := h.eq
  have hk := h.k1
  unfold rtGo at e
  rw [if_pos hc] at e
  exact ⟨by omega, f.2.1, f.1, e⟩
theorem RI.no {P k r : Nat} (h : RI P (k + 1) r) (hc : ¬ (r + 2 ^ k) * (r + 2 ^ k) ≤ P) : RI P k r := by
  have f := h.fits
  have e := h.eq
  have hk := h.k1
  unfold rtGo at e
  rw [if_neg hc] at e
  exact ⟨by omega, f.2.2.1, h.lt, e⟩
/-- the bit in hand -/
def bitK (k : Nat) : Nat := 2 ^ k / 2
theorem bitK_succ (k : Nat) : bitK (k + 1) = 2 ^ k := by unfold bitK; rw [Nat.pow_succ, Nat.mul_div_cancel _ (by decide)]
theorem bitK_half (k : Nat) : bitK (k + 1) / 2 = bitK k := by rw [bitK_succ]; rfl
theorem bitK_zero : bitK 0 = 0 := rfl
theorem bitK_64 : bitK 64 = 9223372036854775808 := by decide
end Go.Proofs.Ytkjjoclbjkpdaaa
namespace Go.Proofs.Ytkjjoclbjkpdaaa
open Go.RowKit
set_option linter.unusedVariables false
theorem or_bit {r b k : Nat} (hr : r < 18446744073709551616) (hb : b < 18446744073709551616) (hm : r % 2 ^ k = 0) (hl : b < 2 ^ k) : bits .or .u64 (r : Int) (b : Int) = ((r + b : Nat) : Int) := by
  rw [bits_or_u64_nat r b hr hb]
  obtain ⟨c, rfl⟩ := Nat.dvd_of_mod_eq_zero hm
  rw [Nat.mul_comm, ← Nat.shiftLeft_eq, ← Nat.shiftLeft_add_eq_or_of_lt hl]
theorem drewB {B : Nat} {w : World} : Below B w w.drew := (Below.refl B w).drew
set_option maxHeartbeats 1000000 in
theorem floorRoot_raw (P : Nat) (hP : P < 340282366920938463463374607431768211456) (w : World) :
    Calls Try.prog 68 #[.agg #[.int .u64 ((P / 18446744073709551616 : Nat) : Int), .int .u64 ((P % 18446744073709551616 : Nat) : Int)]] w fun e w' => e = .returned (.int .u64 (rtN P : Int)) ∧ Below w.heap.size w w' := by
  have HP := Lib.hid hP
  clear hP
  obtain ⟨hi, hhi⟩ : ∃ hi, P / 18446744073709551616 = hi := ⟨_, rfl⟩
  obtain ⟨lo, hlo⟩ : ∃ lo, P % 18446744073709551616 = lo := ⟨_, rfl⟩
  rw [hhi, hlo]
  have HV : Hid (pairV P = .agg #[.int .u64 hi, .int .u64 lo]) := by show pairV P = _; unfold pairV; rw [hhi, hlo]
  clear hhi hlo
  go_enter Try.func68, Try.ntmps68
  go_wp2_with fail
  go_loopw [3, 4, 5] (fun a b c wr => ∃ r k : Nat, a = .int .u64 r ∧ b = .int .u64 (bitK k) ∧ RI P k r ∧ Below (w.heap.size + 1) (w.alloc (.cells #[.int .u64 hi, .int .u64 lo] 84)) wr) (fun _ b _ _ => (intOf b).toNat)
  case atStart => exact ⟨0, 64, rfl, by rw [bitK_64]; rfl, RI.start P, Below.refl _ _⟩
  case round =>
    obtain ⟨r, k, rfl, rfl, hr, hb⟩ := hrel
    have HR := Lib.hid hr
    clear hr
    cases k with
    | zero =>
      rw [bitK_zero]
      go_wp2_with fail
      go_ret
      exact ⟨congrArg Ending.returned (congrArg (Value.int IntKind.u64) (by have := HR.out.eq; rw [← this]; rfl)), ((Below.refl _ _).alloc (Nat.le_refl _) _).trans (hb.mono (by omega))⟩
    | succ k =>
      have HH := Lib.hid (bitK_half k)
      have hfit := HR.out.fits
      have hc0 : wr.cell? ⟨w.heap.size, 0, none⟩ = some (.int .u64 hi) := by
        rw [hb.cell (p := ⟨w.heap.size, 0, none⟩) (by show w.heap.size < _; omega)]
        have h := (MapKept.heap_alloc w (.cells #[.int .u64 hi, .int .u64 lo] 84)).1
        simp only [World.cell?, h]; rfl
      have hc1 : wr.cell? ⟨w.heap.size, 1, none⟩ = some (.int .u64 lo) := by
        rw [hb.cell (p := ⟨w.heap.size, 1, none⟩) (by show w.heap.size < _; omega)]
        have h := (MapKept.heap_alloc w (.cells #[.int .u64 hi, .int .u64 lo] 84)).1
        simp only [World.cell?, h]; rfl
      obtain ⟨b, hbk⟩ : ∃ b, bitK (k + 1) = b := ⟨_, rfl⟩
      have HB : Hid (b = 2 ^ k) := by show b = _; rw [← hbk, bitK_succ]
      rw [hbk] at HH ⊢
      clear hbk
      have HO : Hid (bits .or .u64 (r : Int) (b : Int) = ((r + b : Nat) : Int)) := or_bit (k := k + 1) HR.out.lt (by have := HB.out; omega) HR.out.m (by have := HB.out; rw [Nat.pow_succ]; omega)
      have hb0 : (0 : Int) < b := by have := HB.out; have : 0 < 2 ^ k := Nat.pow_pos (by decide); omega
      have HN : Hid (r + b < 18446744073709551616) := by have := HB.out; show r + b < _; omega
      clear hfit
      go_upto_region 6 with fail
      rw [HO.out]
      clear HO
      obtain ⟨n, hn⟩ : ∃ n, r + b = n := ⟨_, rfl⟩
      rw [hn] at HN ⊢
      have HE := Lib.hid hn
      clear hn
      have HC := fun (Q : Nat) (w : World) => Lib.hid (compare_any Q P w)
      rw [HV.out] at HC
      have hlt : w.heap.size < wr.heap.size := by have := hb.size; simp at this; omega
      have HBW := Lib.hid hb
      clear hb
      go_cut [18] (fun s wx => s = .bool (decide (cmpN (n * n) P ≤ 0)) ∧ Below (w.heap.size + 1) wr wx)
      case first =>
        go_region_with (first
          | (go_at_call 67; refine (product_any n n HN.out HN.out _).mono ?_; rintro e w2 ⟨rfl, hb2⟩; have hd0 := (hb2.cell (p := ⟨w.heap.size, 0, none⟩) (by first | exact hlt | (simp; exact hlt))).trans hc0; have hd1 := (hb2.cell (p := ⟨w.heap.size, 1, none⟩) (by first | exact hlt | (simp; exact hlt))).trans hc1)
          | (go_at_call 78; refine (HC _ _).out.mono ?_; rintro e w3 ⟨rfl, hb3⟩))
        all_goals
          have hs2 := hb2.size
          go_wp2_with fail
          go_meet
          exact ⟨rfl, (drewB.trans (hb2.mono (by simp; omega))).trans (hb3.mono (by simp at hs2; omega))⟩
      case rest =>
        obtain ⟨rfl, hb2⟩ := hcut
        by_cases hc : n * n ≤ P
        · have e1 : decide (cmpN (n * n) P ≤ 0) = true := decide_eq_true (by unfold cmpN; split; decide; split; decide; omega)
          rw [e1]
          have HY : Hid (RI P k n) := by have h := HR.out.yes; rw [← HB.out, HE.out] at h; exact h hc
          clear e1 hc HC
          go_wp2_with fail
          go_roundw
          case rel => exact ⟨n, k, rfl, congrArg _ (by have := HH.out; omega), HY.out, HBW.out.trans hb2⟩
          case measure => simp [intOf]; omega
        · have e1 : decide (cmpN (n * n) P ≤ 0) = false := decide_eq_false (by unfold cmpN; rw [if_neg (by omega), if_neg (by omega)]; decide)
          rw [e1]
          have HY : Hid (RI P k r) := by have h := HR.out.no; rw [← HB.out, HE.out] at h; exact h hc
          clear e1 hc HC
          go_wp2_with fail
          go_roundw
          case rel => exact ⟨r, k, rfl, congrArg _ (by have := HH.out; omega), HY.out, HBW.out.trans hb2⟩
          case measure => simp [intOf]; omega
theorem floorRoot_any (P : Nat) (hP : P < 340282366920938463463374607431768211456) (w : World) :
    Calls Try.prog 68 #[pairV P] w fun e w' => e = .returned (.int .u64 (rtN P : Int)) ∧ Below w.heap.size w w' := floorRoot_raw P hP w
end Go.Proofs.Ytkjjoclbjkpdaaa
namespace Go.Proofs.Ytkjjoclbjkpdaaa
open Go.RowKit
set_option linter.unusedVariables false
def sgI (a b : Int) : Int := if a = 0 ∨ b = 0 then 0 else if (a < 0 ∧ b < 0) ∨ (0 < a ∧ 0 < b) then 1 else -1
theorem sgI_zero {a b : Int} (h : a = 0 ∨ b = 0) : sgI a b = 0 := if_pos h
theorem sgI_pos {a b : Int} (h : (a < 0 ∧ b < 0) ∨ (0 < a ∧ 0 < b)) : sgI a b = 1 := by unfold sgI; rw [if_neg (by omega), if_pos h]
theorem sgI_neg {a b : Int} (h : (a < 0 ∧ 0 < b) ∨ (0 < a ∧ b < 0)) : sgI a b = -1 := by unfold sgI; rw [if_neg (by omega), if_neg (by omega)]
set_option maxHeartbeats 400000 in
theorem sign_any (a b : Int) (w : World) :
    Calls Try.prog 69 #[.int .i64 a, .int .i64 b] w fun e w' => e = .returned (.int .i64 (sgI a b)) ∧ w = w' := by
  by_cases ha : a = 0
  · rw [sgI_zero (Or.inl ha)]
    subst ha
    go_enter Try.func69, Try.ntmps69
    go_wp2
    go_ret
    exact ⟨rfl, rfl⟩
  have ea : (a == 0) = false := by simpa using ha
  by_cases hb : b = 0
  · rw [sgI_zero (Or.inr hb)]
    subst hb
    clear ha
    go_enter Try.func69, Try.ntmps69
    go_wp2
    go_ret
    exact ⟨rfl, rfl⟩
  have eb : (b == 0) = false := by simpa using hb
  by_cases la : a < 0 <;> by_cases lb : b < 0
  · rw [sgI_pos (by omega)]
    clear ha hb
    go_enter Try.func69, Try.ntmps69
    go_wp2
    go_ret
    exact ⟨rfl, rfl⟩
  · rw [sgI_neg (by omega)]
    have d : decide (b < 0) = false := by simpa using lb
    clear ha hb
    go_enter Try.func69, Try.ntmps69
    go_wp2
    go_ret
    exact ⟨rfl, rfl⟩
  · rw [sgI_neg (by omega)]
    have d : decide (a < 0) = false := by simpa using la
    clear ha hb
    go_enter Try.func69, Try.ntmps69
    go_wp2
    go_ret
    exact ⟨rfl, rfl⟩
  · rw [sgI_pos (by omega)]
    have d : decide (a < 0) = false := by simpa using la
    have d2 : decide (b < 0) = false := by simpa using lb
    clear ha hb
    go_enter Try.func69, Try.ntmps69
    go_wp2
    go_ret
    exact ⟨rfl, rfl⟩
/-- a number with a sign, if it is an int -/
def sgV (n : Nat) (neg : Bool) : Int := if neg then (if n ≤ 9223372036854775808 then -(n : Int) else 0) else (if n < 9223372036854775808 then (n : Int) else 0)
def sgO (n : Nat) (neg : Bool) : Bool := if neg then decide (n ≤ 9223372036854775808) else decide (n < 9223372036854775808)
theorem ret_ibw {a b : Int} {c d : Bool} (h : a = b) (g : c = d) : Ending.returned (.tuple #[.int .i64 a, .bool c]) = .returned (.tuple #[.int .i64 b, .bool d]) := by rw [h, g]
set_option maxHeartbeats 400000 in
theorem signed_any (n : Nat) (neg : Bool) (hn : n < 18446744073709551616) (w : World) :
    Calls Try.prog 71 #[.int .u64 n, .bool neg] w fun e w' => e = .returned (.tuple #[.int .i64 (sgV n neg), .bool (sgO n neg)]) ∧ w = w' := by
  have hn2 : (n : Int) ≤ 18446744073709551615 := by omega
  cases neg
  · by_cases h : (n : Int) < 9223372036854775808
    · have e1 : sgV n false = n := by unfold sgV; rw [if_neg (by decide), if_pos (by omega)]
      have e2 : sgO n false = true := by unfold sgO; rw [if_neg (by decide)]; exact decide_eq_true (by omega)
      rw [e1, e2]
      clear e1 e2 hn
      go_enter Try.func71, Try.ntmps71
      go_wp2
      go_ret2
      exact ⟨ret_ibw (by omega) rfl, rfl⟩
    · have e1 : sgV n false = 0 := by unfold sgV; rw [if_neg (by decide), if_neg (by omega)]
      have e2 : sgO n false = false := by unfold sgO; rw [if_neg (by decide)]; exact decide_eq_false (by omega)
      rw [e1, e2]
      clear e1 e2 hn
      go_enter Try.func71, Try.ntmps71
      go_wp2
      go_ret2
      exact ⟨rfl, rfl⟩
  · by_cases h : (n : Int) ≤ 9223372036854775808
    · have e1 : sgV n true = -(n : Int) := by unfold sgV; rw [if_pos rfl, if_pos (by omega)]
      have e2 : sgO n true = true := by unfold sgO; rw [if_pos rfl]; exact decide_eq_true (by omega)
      rw [e1, e2]
      clear e1 e2 hn
      go_enter Try.func71, Try.ntmps71
      go_wp2
      go_ret2
      refine ⟨ret_ibw ?_ rfl, rfl⟩
      unfold wrap64; rw [IntKind.wrap_u64]; omega
    · have e1 : sgV n true = 0 := by unfold sgV; rw [if_pos rfl, if_neg (by omega)]
      have e2 : sgO n true = false := by unfold sgO; rw [if_pos rfl]; exact decide_eq_false (by omega)
      rw [e1, e2]
      clear e1 e2 hn
      go_enter Try.func71, Try.ntmps71
      go_wp2
      go_ret2
      exact ⟨rfl, rfl⟩
/-- whether the truncated absolute value grows by 1 -/
def grI (m more : Int) (some neg : Bool) : Bool := if m = 0 then some && neg else if m = 1 then some && !neg else decide (0 < more) || (decide (more = 0) && !neg)
end Go.Proofs.Ytkjjoclbjkpdaaa
namespace Go.Proofs.Ytkjjoclbjkpdaaa
open Go.RowKit
set_option linter.unusedVariables false
theorem sub64_0 (x y : Nat) (w : World) : (callFunc 73 #[.int .u64 (x : Int), .int .u64 (y : Int), .int .u64 0]).run Try.prog w =
    .ok (.value (.tuple #[.int .u64 (((x + 18446744073709551616 - y - 0) % 18446744073709551616 : Nat) : Int), .int .u64 ((if x < y + 0 then 1 else 0 : Nat) : Int)])) w := by
  kernel_rfl
theorem sub64_1 (x y : Nat) (w : World) : (callFunc 73 #[.int .u64 (x : Int), .int .u64 (y : Int), .int .u64 1]).run Try.prog w =
    .ok (.value (.tuple #[.int .u64 (((x + 18446744073709551616 - y - 1) % 18446744073709551616 : Nat) : Int), .int .u64 ((if x < y + 1 then 1 else 0 : Nat) : Int)])) w := by
  kernel_rfl
theorem sub_b {hi lo h2 l2 D R H K : Nat} (hR : lo + K = l2 + R) (hH : hi = h2 + 1 + H) (h : hi * K + lo = h2 * K + l2 + D) : H * K + R = D := by
  subst hH
  rw [Nat.add_mul, Nat.add_mul, Nat.one_mul] at h
  omega
theorem sub_c {hi lo h2 l2 D R H K : Nat} (hR : lo = l2 + R) (hH : hi = h2 + H) (h : hi * K + lo = h2 * K + l2 + D) : H * K + R = D := by
  subst hH
  rw [Nat.add_mul] at h
  omega
set_option maxRecDepth 20000 in
/-- a difference of 128 bits -/
theorem sub_two {hi lo h2 l2 D : Nat} (h : hi * 18446744073709551616 + lo = h2 * 18446744073709551616 + l2 + D) (hlo : lo < 18446744073709551616) (hl2 : l2 < 18446744073709551616) (hhi : hi < 18446744073709551616) :
    ∃ b R H : Nat, Hid (H * 18446744073709551616 + R = D ∧ R < 18446744073709551616) ∧ (∀ w, (callFunc 73 #[.int .u64 (lo : Int), .int .u64 (l2 : Int), .int .u64 0]).run Try.prog w = .ok (.value (.tuple #[.int .u64 (R : Int), .int .u64 (b : Int)])) w)
      ∧ (∀ w, (callFunc 73 #[.int .u64 (hi : Int), .int .u64 (h2 : Int), .int .u64 (b : Int)]).run Try.prog w = .ok (.value (.tuple #[.int .u64 (H : Int), .int .u64 0])) w) := by
  by_cases hb : lo < l2
  · obtain ⟨R, hR⟩ : ∃ R, lo + 18446744073709551616 = l2 + R := ⟨lo + 18446744073709551616 - l2, by omega⟩
    obtain ⟨H, hH⟩ : ∃ H, hi = h2 + 1 + H := ⟨hi - (h2 + 1), by omega⟩
    refine ⟨1, R, H, ⟨sub_b hR hH h, by omega⟩, fun w => ?_, fun w => ?_⟩
    · rw [sub64_0, if_pos (by omega)]
      have e : (lo + 18446744073709551616 - l2 - 0) % 18446744073709551616 = R := by omega
      rw [e]
    · have h1 := sub64_1 hi h2 w
      rw [if_neg (by omega)] at h1
      have e : (hi + 18446744073709551616 - h2 - 1) % 18446744073709551616 = H := by omega
      rw [e] at h1
      exact h1
  · obtain ⟨R, hR⟩ : ∃ R, lo = l2 + R := ⟨lo - l2, by omega⟩
    obtain ⟨H, hH⟩ : ∃ H, hi = h2 + H := ⟨hi - h2, by omega⟩
    refine ⟨0, R, H, ⟨sub_c hR hH h, by omega⟩, fun w => ?_, fun w => ?_⟩
    · rw [sub64_0, if_neg (by omega)]
      have e : (lo + 18446744073709551616 - l2 - 0) % 18446744073709551616 = R := by omega
      rw [e]
    · have h1 := sub64_0 hi h2 w
      rw [if_neg (by omega)] at h1
      have e : (hi + 18446744073709551616 - h2 - 0) % 18446744073709551616 = H := by omega
      rw [e] at h1
      exact h1
theorem sub_arg {P r hi lo h2 l2 : Nat} (h1 : hi = P / 18446744073709551616) (h3 : lo = P % 18446744073709551616) (h4 : r * r = h2 * 18446744073709551616 + l2) (h5 : r * r ≤ P) :
    hi * 18446744073709551616 + lo = h2 * 18446744073709551616 + l2 + (P - r * r) := by
  rw [← h4, h1, h3, Nat.div_add_mod', Nat.add_sub_cancel' h5]
def upI (m : Int) (D r : Nat) : Bool := (decide (m = 1) && decide (0 < D)) || (decide (m = 2) && decide (r < D))
def rootN (P : Nat) (m : Int) : Nat := rtN P + (if upI m (P - rtN P * rtN P) (rtN P) then 1 else 0)
theorem up_true {m : Int} {D r : Nat} (h : (m = 1 ∧ 0 < D) ∨ (m = 2 ∧ r < D)) : upI m D r = true := by
  unfold upI
  rcases h with ⟨h1, h2⟩ | ⟨h1, h2⟩
  · rw [decide_eq_true h1, decide_eq_true h2]; rfl
  · rw [decide_eq_true h1, decide_eq_true h2, Bool.or_comm]; rfl
theorem up_false {m : Int} {D r : Nat} (h : ¬ ((m = 1 ∧ 0 < D) ∨ (m = 2 ∧ r < D))) : upI m D r = false := by
  cases e : upI m D r
  · rfl
  · exfalso; apply h
    unfold upI at e
    simpa using e
set_option maxHeartbeats 1000000 in
set_option maxRecDepth 20000 in
theorem root_raw (P : Nat) (m : Int) (hP : P < 85070591730234615865843651857942052864) (w : World) :
    Calls Try.prog 55 #[.agg #[.int .u64 ((P / 18446744073709551616 : Nat) : Int), .int .u64 ((P % 18446744073709551616 : Nat) : Int)], .int .i64 m] w fun e w' => e = .returned (.tuple #[.int .i64 (sgV (rootN P m) false), .bool (sgO (rootN P m) false)]) ∧ Below w.heap.size w w' := by
  have HF := fun w => Lib.hid (floorRoot_raw P (by omega) w)
  have HR := Lib.hid (rtN_spec P (by omega))
  have HL := Lib.hid (rtN_lt P (by omega))
  have HN : Hid (rootN P m = rtN P + (if upI m (P - rtN P * rtN P) (rtN P) then 1 else 0)) := rfl
  obtain ⟨r, hr⟩ : ∃ r, rtN P = r := ⟨_, rfl⟩
  rw [hr] at HF HR HL HN
  clear hr
  have HP := Lib.hid hP
  clear hP
  obtain ⟨hi, hhi⟩ : ∃ hi, P / 18446744073709551616 = hi := ⟨_, rfl⟩
  obtain ⟨lo, hlo⟩ : ∃ lo, P % 18446744073709551616 = lo := ⟨_, rfl⟩
  rw [hhi, hlo] at HF ⊢
  have HV : Hid (hi = P / 18446744073709551616 ∧ lo = P % 18446744073709551616) := ⟨hhi.symm, hlo.symm⟩
  clear hhi hlo
  go_enter Try.func55, Try.ntmps55
  go_wp2_with fail
  refine (HF _).out.mono ?_
  rintro e w1 ⟨rfl, hb1⟩
  have hc0 : w1.cell? ⟨w.heap.size, 0, none⟩ = some (.int .u64 hi) := by
    rw [hb1.cell (p := ⟨w.heap.size, 0, none⟩) (by show w.heap.size < _; simp)]
    have h := (MapKept.heap_alloc w (.cells #[.int .u64 hi, .int .u64 lo] 84)).1
    simp only [World.cell?, h]; rfl
  have hc1 : w1.cell? ⟨w.heap.size, 1, none⟩ = some (.int .u64 lo) := by
    rw [hb1.cell (p := ⟨w.heap.size, 1, none⟩) (by show w.heap.size < _; simp)]
    have h := (MapKept.heap_alloc w (.cells #[.int .u64 hi, .int .u64 lo] 84)).1
    simp only [World.cell?, h]; rfl
  go_wp2_with fail
  refine (mul64_any r r HL.out HL.out _).mono ?_
  rintro e w' ⟨rfl, rfl⟩
  obtain ⟨h2, hh2⟩ : ∃ h2, r * r / 18446744073709551616 = h2 := ⟨_, rfl⟩
  obtain ⟨l2, hl2⟩ : ∃ l2, r * r % 18446744073709551616 = l2 := ⟨_, rfl⟩
  rw [hh2, hl2]
  have HM : Hid (r * r = h2 * 18446744073709551616 + l2 ∧ l2 < 18446744073709551616) := by
    show _ ∧ _
    rw [← hh2, ← hl2]; exact ⟨(Nat.div_add_mod' _ _).symm, Nat.mod_lt _ (by decide)⟩
  clear hh2 hl2
  have HHI : Hid (hi < 18446744073709551616) := by have h1 := HP.out; have h3 := HV.out.1; show hi < _; omega
  have HLO : Hid (lo < 18446744073709551616) := by have h3 := HV.out.2; show lo < _; omega
  have HSA := Lib.hid (sub_arg HV.out.1 HV.out.2 HM.out.1 HR.out.1)
  obtain ⟨D, hD⟩ : ∃ D, P - r * r = D := ⟨_, rfl⟩
  rw [hD] at HSA HN
  have HDE := Lib.hid hD
  clear hD
  obtain ⟨b, R, H, HD, s1, s2⟩ := sub_two HSA.out HLO.out HM.out.2 HHI.out
  go_upto_region 5 with fail
  have hR0 : (0 : Int) ≤ R := by omega
  have hH0 : (0 : Int) ≤ H := by omega
  have HW : Hid (Below w.heap.size w w1) := ((Below.refl _ _).alloc (Nat.le_refl _) _).trans (hb1.mono (by simp))
  clear hb1
  go_cut [13] (fun s wx => s = .bool (upI m D r) ∧ w1 = wx)
  case first =>
    cases e1 : (m == 1) <;> cases e2 : (m == 2)
    all_goals
      cases f1 : decide (0 < H) <;> cases f2 : decide (0 < R) <;> cases f3 : decide (r < R)
      all_goals
        have HX : Hid ((m = 1 ∧ 0 < D) ∨ (m = 2 ∧ r < D) ∨ ¬ ((m = 1 ∧ 0 < D) ∨ (m = 2 ∧ r < D))) := by show _ ∨ _; omega
        have HE1 := Lib.hid e1
        have HE2 := Lib.hid e2
        have HF1 := Lib.hid f1
        have HF3 := Lib.hid f2
        have HF4 := Lib.hid f3
        go_wp2_with fail
        go_meet
        refine ⟨congrArg Value.bool ?_, rfl⟩
        have h := HD.out
        have hl := HL.out
        have g1 := HE1.out
        have g2 := HE2.out
        have g3 := HF1.out
        have g4 := HF3.out
        have g5 := HF4.out
        simp only [decide_eq_true_eq, decide_eq_false_iff_not, beq_iff_eq, beq_eq_false_iff_ne, ne_eq] at g1 g2 g3 g4 g5
        first
          | exact (up_true (by omega)).symm
          | exact (up_false (by omega)).symm
          | (exfalso; omega)
  case rest =>
    obtain ⟨rfl, rfl⟩ := hcut
    cases hu : upI m D r
    · have HF2 : Hid (rootN P m = r) := by have h := HN.out; rw [hu] at h; exact h
      clear hu
      go_wp2_with fail
      refine (signed_any r false HL.out _).mono ?_
      rintro e w' ⟨rfl, rfl⟩
      go_wp2_with fail
      go_ret2
      exact ⟨ret_ibw (by rw [HF2.out]) (by rw [HF2.out]), HW.out⟩
    · have HF2 : Hid (rootN P m = r + 1) := by have h := HN.out; rw [hu] at h; exact h
      clear hu
      have HL2 : Hid (r + 1 < 18446744073709551616) := by
        refine Nat.lt_of_not_le fun hc => ?_
        have h1 := sq_mono (show 18446744073709551615 ≤ r by omega)
        have h2 := HR.out.1
        have h3 := HP.out
        exact absurd (Nat.lt_of_le_of_lt (Nat.le_trans h1 h2) h3) (by decide)
      have hr1 : (r : Int) ≤ 18446744073709551614 := by have := HL2.out; omega
      go_wp2_with fail
      refine (signed_any (r + 1) false HL2.out _).mono ?_
      rintro e w' ⟨rfl, rfl⟩
      go_wp2_with fail
      go_ret2
      exact ⟨ret_ibw (by rw [HF2.out]) (by rw [HF2.out]), HW.out⟩
theorem root_any (P : Nat) (m : Int) (hP : P < 85070591730234615865843651857942052864) (w : World) :
    Calls Try.prog 55 #[pairV P, .int .i64 m] w fun e w' => e = .returned (.tuple #[.int .i64 (sgV (rootN P m) false), .bool (sgO (rootN P m) false)]) ∧ Below w.heap.size w w' := root_raw P m hP w
end Go.Proofs.Ytkjjoclbjkpdaaa
namespace Go.Proofs.Ytkjjoclbjkpdaaa
open Go.RowKit
set_option linter.unusedVariables false
theorem grI_0 (more : Int) (so neg : Bool) : grI 0 more so neg = (so && neg) := if_pos rfl
theorem grI_1 (more : Int) (so neg : Bool) : grI 1 more so neg = (so && !neg) := by unfold grI; rw [if_neg (by decide), if_pos rfl]
theorem grI_2 {m more : Int} (so neg : Bool) (h0 : m ≠ 0) (h1 : m ≠ 1) : grI m more so neg = (decide (0 < more) || (decide (more = 0) && !neg)) := by unfold grI; rw [if_neg h0, if_neg h1]
set_option maxHeartbeats 1000000 in
theorem grows_any (m more : Int) (so neg : Bool) (w : World) :
    Calls Try.prog 70 #[.int .i64 m, .int .i64 more, .bool so, .bool neg] w fun e w' => e = .returned (.bool (grI m more so neg)) ∧ w = w' := by
  by_cases h0 : m = 0
  · subst h0
    rw [grI_0]
    cases so <;> cases neg <;>
    · go_enter Try.func70, Try.ntmps70
      go_wp2
      go_ret
      exact ⟨rfl, rfl⟩
  by_cases h1 : m = 1
  · subst h1
    rw [grI_1]
    cases so <;> cases neg <;>
    · go_enter Try.func70, Try.ntmps70
      go_wp2
      go_ret
      exact ⟨rfl, rfl⟩
  have e0 : (m == 0) = false := by simpa using h0
  have e1 : (m == 1) = false := by simpa using h1
  rw [grI_2 so neg h0 h1]
  clear h0 h1
  by_cases h2 : 0 < more
  · rw [decide_eq_true h2, Bool.true_or]
    go_enter Try.func70, Try.ntmps70
    go_wp2
    go_ret
    exact ⟨rfl, rfl⟩
  have e2 : decide (0 < more) = false := decide_eq_false h2
  by_cases h3 : more = 0
  · subst h3
    rw [e2]
    cases neg <;>
    · go_enter Try.func70, Try.ntmps70
      go_wp2
      go_ret
      exact ⟨rfl, rfl⟩
  have e3 : (more == 0) = false := by simpa using h3
  rw [e2, decide_eq_false h3, Bool.false_and, Bool.or_false]
  clear h3
  go_enter Try.func70, Try.ntmps70
  go_wp2
  go_ret
  exact ⟨rfl, rfl⟩
end Go.Proofs.Ytkjjoclbjkpdaaa
namespace Go.Proofs.Ytkjjoclbjkpdaaa
open Go.RowKit
set_option linter.unusedVariables false
def sqG (n m : Int) : Bool := decide (0 ≤ n ∧ 0 ≤ m ∧ m ≤ 2)
def sqV (n m : Int) : Int := if sqG n m then sgV (rootN n.toNat m) false else 0
def sqO (n m : Int) : Bool := if sqG n m then sgO (rootN n.toNat m) false else false
set_option maxHeartbeats 1000000 in
theorem sqrt_yes (n m : Int) (w : World) (h0 : 0 ≤ n) (h1 : n ≤ 9223372036854775807) (hm : 0 ≤ m) (hm2 : m ≤ 2) :
    Calls Try.prog 32 #[.int .i64 n, .int .i64 m] w fun e w' => e = .returned (.tuple #[.int .i64 (sgV (rootN n.toNat m) false), .bool (sgO (rootN n.toNat m) false)]) ∧ Below w.heap.size w w' := by
  obtain ⟨k, rfl⟩ := Int.eq_ofNat_of_zero_le h0
  have hk : k < 18446744073709551616 := by omega
  have HR := fun w => Lib.hid (root_any k m (Nat.lt_trans hk (by decide)) w)
  have e1 : k / 18446744073709551616 = 0 := Nat.div_eq_of_lt hk
  have e2 : k % 18446744073709551616 = k := Nat.mod_eq_of_lt hk
  unfold pairV at HR
  rw [e1, e2] at HR
  clear e1 e2 hk
  have HK := Lib.hid (known_yes m w hm hm2)
  have e0 : decide ((k : Int) < 0) = false := by simp
  go_enter Try.func32, Try.ntmps32
  go_wp2_with fail
  refine HK.out.mono ?_
  rintro e w' ⟨rfl, rfl⟩
  go_wp2_with fail
  refine (HR _).out.mono ?_
  rintro e w1 ⟨rfl, hb1⟩
  go_wp2_with fail
  go_ret2
  exact ⟨rfl, hb1⟩
set_option maxHeartbeats 1000000 in
theorem sqrt_neg (n m : Int) (w : World) (h0 : n < 0) :
    Calls Try.prog 32 #[.int .i64 n, .int .i64 m] w fun e w' => e = .returned (.tuple #[.int .i64 0, .bool false]) ∧ Below w.heap.size w w' := by
  go_enter Try.func32, Try.ntmps32
  go_wp2_with fail
  go_ret2
  exact ⟨rfl, Below.refl _ _⟩
set_option maxHeartbeats 1000000 in
theorem sqrt_mode (n m : Int) (w : World) (h0 : 0 ≤ n) (hm : m < 0 ∨ 2 < m) :
    Calls Try.prog 32 #[.int .i64 n, .int .i64 m] w fun e w' => e = .returned (.tuple #[.int .i64 0, .bool false]) ∧ Below w.heap.size w w' := by
  have HK := Lib.hid (known_no m w hm)
  have e0 : decide (n < 0) = false := by simp; omega
  clear hm
  go_enter Try.func32, Try.ntmps32
  go_wp2_with fail
  refine HK.out.mono ?_
  rintro e w' ⟨rfl, rfl⟩
  go_wp2_with fail
  go_ret2
  exact ⟨rfl, Below.refl _ _⟩
/-- WHAT Sqrt GIVES -/
theorem sqrt_any (n m : Int) (w : World) (h1 : n ≤ 9223372036854775807) :
    Calls Try.prog 32 #[.int .i64 n, .int .i64 m] w fun e w' => e = .returned (.tuple #[.int .i64 (sqV n m), .bool (sqO n m)]) ∧ Below w.heap.size w w' := by
  unfold sqV sqO
  by_cases h0 : 0 ≤ n
  · by_cases hm : 0 ≤ m ∧ m ≤ 2
    · have e : sqG n m = true := decide_eq_true (by omega)
      rw [e]; exact sqrt_yes n m w h0 h1 hm.1 hm.2
    · have e : sqG n m = false := decide_eq_false (by omega)
      rw [e]; exact sqrt_mode n m w h0 (by omega)
  · have e : sqG n m = false := decide_eq_false (by omega)
    rw [e]; exact sqrt_neg n m w (by omega)
end Go.Proofs.Ytkjjoclbjkpdaaa
namespace Go.Proofs.Ytkjjoclbjkpdaaa
open Go.RowKit
set_option linter.unusedVariables false
/-- r is the square root of P, rounded by the mode m -/
def SQ (m : Int) (P r : Nat) : Prop := (m = 0 → r * r ≤ P ∧ P < r * r + 2 * r + 1) ∧ (m = 1 → P ≤ r * r ∧ (r = 0 ∨ r * r < P + 2 * r - 1)) ∧ (m = 2 → P ≤ r * r + r ∧ (r = 0 ∨ r * r < P + r))
theorem SQ.le {m : Int} {P r : Nat} (hm : m = 0 ∨ m = 1 ∨ m = 2) (h : SQ m P r) : r = 0 ∨ r * r < P + 2 * r := by
  rcases hm with rfl | rfl | rfl
  · have := h.1 rfl; omega
  · have := h.2.1 rfl; omega
  · have := h.2.2 rfl; omega
/-- the root is an int where the number is small enough -/
theorem SQ.fits {m : Int} {P r : Nat} (hm : m = 0 ∨ m = 1 ∨ m = 2) (h : SQ m P r) (B : Nat) (hB : P ≤ B * B) : r ≤ B + 1 := by
  refine Nat.le_of_not_lt fun hc => ?_
  have h1 := h.le hm
  obtain ⟨k, rfl⟩ : ∃ k, r = B + 2 + k := ⟨r - (B + 2), by omega⟩
  have e : (B + 2 + k) * (B + 2 + k) = B * B + 2 * B + 2 * (B * k) + 2 * B + 4 + 4 * k + k * k := by grind
  rw [e] at h1
  have : 0 ≤ B * k := Nat.zero_le _
  have : 0 ≤ k * k := Nat.zero_le _
  omega
end Go.Proofs.Ytkjjoclbjkpdaaa
