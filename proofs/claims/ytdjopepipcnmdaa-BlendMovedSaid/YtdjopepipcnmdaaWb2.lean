/- Proved here: the bit length and the leading zeros of Go's math/bits, walked over their own text; every argument. -/
import Derived.Test.YtdjopepipcnmdaaWb1
import Derived.Lib.Strings
import Derived.Lib.Slices
import Derived.Lib.Small
import Derived.Lib.Walk
import Derived.Lib.BitFns
namespace Go.Proofs.Ytdjopepipcnmdaa
open Go.RowKit
set_option linter.unusedVariables false

theorem tab8_size : Lib.len8tab.size = 256 := by decide +kernel
theorem tab8_all : ∀ j : Fin 256, (Lib.len8tab[j.val]'(by rw [tab8_size]; exact j.isLt)).toNat = Lib.bitLen j.val := by decide +kernel
theorem tab8 (i : Nat) (h : i < Lib.len8tab.size) : (Lib.len8tab[i]'h).toNat = Lib.bitLen i := tab8_all ⟨i, by rw [tab8_size] at h; exact h⟩
theorem tab8_le (i : Nat) (h : i < 256) : Lib.bitLen i ≤ 8 := Lib.bitLen_le8 ⟨i, h⟩
theorem len_56 (x : Int) (h : 72057594037927936 ≤ x) (h1 : x ≤ 18446744073709551615) (hs : x / 4294967296 / 65536 / 256 ≤ 255) (hi : (x / 4294967296 / 65536 / 256).toNat < Lib.len8tab.size) : wrap64 (56 + wrap64 ((Lib.len8tab[(x / 4294967296 / 65536 / 256).toNat]'hi).toNat : Int)) = (Lib.bitLen x.toNat : Int) := by
  rw [tab8]
  clear hi
  have e : (x / 4294967296 / 65536 / 256).toNat = x.toNat / 72057594037927936 := by omega
  have l := tab8_le (x / 4294967296 / 65536 / 256).toNat (by omega)
  have s := Lib.bitLen_shift56 x.toNat (by omega) (by omega)
  rw [e] at l ⊢
  rw [s]; clear s e
  generalize Lib.bitLen _ = m at l ⊢
  unfold wrap64; omega
theorem len_48 (x : Int) (h : 281474976710656 ≤ x) (h1 : x ≤ 18446744073709551615) (hs : x / 4294967296 / 65536 ≤ 255) (hi : (x / 4294967296 / 65536).toNat < Lib.len8tab.size) : wrap64 (48 + wrap64 ((Lib.len8tab[(x / 4294967296 / 65536).toNat]'hi).toNat : Int)) = (Lib.bitLen x.toNat : Int) := by
  rw [tab8]
  clear hi
  have e : (x / 4294967296 / 65536).toNat = x.toNat / 281474976710656 := by omega
  have l := tab8_le (x / 4294967296 / 65536).toNat (by omega)
  have s := Lib.bitLen_shift48 x.toNat (by omega) (by omega)
  rw [e] at l ⊢
  rw [s]; clear s e
  generalize Lib.bitLen _ = m at l ⊢
  unfold wrap64; omega
theorem len_40 (x : Int) (h : 1099511627776 ≤ x) (h1 : x ≤ 18446744073709551615) (hs : x / 4294967296 / 256 ≤ 255) (hi : (x / 4294967296 / 256).toNat < Lib.len8tab.size) : wrap64 (40 + wrap64 ((Lib.len8tab[(x / 4294967296 / 256).toNat]'hi).toNat : Int)) = (Lib.bitLen x.toNat : Int) := by
  rw [tab8]
  clear hi
  have e : (x / 4294967296 / 256).toNat = x.toNat / 1099511627776 := by omega
  have l := tab8_le (x / 4294967296 / 256).toNat (by omega)
  have s := Lib.bitLen_shift40 x.toNat (by omega) (by omega)
  rw [e] at l ⊢
  rw [s]; clear s e
  generalize Lib.bitLen _ = m at l ⊢
  unfold wrap64; omega
theorem len_32 (x : Int) (h : 4294967296 ≤ x) (h1 : x ≤ 18446744073709551615) (hs : x / 4294967296 ≤ 255) (hi : (x / 4294967296).toNat < Lib.len8tab.size) : wrap64 (32 + wrap64 ((Lib.len8tab[(x / 4294967296).toNat]'hi).toNat : Int)) = (Lib.bitLen x.toNat : Int) := by
  rw [tab8]
  clear hi
  have e : (x / 4294967296).toNat = x.toNat / 4294967296 := by omega
  have l := tab8_le (x / 4294967296).toNat (by omega)
  have s := Lib.bitLen_shift32 x.toNat (by omega) (by omega)
  rw [e] at l ⊢
  rw [s]; clear s e
  generalize Lib.bitLen _ = m at l ⊢
  unfold wrap64; omega
theorem len_24 (x : Int) (h : 16777216 ≤ x) (h1 : x ≤ 18446744073709551615) (hs : x / 65536 / 256 ≤ 255) (hi : (x / 65536 / 256).toNat < Lib.len8tab.size) : wrap64 (24 + wrap64 ((Lib.len8tab[(x / 65536 / 256).toNat]'hi).toNat : Int)) = (Lib.bitLen x.toNat : Int) := by
  rw [tab8]
  clear hi
  have e : (x / 65536 / 256).toNat = x.toNat / 16777216 := by omega
  have l := tab8_le (x / 65536 / 256).toNat (by omega)
  have s := Lib.bitLen_shift24 x.toNat (by omega) (by omega)
  rw [e] at l ⊢
  rw [s]; clear s e
  generalize Lib.bitLen _ = m at l ⊢
  unfold wrap64; omega
theorem len_16 (x : Int) (h : 65536 ≤ x) (h1 : x ≤ 18446744073709551615) (hs : x / 65536 ≤ 255) (hi : (x / 65536).toNat < Lib.len8tab.size) : wrap64 (16 + wrap64 ((Lib.len8tab[(x / 65536).toNat]'hi).toNat : Int)) = (Lib.bitLen x.toNat : Int) := by
  rw [tab8]
  clear hi
  have e : (x / 65536).toNat = x.toNat / 65536 := by omega
  have l := tab8_le (x / 65536).toNat (by omega)
  have s := Lib.bitLen_shift16 x.toNat (by omega) (by omega)
  rw [e] at l ⊢
  rw [s]; clear s e
  generalize Lib.bitLen _ = m at l ⊢
  unfold wrap64; omega
theorem len_8 (x : Int) (h : 256 ≤ x) (h1 : x ≤ 18446744073709551615) (hs : x / 256 ≤ 255) (hi : (x / 256).toNat < Lib.len8tab.size) : wrap64 (8 + wrap64 ((Lib.len8tab[(x / 256).toNat]'hi).toNat : Int)) = (Lib.bitLen x.toNat : Int) := by
  rw [tab8]
  clear hi
  have e : (x / 256).toNat = x.toNat / 256 := by omega
  have l := tab8_le (x / 256).toNat (by omega)
  have s := Lib.bitLen_shift8 x.toNat (by omega) (by omega)
  rw [e] at l ⊢
  rw [s]; clear s e
  generalize Lib.bitLen _ = m at l ⊢
  unfold wrap64; omega
theorem len_0 (x : Int) (h : 0 ≤ x) (hs : x ≤ 255) (hi : x.toNat < Lib.len8tab.size) : wrap64 (wrap64 ((Lib.len8tab[x.toNat]'hi).toNat : Int)) = (Lib.bitLen x.toNat : Int) := by
  rw [tab8]
  clear hi
  have l := tab8_le x.toNat (by omega)
  generalize Lib.bitLen _ = m at l ⊢
  unfold wrap64; omega
set_option maxHeartbeats 4000000 in
set_option maxRecDepth 100000 in
theorem len64_any (x : Int) (w : World) (h0 : 0 ≤ x) (h1 : x ≤ 18446744073709551615) :
    Calls Try.prog 64 #[.int .u64 x] w fun e w' => e = .returned (.int .i64 (Lib.bitLen x.toNat)) ∧ w = w' := by
  go_enter Try.func64, Try.ntmps64
  go_wp2
  all_goals first
    | (rename_i hneg; exact absurd (by rw [tab8_size]; omega) hneg)
    | (go_ret; refine ⟨congrArg Ending.returned (congrArg (Value.int IntKind.i64) ?_), rfl⟩; first
      | exact len_56 x (by omega) h1 (by omega) _
      | exact len_48 x (by omega) h1 (by omega) _
      | exact len_40 x (by omega) h1 (by omega) _
      | exact len_32 x (by omega) h1 (by omega) _
      | exact len_24 x (by omega) h1 (by omega) _
      | exact len_16 x (by omega) h1 (by omega) _
      | exact len_8 x (by omega) h1 (by omega) _
      | exact len_0 x (by omega) (by omega) _)
theorem bitLen_zero : Lib.bitLen 0 = 0 := by decide +kernel
theorem bitLen_gen (n : Nat) : ∀ x, x < 2 ^ n → x ≠ 0 → n ≤ 64 → 1 ≤ Lib.bitLen x ∧ 2 ^ (Lib.bitLen x - 1) ≤ x ∧ x < 2 ^ Lib.bitLen x ∧ Lib.bitLen x ≤ n := by
  induction n with
  | zero => intro x hx h0; omega
  | succ n ih =>
    intro x hx hz hn
    have hx64 : x < 2 ^ 64 := Nat.lt_of_lt_of_le hx (Nat.pow_le_pow_right (by decide) hn)
    have e := Lib.bitLen_half x hz hx64
    by_cases h1 : x / 2 = 0
    · rw [h1, bitLen_zero] at e
      have : x = 1 := by omega
      subst this
      rw [e]; simp
    · obtain ⟨a, b, c, d⟩ := ih (x / 2) (by rw [Nat.pow_succ] at hx; omega) h1 (by omega)
      rw [e]
      generalize Lib.bitLen (x / 2) = m at *
      obtain ⟨m, rfl⟩ : ∃ k, m = k + 1 := ⟨m - 1, by omega⟩
      refine ⟨by omega, ?_, ?_, by omega⟩
      · have : 1 + (m + 1) - 1 = m + 1 := by omega
        rw [this, Nat.pow_succ]
        have : m + 1 - 1 = m := by omega
        rw [this] at b
        omega
      · have : 1 + (m + 1) = (m + 1) + 1 := by omega
        rw [this, Nat.pow_succ]
        omega
theorem bitLen_spec (x : Nat) (h : x < 18446744073709551616) (h0 : x ≠ 0) : 1 ≤ Lib.bitLen x ∧ 2 ^ (Lib.bitLen x - 1) ≤ x ∧ x < 2 ^ Lib.bitLen x ∧ Lib.bitLen x ≤ 64 := by
  have e : 18446744073709551616 = 2 ^ 64 := by decide
  rw [e] at h
  exact bitLen_gen 64 x h h0 (Nat.le_refl _)
/-- the leading zeros: the shift that normalizes a divisor -/
theorem lz64_any (y : Nat) (hy : y < 18446744073709551616) (h0 : y ≠ 0) (w : World) :
    Calls Try.prog 59 #[.int .u64 y] w fun e w' => ∃ s : Nat, s ≤ 63 ∧ 9223372036854775808 ≤ y * 2 ^ s ∧ y * 2 ^ s < 18446744073709551616 ∧ e = .returned (.int .i64 s) ∧ w = w' := by
  obtain ⟨a, b, c, d⟩ := bitLen_spec y hy h0
  have hl := len64_any y w (by omega) (by omega)
  rw [Int.toNat_natCast] at hl
  generalize Lib.bitLen y = m at *
  have HL := Lib.hid hl
  clear hl
  have q1 : 9223372036854775808 ≤ y * 2 ^ (64 - m) := by
    have := Nat.mul_le_mul_right (2 ^ (64 - m)) b
    rw [← Nat.pow_add] at this
    have e : m - 1 + (64 - m) = 63 := by omega
    rw [e] at this; exact this
  have q2 : y * 2 ^ (64 - m) < 18446744073709551616 := by
    have := Nat.mul_lt_mul_of_pos_right c (Nat.pow_pos (n := 64 - m) (show 0 < 2 by decide))
    rw [← Nat.pow_add] at this
    have e : m + (64 - m) = 64 := by omega
    rw [e] at this; exact this
  have HQ := Lib.hid (And.intro q1 q2)
  clear q1 q2 b c
  go_enter Try.func59, Try.ntmps59
  go_wp2_with fail
  refine HL.out.mono ?_
  rintro e w' ⟨rfl, rfl⟩
  go_wp2_with fail
  go_ret
  exact ⟨64 - m, by omega, HQ.out.1, HQ.out.2, congrArg Ending.returned (congrArg (Value.int IntKind.i64) (by omega)), rfl⟩
end Go.Proofs.Ytdjopepipcnmdaa
