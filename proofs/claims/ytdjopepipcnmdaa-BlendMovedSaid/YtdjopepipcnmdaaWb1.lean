/- Proved here: the 128 bit product and the bit length of Go's math/bits, walked over their own text; every argument. -/
import Derived.Test.YtdjopepipcnmdaaRows
import Derived.WalkKit
import Derived.WalkSpells
import Derived.WalkLawsBesides
import Derived.Lib.Hide
import Derived.Lib.Mul64
import Derived.Laws.Bits64b
namespace Go.Proofs.Ytdjopepipcnmdaa
open Go.RowKit
set_option linter.unusedVariables false

theorem mask32 (a : Nat) (ha : a < 18446744073709551616) : bits .and .u64 (a : Int) 4294967295 = ((a % 4294967296 : Nat) : Int) := by
  have h := bits_and_u64_nat a 4294967295 ha (by omega)
  rw [Nat.and_two_pow_sub_one_eq_mod a 32] at h
  exact h
theorem wrapU {a : Nat} (ha : a < 18446744073709551616) : IntKind.u64.wrap (a : Int) = (a : Int) := by rw [IntKind.wrap_u64]; omega
theorem wrapUm (a : Nat) : IntKind.u64.wrap (a : Int) = ((a % 18446744073709551616 : Nat) : Int) := by rw [IntKind.wrap_u64]; omega
theorem half32 (a : Nat) : (a : Int) / 4294967296 = ((a / 4294967296 : Nat) : Int) := by omega
theorem mulU (a b : Nat) : (a : Int) * (b : Int) = ((a * b : Nat) : Int) := (Int.natCast_mul a b).symm
theorem addU (a b : Nat) : (a : Int) + (b : Int) = ((a + b : Nat) : Int) := (Int.natCast_add a b).symm
theorem ret_uu {a b c d : Int} (h : a = b) (g : c = d) : Ending.returned (.tuple #[.int .u64 a, .int .u64 c]) = .returned (.tuple #[.int .u64 b, .int .u64 d]) := by rw [h, g]
/-- the school method with halves of 32 bits -/
theorem school (x y : Nat) (hx : x < 18446744073709551616) (hy : y < 18446744073709551616) :
    IntKind.u64.wrap (IntKind.u64.wrap (IntKind.u64.wrap ((x : Int) / 4294967296 * ((y : Int) / 4294967296)) + IntKind.u64.wrap (IntKind.u64.wrap ((x : Int) / 4294967296 * bits BinOp.and IntKind.u64 (y : Int) 4294967295) + IntKind.u64.wrap (bits BinOp.and IntKind.u64 (x : Int) 4294967295 * bits BinOp.and IntKind.u64 (y : Int) 4294967295) / 4294967296) / 4294967296)
      + IntKind.u64.wrap (bits BinOp.and IntKind.u64 (IntKind.u64.wrap (IntKind.u64.wrap ((x : Int) / 4294967296 * bits BinOp.and IntKind.u64 (y : Int) 4294967295) + IntKind.u64.wrap (bits BinOp.and IntKind.u64 (x : Int) 4294967295 * bits BinOp.and IntKind.u64 (y : Int) 4294967295) / 4294967296)) 4294967295 + IntKind.u64.wrap (bits BinOp.and IntKind.u64 (x : Int) 4294967295 * ((y : Int) / 4294967296))) / 4294967296)
    = ((x * y / 18446744073709551616 : Nat) : Int) := by
  obtain ⟨b1, b2, b3, hhi⟩ := Lib.mul64_hi x y hx hy
  have p11 := Lib.half_mul_le (a := x / 4294967296) (b := y / 4294967296) (by omega) (by omega)
  have p10 := Lib.half_mul_le (a := x / 4294967296) (b := y % 4294967296) (by omega) (by omega)
  have p01 := Lib.half_mul_le (a := x % 4294967296) (b := y / 4294967296) (by omega) (by omega)
  rw [mask32 x hx, mask32 y hy, half32 x, half32 y]
  simp only [mulU, wrapU b1, half32]
  rw [wrapU (a := x / 4294967296 * (y % 4294967296)) (by omega), wrapU (a := x / 4294967296 * (y / 4294967296)) (by omega), wrapU (a := x % 4294967296 * (y / 4294967296)) (by omega)]
  have h1 : IntKind.u64.wrap (((x / 4294967296 * (y % 4294967296) : Nat) : Int) + ((x % 4294967296 * (y % 4294967296) / 4294967296 : Nat) : Int)) = ((x / 4294967296 * (y % 4294967296) + x % 4294967296 * (y % 4294967296) / 4294967296 : Nat) : Int) := by rw [addU, wrapU b2]
  rw [h1, half32, mask32 _ b2]
  have h2 : IntKind.u64.wrap ((((x / 4294967296 * (y % 4294967296) + x % 4294967296 * (y % 4294967296) / 4294967296) % 4294967296 : Nat) : Int) + ((x % 4294967296 * (y / 4294967296) : Nat) : Int)) = (((x / 4294967296 * (y % 4294967296) + x % 4294967296 * (y % 4294967296) / 4294967296) % 4294967296 + x % 4294967296 * (y / 4294967296) : Nat) : Int) := by rw [addU, wrapU b3]
  rw [h2, half32]
  have h3 : IntKind.u64.wrap (((x / 4294967296 * (y / 4294967296) : Nat) : Int) + (((x / 4294967296 * (y % 4294967296) + x % 4294967296 * (y % 4294967296) / 4294967296) / 4294967296 : Nat) : Int)) = ((x / 4294967296 * (y / 4294967296) + (x / 4294967296 * (y % 4294967296) + x % 4294967296 * (y % 4294967296) / 4294967296) / 4294967296 : Nat) : Int) := by rw [addU, wrapU (by omega)]
  rw [h3, addU, wrapU (by omega), hhi]
set_option maxHeartbeats 1000000 in
theorem mul64_any (x y : Nat) (hx : x < 18446744073709551616) (hy : y < 18446744073709551616) (w : World) :
    Calls Try.prog 55 #[.int .u64 x, .int .u64 y] w fun e w' => e = .returned (.tuple #[.int .u64 ((x * y / 18446744073709551616 : Nat) : Int), .int .u64 ((x * y % 18446744073709551616 : Nat) : Int)]) ∧ w = w' := by
  go_enter Try.func55, Try.ntmps55
  go_wp2
  go_ret2
  exact ⟨ret_uu (school x y hx hy) (by rw [mulU, wrapUm]), rfl⟩
end Go.Proofs.Ytdjopepipcnmdaa
