/- Proved here: the reference's product of two words, and its comparison of two products; every argument. -/
import Derived.Test.YtdjopepipcnmdaaYo3
namespace Go.Proofs.Ytdjopepipcnmdaa
open Go.RowKit
set_option linter.unusedVariables false
theorem low_word (x y l m : Nat) (hx : x < 18446744073709551616) (hy : y < 18446744073709551616) (hl : l = x % 4294967296 * (y % 4294967296)) (hm : m % 4294967296 = ((x / 4294967296 * (y % 4294967296) + l / 4294967296) % 4294967296 + x % 4294967296 * (y / 4294967296)) % 4294967296) :
    m % 4294967296 * 4294967296 + l % 4294967296 = x * y % 18446744073709551616 := by
  have ex := Nat.div_add_mod x 4294967296
  have ey := Nat.div_add_mod y 4294967296
  generalize x / 4294967296 = x1 at *
  generalize x % 4294967296 = x0 at *
  generalize y / 4294967296 = y1 at *
  generalize y % 4294967296 = y0 at *
  have e : x * y = 18446744073709551616 * (x1 * y1) + 4294967296 * (x1 * y0 + x0 * y1) + x0 * y0 := by rw [← ex, ← ey]; grind
  rw [e, hm, hl]
  generalize x1 * y1 = A
  generalize x1 * y0 = B
  generalize x0 * y1 = C
  generalize x0 * y0 = D
  omega
set_option maxHeartbeats 1000000 in
theorem productK_any (x y : Nat) (w : World) (hx : x < 18446744073709551616) (hy : y < 18446744073709551616) :
    Calls Try.prog 57 #[.int .u64 x, .int .u64 y] w fun e w' => e = .returned (.tuple #[.int .u64 ((x * y / 18446744073709551616 : Nat) : Int), .int .u64 ((x * y % 18446744073709551616 : Nat) : Int)]) ∧ w = w' := by
  go_enter Try.func57, Try.ntmps57
  go_wp2
  go_ret2
  refine ⟨ret_uu ?_ ?_, rfl⟩
  · have s := school x y hx hy
    rw [← s, Int.add_comm (IntKind.u64.wrap (bits BinOp.and IntKind.u64 (x : Int) 4294967295 * ((y : Int) / 4294967296))) _]
  · obtain ⟨b1, b2, b3, _⟩ := Lib.mul64_hi x y hx hy
    have p10 := Lib.half_mul_le (a := x / 4294967296) (b := y % 4294967296) (by omega) (by omega)
    have p01 := Lib.half_mul_le (a := x % 4294967296) (b := y / 4294967296) (by omega) (by omega)
    rw [mask32 x hx, mask32 y hy, half32 x, half32 y]
    simp only [mulU, wrapU b1, half32]
    rw [wrapU (a := x / 4294967296 * (y % 4294967296)) (by omega), wrapU (a := x % 4294967296 * (y / 4294967296)) (by omega)]
    have h1 : IntKind.u64.wrap (((x / 4294967296 * (y % 4294967296) : Nat) : Int) + ((x % 4294967296 * (y % 4294967296) / 4294967296 : Nat) : Int)) = ((x / 4294967296 * (y % 4294967296) + x % 4294967296 * (y % 4294967296) / 4294967296 : Nat) : Int) := by rw [addU, wrapU b2]
    rw [h1, mask32 _ b2, mask32 _ b1]
    have h2 : IntKind.u64.wrap (((x % 4294967296 * (y / 4294967296) : Nat) : Int) + (((x / 4294967296 * (y % 4294967296) + x % 4294967296 * (y % 4294967296) / 4294967296) % 4294967296 : Nat) : Int)) = ((x % 4294967296 * (y / 4294967296) + (x / 4294967296 * (y % 4294967296) + x % 4294967296 * (y % 4294967296) / 4294967296) % 4294967296 : Nat) : Int) := by rw [addU, wrapU (by omega)]
    rw [h2]
    have lw := low_word x y _ (x % 4294967296 * (y / 4294967296) + (x / 4294967296 * (y % 4294967296) + x % 4294967296 * (y % 4294967296) / 4294967296) % 4294967296) hx hy rfl (by rw [Nat.add_comm (x % 4294967296 * (y / 4294967296))])
    generalize x % 4294967296 * (y / 4294967296) + (x / 4294967296 * (y % 4294967296) + x % 4294967296 * (y % 4294967296) / 4294967296) % 4294967296 = m at *
    generalize x % 4294967296 * (y % 4294967296) = l at *
    have e : (m : Int) * 4294967296 = ((m * 4294967296 : Nat) : Int) := by omega
    have e2 : m * 4294967296 % 18446744073709551616 = m % 4294967296 * 4294967296 := by omega
    have h32 : (2 : Nat) ^ 32 = 4294967296 := by decide
    have k1 : m % 4294967296 * 4294967296 % 2 ^ 32 = 0 := by rw [h32]; exact Nat.mul_mod_left _ _
    have k2 : l % 4294967296 < 2 ^ 32 := by rw [h32]; exact Nat.mod_lt _ (by decide)
    have k3 : m % 4294967296 * 4294967296 < 18446744073709551616 := by omega
    have k4 : l % 4294967296 < 18446744073709551616 := by omega
    rw [e, wrapUm, e2, or_bit k3 k4 k1 k2, lw]
def mostI (P Q : Nat) (strict : Bool) : Bool := decide (P < Q) || (decide (P = Q) && !strict)
set_option maxHeartbeats 1000000 in
theorem most_any (a b c d : Nat) (st : Bool) (w : World) (ha : a < 18446744073709551616) (hb : b < 18446744073709551616) (hc : c < 18446744073709551616) (hd : d < 18446744073709551616) :
    Calls Try.prog 49 #[.int .u64 a, .int .u64 b, .int .u64 c, .int .u64 d, .bool st] w fun e w' => e = .returned (.bool (mostI (a * b) (c * d) st)) ∧ w = w' := by
  have P1 := fun w => Lib.hid (productK_any a b w ha hb)
  have P2 := fun w => Lib.hid (productK_any c d w hc hd)
  have HM : Hid (mostI (a * b) (c * d) st = (decide (a * b < c * d) || (decide (a * b = c * d) && !st))) := rfl
  generalize mostI (a * b) (c * d) st = r at *
  generalize a * b = P at *
  generalize c * d = Q at *
  have eP := Nat.div_add_mod P 18446744073709551616
  have eQ := Nat.div_add_mod Q 18446744073709551616
  have mP := Nat.mod_lt P (show 18446744073709551616 > 0 by decide)
  have mQ := Nat.mod_lt Q (show 18446744073709551616 > 0 by decide)
  generalize P / 18446744073709551616 = h at *
  generalize P % 18446744073709551616 = l at *
  generalize Q / 18446744073709551616 = i at *
  generalize Q % 18446744073709551616 = m at *
  rcases Nat.lt_trichotomy h i with g | g | g
  · have HR : Hid (r = true) := by show r = true; rw [HM.out, decide_eq_true (show P < Q by omega)]; rfl
    have g' : (h : Int) < i := by omega
    clear g eP eQ mP mQ HM
    (
      go_enter Try.func49, Try.ntmps49
      go_wp2_with fail
      refine (P1 _).out.mono ?_
      rintro e w' ⟨rfl, rfl⟩
      go_wp2_with fail
      refine (P2 _).out.mono ?_
      rintro e w' ⟨rfl, rfl⟩
      go_wp2_with fail
      go_ret
      exact ⟨by rw [HR.out]; rfl, rfl⟩
    )
  · rcases Nat.lt_trichotomy l m with k | k | k
    · have HR : Hid (r = true) := by show r = true; rw [HM.out, decide_eq_true (show P < Q by omega)]; rfl
      have k' : (l : Int) < m := by omega
      subst g
      clear k eP eQ mP mQ HM
      go_enter Try.func49, Try.ntmps49
      go_wp2_with fail
      refine (P1 _).out.mono ?_
      rintro e w' ⟨rfl, rfl⟩
      go_wp2_with fail
      refine (P2 _).out.mono ?_
      rintro e w' ⟨rfl, rfl⟩
      go_wp2_with fail
      go_ret
      exact ⟨by rw [HR.out]; rfl, rfl⟩
    · have HR : Hid (r = !st) := by show r = !st; rw [HM.out, decide_eq_false (show ¬ P < Q by omega), decide_eq_true (show P = Q by omega)]; simp
      subst g k
      clear eP eQ mP mQ HM
      cases st
      all_goals
        go_enter Try.func49, Try.ntmps49
        go_wp2_with fail
        refine (P1 _).out.mono ?_
        rintro e w' ⟨rfl, rfl⟩
        go_wp2_with fail
        refine (P2 _).out.mono ?_
        rintro e w' ⟨rfl, rfl⟩
        go_wp2_with fail
        go_ret
        exact ⟨by rw [HR.out]; rfl, rfl⟩
    · have HR : Hid (r = false) := by show r = false; rw [HM.out, decide_eq_false (show ¬ P < Q by omega), decide_eq_false (show ¬ P = Q by omega)]; rfl
      have k' : (m : Int) < l := by omega
      have e1 : ((l : Int) == m) = false := by simp; omega
      have e3 : decide (l < m) = false := decide_eq_false (by omega)
      subst g
      clear k eP eQ mP mQ HM
      go_enter Try.func49, Try.ntmps49
      go_wp2_with fail
      refine (P1 _).out.mono ?_
      rintro e w' ⟨rfl, rfl⟩
      go_wp2_with fail
      refine (P2 _).out.mono ?_
      rintro e w' ⟨rfl, rfl⟩
      go_wp2_with fail
      go_ret
      exact ⟨by rw [HR.out]; rfl, rfl⟩
  · have HR : Hid (r = false) := by show r = false; rw [HM.out, decide_eq_false (show ¬ P < Q by omega), decide_eq_false (show ¬ P = Q by omega)]; rfl
    have g' : (i : Int) < h := by omega
    have e1 : ((h : Int) == i) = false := by simp; omega
    have e3 : decide (h < i) = false := decide_eq_false (by omega)
    clear g eP eQ mP mQ HM
    (
      go_enter Try.func49, Try.ntmps49
      go_wp2_with fail
      refine (P1 _).out.mono ?_
      rintro e w' ⟨rfl, rfl⟩
      go_wp2_with fail
      refine (P2 _).out.mono ?_
      rintro e w' ⟨rfl, rfl⟩
      go_wp2_with fail
      go_ret
      exact ⟨by rw [HR.out]; rfl, rfl⟩
    )
end Go.Proofs.Ytdjopepipcnmdaa
