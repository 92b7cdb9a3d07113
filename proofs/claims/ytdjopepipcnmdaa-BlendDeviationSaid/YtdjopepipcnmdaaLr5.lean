/- Proved here: the reference's product and Cmp; WideCmp returns true for every argument; no conditions but that integers are ints. -/
import Derived.Test.YtdjopepipcnmdaaLr4
import Derived.Test.YtdjopepipcnmdaaWc1
import Derived.Lib.Hide
namespace Go.Proofs.Ytdjopepipcnmdaa
open Go.RowKit
set_option linter.unusedVariables false
set_option maxHeartbeats 400000 in
theorem magR_any (n : Int) (w : World) (h1 : -9223372036854775808 ≤ n) (h2 : n ≤ 9223372036854775807) :
    Calls Try.prog 62 #[.int .i64 n] w fun e w' => e = .returned (.int .u64 (n.natAbs : Int)) ∧ w = w' := by
  by_cases h : n < 0
  · go_enter Try.func62, Try.ntmps62
    go_wp2
    go_ret
    exact ⟨ret_u64 (by omega), rfl⟩
  · go_enter Try.func62, Try.ntmps62
    go_wp2
    go_ret
    exact ⟨ret_u64 (by omega), rfl⟩
set_option maxHeartbeats 400000 in
theorem signR_any (a b : Int) (w : World) :
    Calls Try.prog 52 #[.int .i64 a, .int .i64 b] w fun e w' => e = .returned (.int .i64 (sgI a b)) ∧ w = w' := by
  by_cases ha : a = 0
  · rw [sgI_zero (Or.inl ha)]
    subst ha
    go_enter Try.func52, Try.ntmps52
    go_wp2
    go_ret
    exact ⟨rfl, rfl⟩
  have ea : (a == 0) = false := by simpa using ha
  by_cases hb : b = 0
  · rw [sgI_zero (Or.inr hb)]
    subst hb
    clear ha
    go_enter Try.func52, Try.ntmps52
    go_wp2
    go_ret
    exact ⟨rfl, rfl⟩
  have eb : (b == 0) = false := by simpa using hb
  by_cases la : a < 0 <;> by_cases lb : b < 0
  · rw [sgI_pos (by omega)]
    clear ha hb
    go_enter Try.func52, Try.ntmps52
    go_wp2
    go_ret
    exact ⟨rfl, rfl⟩
  · rw [sgI_neg (by omega)]
    have d : decide (b < 0) = false := by simpa using lb
    clear ha hb
    go_enter Try.func52, Try.ntmps52
    go_wp2
    go_ret
    exact ⟨rfl, rfl⟩
  · rw [sgI_neg (by omega)]
    have d : decide (a < 0) = false := by simpa using la
    clear ha hb
    go_enter Try.func52, Try.ntmps52
    go_wp2
    go_ret
    exact ⟨rfl, rfl⟩
  · rw [sgI_pos (by omega)]
    have d : decide (a < 0) = false := by simpa using la
    have d2 : decide (b < 0) = false := by simpa using lb
    clear ha hb
    go_enter Try.func52, Try.ntmps52
    go_wp2
    go_ret
    exact ⟨rfl, rfl⟩
theorem abs4 {a : Int} (h1 : -9223372036854775808 ≤ a) (h2 : a ≤ 9223372036854775807) : a.natAbs < 18446744073709551616 ∧ (dg a.natAbs).length ≤ 4 := by
  have h : a.natAbs < 18446744073709551616 := by omega
  exact ⟨h, dg_len 4 _ h⟩
theorem prod8 {X Y : Nat} (h1 : X < 18446744073709551616) (h2 : Y < 18446744073709551616) : (dg (X * Y)).length ≤ 8 := dg_len 8 _ (Nat.lt_of_lt_of_le (Nat.mul_lt_mul'' h1 h2) (by decide))
set_option maxHeartbeats 1000000 in
theorem productR_any (a b : Int) (w : World) (la : -9223372036854775808 ≤ a) (ha : a ≤ 9223372036854775807) (lb : -9223372036854775808 ≤ b) (hb : b ≤ 9223372036854775807) :
    Calls Try.prog 54 #[.int .i64 a, .int .i64 b] w fun e w' => ∃ r, e = .returned r ∧ Sl w' r (dg (a.natAbs * b.natAbs)) ∧ Below w.heap.size w w' := by
  have HA := Lib.hid (abs4 la ha)
  have HB := Lib.hid (abs4 lb hb)
  go_enter Try.func54, Try.ntmps54
  go_wp2_with fail
  refine (magR_any a _ la ha).mono ?_
  rintro e w' ⟨rfl, rfl⟩
  go_wp2_with fail
  refine (limbs_any _ HA.out.1 _).mono ?_
  rintro e w1 ⟨u, rfl, hu, hb1⟩
  go_wp2_with fail
  refine (magR_any b _ lb hb).mono ?_
  rintro e w' ⟨rfl, rfl⟩
  go_wp2_with fail
  refine (limbs_any _ HB.out.1 _).mono ?_
  rintro e w2 ⟨v, rfl, hv, hb2⟩
  go_wp2_with fail
  refine (mulL_any _ _ u v _ (hu.next hb2) hv (by have := HA.out.2; omega) (by have := HB.out.2; omega)).mono ?_
  rintro e w3 ⟨r, rfl, hr, hb3⟩
  go_wp2_with fail
  go_ret
  exact ⟨_, rfl, hr, btW (btW hb1 hb2) hb3⟩
set_option maxHeartbeats 1000000 in
theorem CmpR_any (a b c d : Int) (w : World) (la : -9223372036854775808 ≤ a) (ha : a ≤ 9223372036854775807) (lb : -9223372036854775808 ≤ b) (hb : b ≤ 9223372036854775807) (lc : -9223372036854775808 ≤ c) (hc : c ≤ 9223372036854775807) (ld : -9223372036854775808 ≤ d) (hd : d ≤ 9223372036854775807) :
    Calls Try.prog 40 #[.int .i64 a, .int .i64 b, .int .i64 c, .int .i64 d] w fun e w' => e = .returned (.int .i64 (cmpZ (a * b) (c * d))) ∧ Below w.heap.size w w' := by
  have S1 := fun w => Lib.hid (signR_any a b w)
  have S2 := fun w => Lib.hid (signR_any c d w)
  have P1 := fun w => Lib.hid (productR_any a b w la ha lb hb)
  have P2 := fun w => Lib.hid (productR_any c d w lc hc ld hd)
  have LN1 := Lib.hid (prod8 (abs4 la ha).1 (abs4 lb hb).1)
  have LN2 := Lib.hid (prod8 (abs4 lc hc).1 (abs4 ld hd).1)
  have K := cmp_abs a b c d
  rcases sgC a b with ⟨h1, g1⟩ | ⟨h1, g1⟩ | ⟨h1, g1⟩ <;> rcases sgC c d with ⟨h2, g2⟩ | ⟨h2, g2⟩ | ⟨h2, g2⟩
  all_goals
    rw [h1] at S1
    rw [h2] at S2
    have HK : Hid ((cmpN (a.natAbs * b.natAbs) (c.natAbs * d.natAbs) = cmpN (a * b).natAbs (c * d).natAbs)) := K
    have G1 := Lib.hid g1
    have G2 := Lib.hid g2
    have HR : Hid (∃ k, cmpN (a.natAbs * b.natAbs) (c.natAbs * d.natAbs) = k ∧ (k = -1 ∨ k = 0 ∨ k = 1)) := ⟨_, rfl, by unfold cmpN; (repeat' split) <;> omega⟩
    clear h1 h2 g1 g2 K
    go_enter Try.func40, Try.ntmps40
    go_wp2_with fail
    refine (S1 _).out.mono ?_
    rintro e w' ⟨rfl, rfl⟩
    go_wp2_with fail
    refine (S2 _).out.mono ?_
    rintro e w' ⟨rfl, rfl⟩
    go_wp2_with fail
    first
      | (go_ret; refine ⟨congrArg Ending.returned (congrArg (Value.int IntKind.i64) ?_), Below.refl _ _⟩; have g1 := G1.out; have g2 := G2.out; unfold cmpZ; (repeat' split) <;> omega)
      | (refine (P1 _).out.mono ?_
         rintro e w1 ⟨u, rfl, hu, hb1⟩
         go_wp2_with fail
         refine (P2 _).out.mono ?_
         rintro e w2 ⟨v, rfl, hv, hb2⟩
         go_wp2_with fail
         refine (cmpL_any _ _ u v _ (hu.next hb2) hv (by have := LN1.out; omega) (by have := LN2.out; omega)).mono ?_
         rintro e w3 ⟨rfl, hb3⟩
         obtain ⟨k, hk, hk3⟩ := HR.out
         rw [hk]
         have HKK := Lib.hid hk
         have k1 : -1 ≤ k := by omega
         have k2 : k ≤ 1 := by omega
         clear hk hk3
         go_wp2_with fail
         go_ret
         refine ⟨congrArg Ending.returned (congrArg (Value.int IntKind.i64) ?_), btW (btW hb1 hb2) hb3⟩
         have h := HK.out
         rw [HKK.out] at h
         have g1 := G1.out
         have g2 := G2.out
         (try rw [h])
         unfold cmpZ
         (try unfold cmpN)
         (repeat' split) <;> omega)
end Go.Proofs.Ytdjopepipcnmdaa

