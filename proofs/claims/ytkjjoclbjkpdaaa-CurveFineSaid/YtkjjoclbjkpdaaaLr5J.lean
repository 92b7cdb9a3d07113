/- Proved here: digits to the base 65536 as lists: value, canonical form, order, sums; no program in sight; no conditions. · the reference's limbs gives the digits of a number of 64 bits in memory of its own; no conditions. · the reference's cut leaves out leading zeros; cmp compares numbers by their digits; no conditions but canonical digits. · the reference's mul multiplies two numbers by their digits; canonical digits, at most 400 each. · Cmp of package wide compares the two products, for every argument. · the reference's product and Cmp; WideCmp returns true for every argument; no conditions but that integers are ints. -/
import Derived.Test.YtkjjoclbjkpdaaaWq2J
import Derived.OwnWalk
import Derived.Laws.OwnMore
import Derived.Deep.QuietTactic
import Derived.Lib.Hide
namespace Go.Proofs.Ytkjjoclbjkpdaaa
set_option linter.unusedVariables false
def val : List Nat → Nat
  | [] => 0
  | d :: t => d + 65536 * val t
def Dig (ds : List Nat) : Prop := ∀ d ∈ ds, d < 65536
end Go.Proofs.Ytkjjoclbjkpdaaa
namespace Go.Proofs.Ytkjjoclbjkpdaaa
open Go.RowKit
set_option linter.unusedVariables false
def dv (d : Nat) : Value := .int .u64 (d : Int)
/-- a slice that holds these digits at the head of a block -/
def Sl (w : World) (v : Value) (ds : List Nat) : Prop :=
  ∃ A c, v = .slice A ds.length c ∧ ds.length ≤ c ∧ (0 < ds.length → ∃ g, A = some ⟨g, 0, none⟩ ∧ g < w.heap.size ∧ ∀ k, k < ds.length → w.cell? ⟨g, k, none⟩ = some (dv (ds.getD k 0)))
theorem Sl.next {w w' : World} {v : Value} {ds : List Nat} (h : Sl w v ds) (hb : Below w.heap.size w w') : Sl w' v ds := by
  obtain ⟨A, c, rfl, hc, h⟩ := h
  refine ⟨A, c, rfl, hc, fun h0 => ?_⟩
  obtain ⟨g, rfl, hg, hk⟩ := h h0
  exact ⟨g, rfl, Nat.lt_of_lt_of_le hg hb.size, fun k hl => (hb.cell (p := ⟨g, k, none⟩) hg).trans (hk k hl)⟩
end Go.Proofs.Ytkjjoclbjkpdaaa
namespace Go.Proofs.Ytkjjoclbjkpdaaa
open Go.RowKit
set_option linter.unusedVariables false
end Go.Proofs.Ytkjjoclbjkpdaaa
namespace Go.Proofs.Ytkjjoclbjkpdaaa
open Go.RowKit
set_option linter.unusedVariables false
theorem Dig.set {ds : List Nat} (h : Dig ds) (j : Nat) {x : Nat} (hx : x < 65536) : Dig (ds.set j x) := by
  intro d hd
  rcases List.mem_or_eq_of_mem_set hd with g | g
  · exact h d g
  · subst g; exact hx
def ownS (w : World) (B n : Nat) (ds : List Nat) : Prop := ds.length = n ∧ Dig ds ∧ w.ownsRow B 82 1 (.slice (some ⟨B, 0, none⟩) n n) n (ds.map dv)
theorem ownS.cell {w : World} {B n : Nat} {ds : List Nat} (h : ownS w B n ds) {j : Nat} (hj : j < n) : w.cell? ⟨B, j, none⟩ = some (.int .u64 ((ds.getD j 0 : Nat) : Int)) := by
  obtain ⟨hl, _, ho⟩ := h
  rw [ho.cellAt j (by omega)]
  simp [List.getD_eq_getElem?_getD, hl, hj, dv]
theorem ownS.set {w : World} {B n : Nat} {ds : List Nat} (h : ownS w B n ds) (j : Nat) {x : Nat} (hx : x < 65536) : ownS (w.setCell ⟨B, j, none⟩ (.int .u64 (x : Int))) B n (ds.set j x) := by
  obtain ⟨hl, hd, ho⟩ := h
  refine ⟨by simpa using hl, hd.set j hx, ?_⟩
  have := (ho.stored j (dv x)).1
  rwa [← List.map_set] at this
end Go.Proofs.Ytkjjoclbjkpdaaa
namespace Go.Proofs.Ytkjjoclbjkpdaaa
open Go.RowKit
set_option linter.unusedVariables false
/-- comparison of integers -/
def cmpZ (P Q : Int) : Int := if P < Q then -1 else if P = Q then 0 else 1
theorem sgC (a b : Int) : (sgI a b = -1 ∧ a * b < 0) ∨ (sgI a b = 0 ∧ a * b = 0) ∨ (sgI a b = 1 ∧ 0 < a * b) := by
  by_cases h0 : a = 0 ∨ b = 0
  · have : a * b = 0 := by rcases h0 with h | h <;> subst h <;> simp
    exact Or.inr (Or.inl ⟨sgI_zero h0, this⟩)
  · by_cases h1 : (a < 0 ∧ b < 0) ∨ (0 < a ∧ 0 < b)
    · refine Or.inr (Or.inr ⟨sgI_pos h1, ?_⟩)
      rcases h1 with h | h
      · exact Int.mul_pos_of_neg_of_neg h.1 h.2
      · exact Int.mul_pos h.1 h.2
    · have h2 : (a < 0 ∧ 0 < b) ∨ (0 < a ∧ b < 0) := by omega
      refine Or.inl ⟨sgI_neg h2, ?_⟩
      rcases h2 with h | h
      · exact Int.mul_neg_of_neg_of_pos h.1 h.2
      · exact Int.mul_neg_of_pos_of_neg h.1 h.2
theorem cmp_abs (a b c d : Int) : cmpN (a.natAbs * b.natAbs) (c.natAbs * d.natAbs) = cmpN (a * b).natAbs (c * d).natAbs := by rw [Int.natAbs_mul, Int.natAbs_mul]
theorem absW {a : Int} (h1 : -9223372036854775808 ≤ a) (h2 : a ≤ 9223372036854775807) : a.natAbs < 18446744073709551616 := by omega
set_option maxHeartbeats 1000000 in
theorem cmp_any (a b c d : Int) (w : World) (ha : -9223372036854775808 ≤ a) (ha2 : a ≤ 9223372036854775807) (hb : -9223372036854775808 ≤ b) (hb2 : b ≤ 9223372036854775807) (hc : -9223372036854775808 ≤ c) (hc2 : c ≤ 9223372036854775807) (hd : -9223372036854775808 ≤ d) (hd2 : d ≤ 9223372036854775807) :
    Calls Try.prog 60 #[.int .i64 a, .int .i64 b, .int .i64 c, .int .i64 d] w fun e w' => e = .returned (.int .i64 (cmpZ (a * b) (c * d))) ∧ Below w.heap.size w w' := by
  have HA := Lib.hid (absW ha ha2)
  have HB := Lib.hid (absW hb hb2)
  have HC := Lib.hid (absW hc hc2)
  have HD := Lib.hid (absW hd hd2)
  have S1 := fun w => Lib.hid (sign_any a b w)
  have S2 := fun w => Lib.hid (sign_any c d w)
  have K := cmp_abs a b c d
  rcases sgC a b with ⟨h1, g1⟩ | ⟨h1, g1⟩ | ⟨h1, g1⟩ <;> rcases sgC c d with ⟨h2, g2⟩ | ⟨h2, g2⟩ | ⟨h2, g2⟩
  all_goals
    rw [h1] at S1
    rw [h2] at S2
    have HK : Hid ((cmpN (a.natAbs * b.natAbs) (c.natAbs * d.natAbs) = cmpN (a * b).natAbs (c * d).natAbs)) := K
    have G1 := Lib.hid g1
    have G2 := Lib.hid g2
    have HR : Hid (∃ k, cmpN (a.natAbs * b.natAbs) (c.natAbs * d.natAbs) = k ∧ (k = -1 ∨ k = 0 ∨ k = 1)) := ⟨_, rfl, by unfold cmpN; (repeat' split) <;> omega⟩
    clear h1 h2 g1 g2 K
    go_enter Try.func60, Try.ntmps60
    go_wp2_with fail
    refine (S1 _).out.mono ?_
    rintro e w' ⟨rfl, rfl⟩
    go_wp2_with fail
    refine (S2 _).out.mono ?_
    rintro e w' ⟨rfl, rfl⟩
    go_wp2_with fail
    first
      | (go_ret; refine ⟨congrArg Ending.returned (congrArg (Value.int IntKind.i64) ?_), Below.refl _ _⟩; have g1 := G1.out; have g2 := G2.out; unfold cmpZ; (repeat' split) <;> omega)
      | (refine (size_any a _ ha ha2).mono ?_
         rintro e w' ⟨rfl, rfl⟩
         go_wp2_with fail
         refine (size_any b _ hb hb2).mono ?_
         rintro e w' ⟨rfl, rfl⟩
         go_wp2_with fail
         refine (product_any _ _ HA.out HB.out _).mono ?_
         rintro e w1 ⟨rfl, hb1⟩
         go_wp2_with fail
         refine (size_any c _ hc hc2).mono ?_
         rintro e w' ⟨rfl, rfl⟩
         go_wp2_with fail
         refine (size_any d _ hd hd2).mono ?_
         rintro e w' ⟨rfl, rfl⟩
         go_wp2_with fail
         refine (product_any _ _ HC.out HD.out _).mono ?_
         rintro e w2 ⟨rfl, hb2⟩
         go_wp2_with fail
         refine (compare_any _ _ _).mono ?_
         rintro e w3 ⟨rfl, hb3⟩
         obtain ⟨k, hk, hk3⟩ := HR.out
         rw [hk]
         have HKK := Lib.hid hk
         have k1 : -1 ≤ k := by omega
         have k2 : k ≤ 1 := by omega
         clear hk hk3
         go_wp2_with fail
         go_ret
         refine ⟨congrArg Ending.returned (congrArg (Value.int IntKind.i64) ?_), btW (btW hb1 hb2) hb3⟩
         have h := HK.out
         rw [HKK.out] at h
         have g1 := G1.out
         have g2 := G2.out
         (try rw [h])
         unfold cmpZ
         (try unfold cmpN)
         (repeat' split) <;> omega)
end Go.Proofs.Ytkjjoclbjkpdaaa
namespace Go.Proofs.Ytkjjoclbjkpdaaa
open Go.RowKit
set_option linter.unusedVariables false
end Go.Proofs.Ytkjjoclbjkpdaaa
