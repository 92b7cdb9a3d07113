/- Proved here: VecSquares returns true for every argument; no conditions but that integers are ints. -/
import Derived.Test.YtlblodiamcnnpaaVw6
import Derived.Test.YtlblodiamcnnpaaWc1
import Derived.Test.YtlblodiamcnnpaaWq2
namespace Go.Proofs.Ytlblodiamcnnpaa
open Go.RowKit
set_option linter.unusedVariables false
set_option linter.unusedSimpArgs false
/-- the rounded roots of one number -/
theorem sq_pair (D : Int) (h0 : 0 ≤ D) (h1 : D ≤ 9223372036854775807) : ∃ l u : Int, sqV D 0 = l ∧ sqO D 0 = true ∧ sqV D 1 = u ∧ sqO D 1 = true ∧ 0 ≤ l ∧ l ≤ 3037000501 ∧ 0 ≤ u ∧ u ≤ 3037000501 ∧ l * l ≤ D ∧ D ≤ u * u ∧ u - l ≤ 1 := by
  obtain ⟨r, s, f, o, v⟩ := sq_rel D 0 h0 h1 (Or.inl rfl)
  obtain ⟨r2, s2, f2, o2, v2⟩ := sq_rel D 1 h0 h1 (Or.inr (Or.inl rfl))
  have e := Int.toNat_of_nonneg h0
  generalize D.toNat = P at *
  obtain ⟨q1, q2⟩ := s.1 rfl
  obtain ⟨t1, t2⟩ := s2.2.1 rfl
  refine ⟨r, r2, v, o, v2, o2, by omega, by omega, by omega, by omega, ?_, ?_, ?_⟩
  · rw [← e]; exact_mod_cast q1
  · rw [← e]; exact_mod_cast t1
  · have : r2 ≤ r + 1 := by
      rcases t2 with h | h
      · omega
      · by_cases g : r2 ≤ r + 1
        · exact g
        · exfalso
          have g2 : r + 2 ≤ r2 := by omega
          obtain ⟨k, rfl⟩ : ∃ k, r2 = r + 2 + k := ⟨r2 - (r + 2), by omega⟩
          have : (r + 2 + k) * (r + 2 + k) = r * r + 4 * r + 2 * (r * k) + 4 + 4 * k + k * k := by grind
          omega
    omega
theorem cmpZ_le {P Q : Int} (h : P ≤ Q) : cmpZ P Q ≤ 0 := by unfold cmpZ; split; decide; split; decide; omega
theorem cmpZ_ge {P Q : Int} (h : Q ≤ P) : 0 ≤ cmpZ P Q := by unfold cmpZ; split; omega; split; decide; decide
theorem wp_cls {P : Program} {c : Code} {Q : Exit → Act → World → Prop} {a : Act} {W : World} (C : World → Prop) (h : C W) (k : ∀ wx, C wx → c.wp P Q a wx) : c.wp P Q a W := k W h
theorem sqnn (a : Int) : 0 ≤ a * a := by
  rcases Int.le_total 0 a with h | h
  · exact Int.mul_nonneg h h
  · have := Int.mul_nonneg (a := -a) (b := -a) (by omega) (by omega)
    grind
theorem sq_sum {a b c : Int} (ha : Sm a) (hb : Sm b) (hc : Sm c) : 0 ≤ a * a + b * b + c * c ∧ a * a + b * b + c * c ≤ 211106232532992 := by
  have h1 := ha.mul ha
  have h2 := hb.mul hb
  have h3 := hc.mul hc
  have g1 := sqnn a
  have g2 := sqnn b
  have g3 := sqnn c
  omega
set_option maxHeartbeats 2000000 in
theorem law_squares (a b c : Int) (w : World) (la : -9223372036854775808 ≤ a) (ha : a ≤ 9223372036854775807) (lb : -9223372036854775808 ≤ b) (hb : b ≤ 9223372036854775807) (lc : -9223372036854775808 ≤ c) (hc : c ≤ 9223372036854775807) :
    Calls Try.prog 13 #[.agg #[.int .i64 a, .int .i64 b, .int .i64 c]] w fun e w' => e = .returned (.bool true) ∧ Below w.heap.size w w' := by
  have P1 := fun w => Lib.hid (vector_ex a b c w la ha lb hb lc hc)
  have S1 := smI_Sm a
  have S2 := smI_Sm b
  have S3 := smI_Sm c
  go_enter Try.func13, Try.ntmps13
  go_wp2_with fail
  refine (P1 _).out.mono ?_
  rintro e w2 ⟨rfl, rfl⟩
  go_upto_region 2 with fail
  refine wp_cls (Lay w.heap.size (w.heap.size + 1) (vcells w.heap.size (smI a) (smI b) (smI c)) w) (by unfold vcells; (refine ⟨by simp [List.forall_mem_cons, go_sem], by simp [List.forall_mem_cons] <;> omega, by simp, by (repeat (first | exact Below.refl _ _ | assumption | refine Below.drew ?_ | (refine Below.alloc ?_ (by simp <;> omega) _) | (refine Below.setCell ?_ (by simp <;> omega) _))), by omega⟩)) ?_
  intro wx hT
  unfold vcells at hT
  obtain ⟨a, ha⟩ : ∃ r, smI a = r := ⟨_, rfl⟩
  obtain ⟨b, hb⟩ : ∃ r, smI b = r := ⟨_, rfl⟩
  obtain ⟨c, hc⟩ : ∃ r, smI c = r := ⟨_, rfl⟩
  rw [ha] at hT S1
  rw [hb] at hT S2
  rw [hc] at hT S3
  obtain ⟨D0, D1⟩ := sq_sum S1 S2 S3
  obtain ⟨l, u, e1, e2, e3, e4, l0, l1, u0, u1, q1, q2, q3⟩ := sq_pair _ D0 (by omega)
  have LD := fun w => Lib.hid (length_any a b c 0 w S1 S2 S3)
  have LU := fun w => Lib.hid (length_any a b c 1 w S1 S2 S3)
  have DD := fun w => Lib.hid (dotP_any a b c a b c w S1 S2 S3 S1 S2 S3)
  rw [e1, e2] at LD
  rw [e3, e4] at LU
  obtain ⟨D, hD⟩ : ∃ D, a * a + b * b + c * c = D := ⟨_, rfl⟩
  rw [hD] at DD D0 D1 q1 q2
  clear e1 e2 e3 e4 hD
  have C1 := fun w => Lib.hid (cmp_any l l D 1 w (by omega) (by omega) (by omega) (by omega) (by omega) (by omega) (by omega) (by omega))
  have C2 := fun w => Lib.hid (cmp_any u u D 1 w (by omega) (by omega) (by omega) (by omega) (by omega) (by omega) (by omega) (by omega))
  rw [Int.mul_one] at C1 C2
  have K1 := cmpZ_le q1
  have K2 := cmpZ_ge q2
  obtain ⟨y, hy⟩ : ∃ y, cmpZ (l * l) D = y := ⟨_, rfl⟩
  obtain ⟨z, hz⟩ : ∃ y, cmpZ (u * u) D = y := ⟨_, rfl⟩
  rw [hy] at C1 K1
  rw [hz] at C2 K2
  (have qk9 := Lay.cells hT; simp only [List.forall_mem_cons, List.not_mem_nil, false_implies, implies_true, and_true] at qk9; repeat (obtain ⟨qk8, qk9⟩ := qk9))
  go_wp2_with fail
  refine (LD _).out.mono ?_
  rintro e w1 ⟨rfl, hb1⟩
  have hT := hT.next hb1
  (have qk9 := Lay.cells hT; simp only [List.forall_mem_cons, List.not_mem_nil, false_implies, implies_true, and_true] at qk9; repeat (obtain ⟨qk8, qk9⟩ := qk9))
  go_wp2_with fail
  refine (LU _).out.mono ?_
  rintro e w2 ⟨rfl, hb2⟩
  have hT := hT.next hb2
  (have qk9 := Lay.cells hT; simp only [List.forall_mem_cons, List.not_mem_nil, false_implies, implies_true, and_true] at qk9; repeat (obtain ⟨qk8, qk9⟩ := qk9))
  go_wp2_with fail
  refine (DD _).out.mono ?_
  rintro e w3 ⟨rfl, hb3⟩
  have hT := hT.next hb3
  (have qk9 := Lay.cells hT; simp only [List.forall_mem_cons, List.not_mem_nil, false_implies, implies_true, and_true] at qk9; repeat (obtain ⟨qk8, qk9⟩ := qk9))
  go_wp2_with fail
  refine (awake_any _).mono ?_
  rintro e w4 ⟨rfl, hb4⟩
  have hT := hT.next hb4
  go_wp2_with fail
  refine (C1 _).out.mono ?_
  rintro e w5 ⟨rfl, hb5⟩
  have hT := hT.next hb5
  go_wp2_with fail
  refine (C2 _).out.mono ?_
  rintro e w6 ⟨rfl, hb6⟩
  have hT := hT.next hb6
  go_wp2_with fail
  go_ret
  exact ⟨rfl, hT.be⟩
end Go.Proofs.Ytlblodiamcnnpaa
