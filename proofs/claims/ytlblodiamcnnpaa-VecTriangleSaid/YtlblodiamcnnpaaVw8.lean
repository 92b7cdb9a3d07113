/- Proved here: VecTriangle returns true for every argument; no conditions but that integers are ints. -/
import Derived.Test.YtlblodiamcnnpaaVw7
namespace Go.Proofs.Ytlblodiamcnnpaa
open Go.RowKit
set_option linter.unusedVariables false
def hfI (v : Int) : Int := (smI v).tdiv 2
theorem hfI_bd (v : Int) : -2097152 ≤ hfI v ∧ hfI v ≤ 2097152 := by
  have h := smI_bd v
  unfold hfI
  rcases Int.le_total 0 (smI v) with g | g
  · rw [Int.tdiv_eq_ediv_of_nonneg g]; omega
  · have e : (smI v).tdiv 2 = -((-smI v).tdiv 2) := by rw [Int.neg_tdiv, Int.neg_neg]
    rw [e, Int.tdiv_eq_ediv_of_nonneg (by omega)]; omega
set_option maxHeartbeats 1000000 in
theorem halved_ex (x y z : Int) (w : World) (lx : -9223372036854775808 ≤ x) (hx : x ≤ 9223372036854775807) (ly : -9223372036854775808 ≤ y) (hy : y ≤ 9223372036854775807) (lz : -9223372036854775808 ≤ z) (hz : z ≤ 9223372036854775807) :
    Calls Try.prog 19 #[.agg #[.int .i64 x, .int .i64 y, .int .i64 z]] w fun e w' => e = .returned (.agg #[.int .i64 (hfI x), .int .i64 (hfI y), .int .i64 (hfI z)]) ∧ w' = ((((w.alloc (.cells #[.int .i64 (smI x), .int .i64 (smI y), .int .i64 (smI z)] 23)).alloc (.cells #[.int .i64 (hfI x), .int .i64 (hfI y), .int .i64 (hfI z)] 23)).alloc (.cells #[.int .i64 x, .int .i64 y, .int .i64 z] 23)).alloc (.cells #[.int .i64 (smI x), .int .i64 (smI y), .int .i64 (smI z)] 23)).drew := by
  have P1 := fun w => Lib.hid (vector_ex x y z w lx hx ly hy lz hz)
  have b1 := smI_bd x
  have b2 := smI_bd y
  have b3 := smI_bd z
  go_enter Try.func19, Try.ntmps19
  go_wp2_with fail
  refine (P1 _).out.mono ?_
  rintro e w2 ⟨rfl, rfl⟩
  go_wp2_with fail
  exact bodyPost_ret (v := .agg #[.int .i64 (hfI x), .int .i64 (hfI y), .int .i64 (hfI z)]) (by simp [results, Try.results19, go_sem, hfI]) rfl ⟨rfl, rfl⟩
theorem cauchy (a b c x y z : Int) : (a * x + b * y + c * z) * (a * x + b * y + c * z) ≤ (a * a + b * b + c * c) * (x * x + y * y + z * z) := by
  have h1 := sqnn (a * y - b * x)
  have h2 := sqnn (a * z - c * x)
  have h3 := sqnn (b * z - c * y)
  grind
theorem lt_sq {a b : Int} (h : 0 ≤ a) (g : a < b) : a * a < b * b := by
  have := Int.mul_lt_mul_of_pos_left g (show 0 < b by omega)
  have := Int.mul_le_mul_of_nonneg_right (Int.le_of_lt g) h
  omega
theorem le_of_sq {a b : Int} (hb : 0 ≤ b) (h : a * a ≤ b * b) : a ≤ b := by
  by_cases g : a ≤ b
  · exact g
  · have := lt_sq hb (show b < a by omega); omega
theorem dot_le {d A B m n : Int} (hA : 0 ≤ A) (hB : 0 ≤ B) (hm : 0 ≤ m) (hn : 0 ≤ n) (h : d * d ≤ A * B) (h1 : A ≤ m * m) (h2 : B ≤ n * n) : d ≤ m * n := by
  refine le_of_sq (Int.mul_nonneg hm hn) (Int.le_trans h ?_)
  have := Int.mul_le_mul h1 h2 hB (Int.mul_nonneg hm hm)
  have e : m * n * (m * n) = m * m * (n * n) := by grind
  rw [e]; exact this
theorem tri_le {a b c x y z m n k : Int} (hm : 0 ≤ m) (hn : 0 ≤ n) (h1 : a * a + b * b + c * c ≤ m * m) (h2 : x * x + y * y + z * z ≤ n * n) (h3 : k * k ≤ (a + x) * (a + x) + (b + y) * (b + y) + (c + z) * (c + z)) : k ≤ m + n := by
  refine le_of_sq (by omega) (Int.le_trans h3 ?_)
  have d := dot_le (by have := sqnn a; have := sqnn b; have := sqnn c; omega) (by have := sqnn x; have := sqnn y; have := sqnn z; omega) hm hn (cauchy a b c x y z) h1 h2
  grind
theorem max_sq (a : Int) : 0 ≤ max a (-a) ∧ max a (-a) * max a (-a) = a * a ∧ a ≤ max a (-a) ∧ -a ≤ max a (-a) := by
  rcases Int.le_total 0 a with h | h
  · have e : max a (-a) = a := by omega
    rw [e]; omega
  · have e : max a (-a) = -a := by omega
    rw [e, Int.neg_mul_neg]; omega
theorem sum_ge {a b c r : Int} (h : r = 0 ∨ r * r < a * a + b * b + c * c + 2 * r - 1) : r ≤ max a (-a) + max b (-b) + max c (-c) := by
  obtain ⟨p0, p1, _⟩ := max_sq a
  obtain ⟨q0, q1, _⟩ := max_sq b
  obtain ⟨s0, s1, _⟩ := max_sq c
  generalize max a (-a) = p at *
  generalize max b (-b) = q at *
  generalize max c (-c) = s at *
  rcases h with h | h
  · omega
  · by_cases g : r ≤ p + q + s
    · exact g
    · exfalso
      have t1 := Int.mul_nonneg p0 q0
      have t2 := Int.mul_nonneg p0 s0
      have t3 := Int.mul_nonneg q0 s0
      have k1 : (p + q + s) * (p + q + s) ≤ (r - 1) * (r - 1) := Int.mul_self_le_mul_self (by omega) (by omega)
      grind
theorem comp_le {a b c r : Int} (hr : 0 ≤ r) (h : a * a + b * b + c * c ≤ r * r) : a ≤ r ∧ -a ≤ r ∧ b ≤ r ∧ -b ≤ r ∧ c ≤ r ∧ -c ≤ r := by
  have t1 := sqnn a
  have t2 := sqnn b
  have t3 := sqnn c
  refine ⟨le_of_sq hr (by omega), le_of_sq hr (by rw [Int.neg_mul_neg]; omega), le_of_sq hr (by omega), le_of_sq hr (by rw [Int.neg_mul_neg]; omega), le_of_sq hr (by omega), le_of_sq hr (by rw [Int.neg_mul_neg]; omega)⟩
end Go.Proofs.Ytlblodiamcnnpaa
