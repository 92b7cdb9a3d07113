/- Proved here: what the program's Over gives in the mode Near is what the reference's Near gives; it is close to the quotient; no program in sight; ranges as stated. · points that come by value: the reference's small, Small and Square, the program's Length; ranges as stated. · a vector of given length in a given direction, its components rounded to the nearest integers, has nearly that length; no program in sight. · what the comparison of two points, of two spokes, says; no conditions. · Plane and Space of the program and of the reference; CurvePlanes returns true for every argument; no conditions but that integers are ints. -/
import Derived.Test.YtkjjoclbjkpdaaaKa5R
import Derived.Test.YtkjjoclbjkpdaaaLfR
import Derived.Test.YtkjjoclbjkpdaaaRows
import Derived.WalkKit
import Derived.ProofKit
import Derived.Laws.StructEq
namespace Go.Proofs.Ytkjjoclbjkpdaaa
open Go.RowKit
set_option linter.unusedVariables false
def nrI (x r n : Int) : Int := if x < 0 then -(nrN x r n : Int) else nrN x r n
theorem nr_test (P Q : Nat) (s ng neg : Bool) (h : P = Q → ng = neg) : grI 2 (cmpN Q P) s ng = mostI P Q neg := by
  unfold grI mostI cmpN
  rw [if_neg (by decide), if_neg (by decide)]
  rcases Nat.lt_trichotomy P Q with g | g | g
  · rw [if_neg (by omega), if_neg (by omega), decide_eq_true g]; rfl
  · subst g; rw [if_neg (by omega), if_pos rfl, h rfl]; simp
  · rw [if_pos g, decide_eq_false (show ¬ P < Q by omega), decide_eq_false (show ¬ P = Q by omega)]; rfl
theorem nrN_le {x r n : Int} (hr2 : r.natAbs ≤ 94906268) (hx : x.natAbs ≤ 94906268) (hn : 1 ≤ n) (hxn : x.natAbs * x.natAbs ≤ n.natAbs) : nrT x r n ≤ r.natAbs := by
  have hA := Nat.mul_le_mul hx hr2
  exact nrT_le (by omega) hxn (Nat.lt_of_le_of_lt (Nat.div_le_self _ _) (Nat.lt_of_le_of_lt (Nat.mul_le_mul hA hA) (by decide)))
theorem near_ov (x r n : Int) (hx : -94906268 ≤ x) (hx2 : x ≤ 94906268) (hr : 0 ≤ r) (hr2 : r ≤ 94906268) (hn : 1 ≤ n) (hn2 : n ≤ 36028797018963968) (hxn : x.natAbs * x.natAbs ≤ n.natAbs) :
    ovV x r n 2 = nrI x r n ∧ ovO x r n 2 = true := by
  have hTr := nrN_le (x := x) (r := r) (n := n) (by omega) (by omega) hn hxn
  obtain ⟨d, rfl⟩ := Int.eq_ofNat_of_zero_le (show 0 ≤ n by omega)
  have hG : ovG x r d 2 = true := decide_eq_true ⟨by omega, by omega, by omega, by omega, by decide, by decide⟩
  have hd : 0 < d := by omega
  have hA := Nat.mul_le_mul (show x.natAbs ≤ 94906268 by omega) (show r.natAbs ≤ 94906268 by omega)
  have hXX := Nat.mul_le_mul hA hA
  have hN : ovN x r d 2 = nrN x r d := by
    obtain ⟨X, hX⟩ : ∃ X, x.natAbs * r.natAbs * (x.natAbs * r.natAbs) = X := ⟨_, rfl⟩
    have hP : ovP x r = 4 * X := by rw [← hX]; unfold ovP; generalize x.natAbs * r.natAbs = a; grind
    have hXb : X < 340282366920938463463374607431768211456 / 4 := by omega
    have TS := rtN_spec (X / d) (Nat.lt_of_le_of_lt (Nat.div_le_self _ _) (by omega))
    have QS := rtN_spec (4 * X / d) (Nat.lt_of_le_of_lt (Nat.div_le_self _ _) (by omega))
    have h := ov_ref X d 0 2 (rtN (4 * X / d)) (rtN (X / d)) _ (decide (sgI x r < 0)) hd QS.1 QS.2 TS.1 TS.2 rfl
    have h1 : ovN x r d 2 = ovS 2 (rtN (4 * X / d)) (decide (0 < 4 * X % d) || decide (rtN (4 * X / d) * rtN (4 * X / d) ≠ 4 * X / d)) (decide (sgI x r < 0)) := by
      unfold ovN ovR ovT; rw [hP, Int.toNat_natCast]
    rw [h1, ← h]
    have hT : nrT x r d = rtN (X / d) := by unfold nrT; rw [hX]; rfl
    unfold nrN rnN
    rw [hT, show 2 * (x.natAbs * r.natAbs) * (2 * (x.natAbs * r.natAbs)) = 4 * X by rw [← hX]; generalize x.natAbs * r.natAbs = a; grind]
    rw [nr_test _ _ _ _ (decide (x < 0)) ?_]
    · rfl
    · intro e
      refine decide_eq_decide.mpr ?_
      have hp : 0 < (2 * rtN (X / d) + 1) * (2 * rtN (X / d) + 1) * d := Nat.mul_pos (Nat.mul_pos (by omega) (by omega)) hd
      have hr0 : r ≠ 0 := by
        rintro rfl
        have : X = 0 := by rw [← hX]; simp
        omega
      unfold sgI
      (repeat' split) <;> omega
  have hNb : nrN x r d ≤ nrT x r d + 1 := by unfold nrN; split <;> omega
  unfold ovV ovO nrI
  rw [hG, if_pos rfl, if_pos rfl, hN]
  by_cases h0 : x < 0
  · by_cases hr0 : r = 0
    · subst hr0
      have e : sgI x 0 = 0 := sgI_zero (Or.inr rfl)
      have hz : nrN x 0 d = 0 := by
        unfold nrN nrT mostI
        have hq : (1 : Nat) * 1 * d = d := by omega
        have : rtN 0 = 0 := by have := rtN_spec 0 (by decide); generalize rtN 0 = t at *; rcases t with _ | t; rfl; grind
        simp [this]; omega
      rw [e, hz]; simp [sgV, sgO]
    · have e : sgI x r = -1 := sgI_neg (Or.inl ⟨h0, by omega⟩)
      rw [e, if_pos h0]
      unfold sgV sgO
      rw [if_pos (by decide), if_pos (by omega), if_pos (by decide)]
      exact ⟨rfl, decide_eq_true (by omega)⟩
  · have e : ¬ sgI x r < 0 := by unfold sgI; (repeat' split) <;> omega
    rw [decide_eq_false e, if_neg h0]
    unfold sgV sgO
    rw [if_neg (by decide), if_pos (by omega), if_neg (by decide)]
    exact ⟨rfl, decide_eq_true (by omega)⟩
end Go.Proofs.Ytkjjoclbjkpdaaa
namespace Go.Proofs.Ytkjjoclbjkpdaaa
open Go.RowKit
set_option linter.unusedVariables false
set_option linter.unusedSimpArgs false
def okB (l a : Int) : Bool := !decide (a < -l) && !decide (a > l)
def smB (l a b c : Int) : Bool := okB l a && (okB l b && okB l c)
theorem okB_t {l a : Int} (h1 : -l ≤ a) (h2 : a ≤ l) : okB l a = true := by unfold okB; rw [decide_eq_false (by omega), decide_eq_false (by omega)]; rfl
theorem okB_f {l a : Int} (h : a < -l ∨ l < a) : okB l a = false := by
  unfold okB
  rcases h with h | h
  · rw [decide_eq_true h]; rfl
  · rw [decide_eq_true (show a > l from h)]; simp
theorem okB_iff {l a : Int} : okB l a = true ↔ -l ≤ a ∧ a ≤ l := by
  constructor
  · intro h
    refine Classical.byContradiction fun g => ?_
    rw [okB_f (by omega)] at h; cases h
  · intro h; exact okB_t h.1 h.2
theorem smB_iff {l a b c : Int} : smB l a b c = true ↔ (-l ≤ a ∧ a ≤ l) ∧ (-l ≤ b ∧ b ≤ l) ∧ (-l ≤ c ∧ c ≤ l) := by
  unfold smB; rw [Bool.and_eq_true, Bool.and_eq_true, okB_iff, okB_iff, okB_iff]
set_option maxHeartbeats 2000000 in
set_option maxRecDepth 20000 in
theorem small_any (p0 p1 p2 l : Int) (w : World) (l0 : 0 ≤ l) (l1 : l ≤ 1000000000) :
    Calls Try.prog 61 #[.agg #[.int .i64 p0, .int .i64 p1, .int .i64 p2], .int .i64 l] w fun e w' => e = .returned (.bool (smB l p0 p1 p2)) ∧ Below w.heap.size w w' := by
  go_enter Try.func61, Try.ntmps61
  go_wp2_with fail
  go_loopw [6] (fun t wr => ((t = .int .i64 0 ∨ (t = .int .i64 1 ∧ okB l p0 = true)) ∨ ((t = .int .i64 2 ∧ okB l p0 = true ∧ okB l p1 = true) ∨ (t = .int .i64 3 ∧ okB l p0 = true ∧ okB l p1 = true ∧ okB l p2 = true))) ∧ Lay w.heap.size (w.heap.size + 1) [(⟨w.heap.size, 0, none⟩, .int .i64 p0), (⟨w.heap.size, 1, none⟩, .int .i64 p1), (⟨w.heap.size, 2, none⟩, .int .i64 p2)] w wr) (fun t _ => 3 - (intOf t).toNat)
  case atStart => exact ⟨Or.inl (Or.inl rfl), by (refine ⟨by simp [List.forall_mem_cons, go_sem], by simp [List.forall_mem_cons] <;> omega, by simp, by (repeat (first | exact Below.refl _ _ | assumption | refine Below.drew ?_ | (refine Below.alloc ?_ (by simp <;> omega) _) | (refine Below.setCell ?_ (by simp <;> omega) _))), by omega⟩)⟩
  case round =>
  obtain ⟨hd, hT⟩ := hrel
  rcases hd with (rfl | ⟨rfl, g0⟩) | (⟨rfl, g0, g1⟩ | ⟨rfl, g0, g1, g2⟩)
  · (have qk9 := Lay.cells hT; simp only [List.forall_mem_cons, List.not_mem_nil, false_implies, implies_true, and_true] at qk9; repeat (obtain ⟨qk8, qk9⟩ := qk9))
    by_cases h1 : p0 < -l
    · have F := Lib.hid (okB_f (l := l) (a := p0) (Or.inl h1))
      go_wp2_with fail
      go_ret
      exact ⟨by unfold smB; rw [F.out]; simp, hT.be⟩
    · by_cases h2 : l < p0
      · have F := Lib.hid (okB_f (l := l) (a := p0) (Or.inr h2))
        go_wp2_with fail
        go_ret
        exact ⟨by unfold smB; rw [F.out]; simp, hT.be⟩
      · have F := Lib.hid (okB_t (l := l) (a := p0) (by omega) (by omega))
        go_wp2_with fail
        go_roundw
        case rel => exact ⟨Or.inl (Or.inr ⟨rfl, F.out⟩), hT⟩
        case measure => simp [intOf]
  · (have qk9 := Lay.cells hT; simp only [List.forall_mem_cons, List.not_mem_nil, false_implies, implies_true, and_true] at qk9; repeat (obtain ⟨qk8, qk9⟩ := qk9))
    have G0 := Lib.hid g0
    clear g0
    by_cases h1 : p1 < -l
    · have F := Lib.hid (okB_f (l := l) (a := p1) (Or.inl h1))
      go_wp2_with fail
      go_ret
      exact ⟨by unfold smB; rw [G0.out]; rw [F.out]; simp, hT.be⟩
    · by_cases h2 : l < p1
      · have F := Lib.hid (okB_f (l := l) (a := p1) (Or.inr h2))
        go_wp2_with fail
        go_ret
        exact ⟨by unfold smB; rw [G0.out]; rw [F.out]; simp, hT.be⟩
      · have F := Lib.hid (okB_t (l := l) (a := p1) (by omega) (by omega))
        go_wp2_with fail
        go_roundw
        case rel => exact ⟨Or.inr (Or.inl ⟨rfl, G0.out, F.out⟩), hT⟩
        case measure => simp [intOf]
  · (have qk9 := Lay.cells hT; simp only [List.forall_mem_cons, List.not_mem_nil, false_implies, implies_true, and_true] at qk9; repeat (obtain ⟨qk8, qk9⟩ := qk9))
    have G0 := Lib.hid g0
    have G1 := Lib.hid g1
    clear g0 g1
    by_cases h1 : p2 < -l
    · have F := Lib.hid (okB_f (l := l) (a := p2) (Or.inl h1))
      go_wp2_with fail
      go_ret
      exact ⟨by unfold smB; rw [G0.out]; rw [G1.out]; rw [F.out]; simp, hT.be⟩
    · by_cases h2 : l < p2
      · have F := Lib.hid (okB_f (l := l) (a := p2) (Or.inr h2))
        go_wp2_with fail
        go_ret
        exact ⟨by unfold smB; rw [G0.out]; rw [G1.out]; rw [F.out]; simp, hT.be⟩
      · have F := Lib.hid (okB_t (l := l) (a := p2) (by omega) (by omega))
        go_wp2_with fail
        go_roundw
        case rel => exact ⟨Or.inr (Or.inr ⟨rfl, G0.out, G1.out, F.out⟩), hT⟩
        case measure => simp [intOf]
  · have G := Lib.hid (show smB l p0 p1 p2 = true by unfold smB; rw [g0, g1, g2]; rfl)
    clear g0 g1 g2
    go_wp2_with fail
    go_ret
    exact ⟨by rw [G.out]; rfl, hT.be⟩
theorem wr_in {n : Int} (h1 : -9223372036854775808 ≤ n) (h2 : n ≤ 9223372036854775807) : IntKind.i64.wrap n = n := by rw [IntKind.wrap_i64]; omega
theorem sq_bdK {x : Int} (h1 : -94906268 ≤ x) (h2 : x ≤ 94906268) : 0 ≤ x * x ∧ x * x ≤ 9007199705687824 := by
  have e : (x * x).natAbs ≤ 94906268 * 94906268 := by rw [Int.natAbs_mul]; exact Nat.mul_le_mul (by omega) (by omega)
  have h : 0 ≤ x * x := by
    rcases Int.le_total 0 x with h | h
    · exact Int.mul_nonneg h h
    · have := Int.mul_nonneg (a := -x) (b := -x) (by omega) (by omega)
      rwa [Int.neg_mul_neg] at this
  omega
end Go.Proofs.Ytkjjoclbjkpdaaa
namespace Go.Proofs.Ytkjjoclbjkpdaaa
open Go.RowKit
set_option linter.unusedVariables false
theorem le_of_sq {a b : Nat} (h : a * a ≤ b * b) : a ≤ b := by
  refine Nat.le_of_not_lt fun hc => ?_
  have := Nat.mul_lt_mul'' hc hc
  omega
theorem sq3_sum (a b c : Nat) : (a + b + c) * (a + b + c) ≤ 3 * (a * a + b * b + c * c) := by
  have sq : ∀ x y : Int, 2 * (x * y) ≤ x * x + y * y := by
    intro x y
    have h : 0 ≤ (x - y) * (x - y) := by
      rcases Int.le_total 0 (x - y) with h | h
      · exact Int.mul_nonneg h h
      · have := Int.mul_nonneg (a := -(x - y)) (b := -(x - y)) (by omega) (by omega)
        rwa [Int.neg_mul_neg] at this
    have e : (x - y) * (x - y) = x * x + y * y - 2 * (x * y) := by grind
    omega
  have h1 := sq a b
  have h2 := sq a c
  have h3 := sq b c
  have e : (a + b + c) * (a + b + c) = a * a + b * b + c * c + 2 * (a * b) + 2 * (a * c) + 2 * (b * c) := by grind
  have i1 : 2 * (a * b) ≤ a * a + b * b := by exact_mod_cast h1
  have i2 : 2 * (a * c) ≤ a * a + c * c := by exact_mod_cast h2
  have i3 : 2 * (b * c) ≤ b * b + c * c := by exact_mod_cast h3
  omega
theorem odd_up (p : Nat) : 4 * (p * p) ≤ (2 * p - 1) * (2 * p - 1) + 2 * (2 * p - 1) + 1 := by
  rcases p with _ | p
  · omega
  · rw [show 2 * (p + 1) - 1 = 2 * p + 1 by omega]
    have e : 4 * ((p + 1) * (p + 1)) = (2 * p + 1) * (2 * p + 1) + 2 * (2 * p + 1) + 1 := by grind
    omega
theorem odd_dn (p : Nat) : (2 * p + 1) * (2 * p + 1) = 4 * (p * p) + 4 * p + 1 := by grind
theorem near3 (p q s d : Nat) (h1 : (2 * p - 1) * (2 * p - 1) + (2 * q - 1) * (2 * q - 1) + (2 * s - 1) * (2 * s - 1) ≤ 4 * (d * d)) (h2 : 4 * (d * d) ≤ (2 * p + 1) * (2 * p + 1) + (2 * q + 1) * (2 * q + 1) + (2 * s + 1) * (2 * s + 1)) (hd : 1 ≤ d) :
    (d - 1) * (d - 1) ≤ p * p + q * q + s * s ∧ p * p + q * q + s * s ≤ (d + 1) * (d + 1) := by
  constructor
  · obtain ⟨k, rfl⟩ : ∃ k, d = k + 1 := ⟨d - 1, by omega⟩
    rw [Nat.add_sub_cancel]
    refine Nat.le_of_not_lt fun hc => ?_
    have e1 := sq3_sum p q s
    have h4 : 4 * (p + q + s) ≤ 7 * k := by
      refine le_of_sq ?_
      have a1 : 4 * (p + q + s) * (4 * (p + q + s)) = 16 * ((p + q + s) * (p + q + s)) := by grind
      have a2 : 7 * k * (7 * k) = 49 * (k * k) := by grind
      omega
    rw [odd_dn, odd_dn, odd_dn] at h2
    have a3 : (k + 1) * (k + 1) = k * k + 2 * k + 1 := by grind
    omega
  · have u1 := odd_up p
    have u2 := odd_up q
    have u3 := odd_up s
    have e1 := sq3_sum (2 * p - 1) (2 * q - 1) (2 * s - 1)
    have h4 : 2 * ((2 * p - 1) + (2 * q - 1) + (2 * s - 1)) ≤ 7 * d := by
      generalize 2 * p - 1 = a at *
      generalize 2 * q - 1 = b at *
      generalize 2 * s - 1 = c at *
      refine le_of_sq ?_
      have a1 : 2 * (a + b + c) * (2 * (a + b + c)) = 4 * ((a + b + c) * (a + b + c)) := by grind
      have a2 : 7 * d * (7 * d) = 49 * (d * d) := by grind
      omega
    have a3 : (d + 1) * (d + 1) = d * d + 2 * d + 1 := by grind
    omega
theorem nrN_spec (x r n : Int) (hx : x.natAbs ≤ 94906268) (hr : r.natAbs ≤ 94906268) (hn : 1 ≤ n) :
    (2 * nrN x r n - 1) * (2 * nrN x r n - 1) * n.natAbs ≤ 4 * (x.natAbs * r.natAbs * (x.natAbs * r.natAbs)) ∧ 4 * (x.natAbs * r.natAbs * (x.natAbs * r.natAbs)) ≤ (2 * nrN x r n + 1) * (2 * nrN x r n + 1) * n.natAbs := by
  have hA := Nat.mul_le_mul hx hr
  have hXX := Nat.mul_le_mul hA hA
  obtain ⟨d, hd⟩ : ∃ d, n.natAbs = d := ⟨_, rfl⟩
  have hd0 : 0 < d := by omega
  have s := rtN_spec (x.natAbs * r.natAbs * (x.natAbs * r.natAbs) / d) (Nat.lt_of_le_of_lt (Nat.div_le_self _ _) (by omega))
  unfold nrN nrT
  rw [hd]
  have e4 : 2 * (x.natAbs * r.natAbs) * (2 * (x.natAbs * r.natAbs)) = 4 * (x.natAbs * r.natAbs * (x.natAbs * r.natAbs)) := by generalize x.natAbs * r.natAbs = a; grind
  rw [e4]
  generalize x.natAbs * r.natAbs * (x.natAbs * r.natAbs) = A at *
  generalize rtN (A / d) = T at *
  have s1 : T * T * d ≤ A := (Nat.le_div_iff_mul_le hd0).1 s.1
  have s2 : A < (T + 1) * (T + 1) * d := (Nat.div_lt_iff_lt_mul hd0).1 s.2
  have e1 : (2 * T + 1) * (2 * T + 1) * d = 4 * (T * T * d) + 4 * (T * d) + d := by grind
  have e2 : (T + 1) * (T + 1) * d = T * T * d + 2 * (T * d) + d := by grind
  by_cases h : mostI ((2 * T + 1) * (2 * T + 1) * d) (4 * A) (decide (x < 0)) = true
  · rw [if_pos h]
    have h' : (2 * T + 1) * (2 * T + 1) * d ≤ 4 * A := by
      unfold mostI at h
      rw [Bool.or_eq_true, Bool.and_eq_true, decide_eq_true_eq, decide_eq_true_eq] at h
      omega
    rw [show 2 * (T + 1) - 1 = 2 * T + 1 by omega]
    refine ⟨h', ?_⟩
    have e3 : (2 * (T + 1) + 1) * (2 * (T + 1) + 1) * d = 4 * (T * T * d) + 12 * (T * d) + 9 * d := by grind
    omega
  · rw [if_neg h, Nat.add_zero]
    have h' : 4 * A ≤ (2 * T + 1) * (2 * T + 1) * d := by
      unfold mostI at h
      rw [Bool.or_eq_true, Bool.and_eq_true, decide_eq_true_eq, decide_eq_true_eq] at h
      omega
    refine ⟨?_, h'⟩
    rcases T with _ | T
    · simp
    · rw [show 2 * (T + 1) - 1 = 2 * T + 1 by omega]
      have e5 : (2 * T + 1) * (2 * T + 1) * d = 4 * (T * T * d) + 4 * (T * d) + d := by grind
      have e6 : (T + 1) * (T + 1) * d = T * T * d + 2 * (T * d) + d := by grind
      omega
theorem natAbs_sq (x : Int) : ((x.natAbs * x.natAbs : Nat) : Int) = x * x := by
  rw [Int.natCast_mul]
  rcases Int.natAbs_eq x with h | h
  · rw [← h]
  · generalize (x.natAbs : Int) = k at *
    subst h; grind
/-- the rounded vector's length -/
theorem near_len (x y z r n : Int) (hx : x.natAbs ≤ 94906268) (hy : y.natAbs ≤ 94906268) (hz : z.natAbs ≤ 94906268) (hr : 1 ≤ r) (hr2 : r ≤ 94906268) (hn : 1 ≤ n) (he : n = x * x + y * y + z * z) :
    (r - 1) * (r - 1) ≤ nrI x r n * nrI x r n + nrI y r n * nrI y r n + nrI z r n * nrI z r n ∧ nrI x r n * nrI x r n + nrI y r n * nrI y r n + nrI z r n * nrI z r n ≤ (r + 1) * (r + 1) := by
  have sx := nrN_spec x r n hx (by omega) hn
  have sy := nrN_spec y r n hy (by omega) hn
  have sz := nrN_spec z r n hz (by omega) hn
  have sq : ∀ v, nrI v r n * nrI v r n = ((nrN v r n * nrN v r n : Nat) : Int) := by
    intro v; unfold nrI; rw [Int.natCast_mul]; split <;> grind
  rw [sq, sq, sq]
  generalize nrN x r n = p at *
  generalize nrN y r n = q at *
  generalize nrN z r n = s at *
  obtain ⟨R, rfl⟩ := Int.eq_ofNat_of_zero_le (show 0 ≤ r by omega)
  obtain ⟨d, rfl⟩ := Int.eq_ofNat_of_zero_le (show 0 ≤ n by omega)
  rw [Int.natAbs_natCast, Int.natAbs_natCast] at sx sy sz
  have hd0 : 0 < d := by omega
  have e : d = x.natAbs * x.natAbs + y.natAbs * y.natAbs + z.natAbs * z.natAbs := by
    have := natAbs_sq x; have := natAbs_sq y; have := natAbs_sq z
    omega
  generalize x.natAbs = X at *
  generalize y.natAbs = Y at *
  generalize z.natAbs = Z at *
  have es : X * R * (X * R) + Y * R * (Y * R) + Z * R * (Z * R) = R * R * d := by rw [e]; grind
  have k := near3 p q s R (by
    refine Nat.le_of_mul_le_mul_right (c := d) ?_ hd0
    rw [Nat.add_mul, Nat.add_mul, Nat.mul_assoc 4]
    omega) (by
    refine Nat.le_of_mul_le_mul_right (c := d) ?_ hd0
    rw [Nat.add_mul, Nat.add_mul, Nat.mul_assoc 4]
    omega) (by omega)
  obtain ⟨K, rfl⟩ : ∃ K, R = K + 1 := ⟨R - 1, by omega⟩
  have c1 : (((K + 1 : Nat) : Int) - 1) * (((K + 1 : Nat) : Int) - 1) = ((K * K : Nat) : Int) := by rw [Int.natCast_add, Int.natCast_one, Int.add_sub_cancel, Int.natCast_mul]
  have c2 : (((K + 1 : Nat) : Int) + 1) * (((K + 1 : Nat) : Int) + 1) = (((K + 1 + 1) * (K + 1 + 1) : Nat) : Int) := by rw [Int.natCast_mul]; rfl
  rw [Nat.add_sub_cancel] at k
  rw [c1, c2]
  omega
end Go.Proofs.Ytkjjoclbjkpdaaa
namespace Go.Proofs.Ytkjjoclbjkpdaaa
open Go.RowKit
set_option linter.unusedVariables false
set_option linter.unusedSimpArgs false
@[go_sem] theorem eqPoint (a b c x y z : Int) (w : World) : (Op.equalIn 10000 47 (.agg #[.int .i64 a, .int .i64 b, .int .i64 c]) (.agg #[.int .i64 x, .int .i64 y, .int .i64 z])).run Try.prog w = .ok (a == x && b == y && c == z) w := by
  have u3 := Try.underlying3
  have uP : Try.prog.underlying 47 = some (.array 3 3) := by kernel_rfl
  have a3 := Try.isAgg3
  have z3 := Try.sizeOf3
  rw [show (10000 : Nat) = 9999 + 1 from rfl, Op.equalIn]
  simp only [Sem.run_bind, run_underlying uP, Result.andThen_ok]
  simp only [Std.Legacy.Range.forIn_eq_forIn_range', Std.Legacy.Range.size, Nat.sub_zero, Nat.add_sub_cancel, Nat.div_one, List.range'_succ, List.range'_zero, List.forIn_cons, List.forIn_nil]
  go_simp
  by_cases h1 : a = x <;> by_cases h2 : b = y <;> by_cases h3 : c = z <;> simp [h1, h2, h3]
end Go.Proofs.Ytkjjoclbjkpdaaa
namespace Go.Proofs.Ytkjjoclbjkpdaaa
open Go.RowKit
set_option linter.unusedVariables false
set_option linter.unusedSimpArgs false
theorem axes_17 (w : World)  : Calls Try.prog 43 #[.int .i64 17] w fun e w' => e = .returned (.tuple #[.int .i64 0, .int .i64 1, .int .i64 2, .bool true]) ∧ w = w' := by
  go_enter Try.func43, Try.ntmps43
  go_wp2_with fail
  exact bodyPost_ret (v := .tuple #[.int .i64 0, .int .i64 1, .int .i64 2, .bool true]) (by simp [results, Try.results43, go_sem]) rfl ⟨rfl, rfl⟩
set_option maxHeartbeats 1000000 in
theorem planeP_17 (p0 p1 p2 : Int) (w : World)  : Calls Try.prog 38 #[.agg #[.int .i64 p0, .int .i64 p1, .int .i64 p2], .int .i64 17] w fun e w' => e = .returned (.tuple #[.int .i64 p0, .int .i64 p1, .int .i64 p2]) ∧ Below w.heap.size w w' := by
  have hT : Lay w.heap.size (w.heap.size + 1) [(⟨w.heap.size, 0, none⟩, .int .i64 p0), (⟨w.heap.size, 1, none⟩, .int .i64 p1), (⟨w.heap.size, 2, none⟩, .int .i64 p2)] w (w.alloc (.cells #[.int .i64 p0, .int .i64 p1, .int .i64 p2] 47)) := by (refine ⟨by simp [List.forall_mem_cons, go_sem], by simp [List.forall_mem_cons] <;> omega, by simp, by (repeat (first | exact Below.refl _ _ | assumption | refine Below.drew ?_ | (refine Below.alloc ?_ (by simp <;> omega) _) | (refine Below.setCell ?_ (by simp <;> omega) _))), by omega⟩)
  have AX := fun w => Lib.hid (axes_17 w )
  go_enter Try.func38, Try.ntmps38
  go_wp2_with fail
  refine (AX _).out.mono ?_
  rintro e w' ⟨rfl, rfl⟩
  go_wp2_with fail
  go_upto_region 4 with fail
  (refine wp_region_class (Lay w.heap.size (w.heap.size + 1) _ w) (hT.next (Below.refl _ _).drew) (by kernel_rfl) (by kernel_rfl) ?_; repeat (refine wpQuiet_step (fun qK9 qH9 => ?_); go_simp; first | (refine qH9 _ ?_; clear qH9 qK9) | (apply Exists.intro; refine ⟨?_, qH9 _ ?_⟩; (first | (intros; rfl) | ((intro wx hC; ((have qk9 := Lay.cells hC; simp only [List.forall_mem_cons, List.not_mem_nil, false_implies, implies_true, and_true] at qk9; repeat (obtain ⟨qk8, qk9⟩ := qk9)); go_simp; first | done | rfl)))); clear qH9 qK9)))
  refine wpQuiet_nil ?_
  intro wy hT
  go_wp2_with fail
  go_ret3
  exact ⟨rfl, hT.be⟩
set_option maxHeartbeats 1000000 in
theorem planeR_17 (p0 p1 p2 : Int) (w : World)  : Calls Try.prog 40 #[.agg #[.int .i64 p0, .int .i64 p1, .int .i64 p2], .int .i64 17] w fun e w' => e = .returned (.tuple #[.int .i64 p0, .int .i64 p1, .int .i64 p2]) ∧ Below w.heap.size w w' := by
  have hT : Lay w.heap.size (w.heap.size + 1) [(⟨w.heap.size, 0, none⟩, .int .i64 p0), (⟨w.heap.size, 1, none⟩, .int .i64 p1), (⟨w.heap.size, 2, none⟩, .int .i64 p2)] w (w.alloc (.cells #[.int .i64 p0, .int .i64 p1, .int .i64 p2] 47)) := by (refine ⟨by simp [List.forall_mem_cons, go_sem], by simp [List.forall_mem_cons] <;> omega, by simp, by (repeat (first | exact Below.refl _ _ | assumption | refine Below.drew ?_ | (refine Below.alloc ?_ (by simp <;> omega) _) | (refine Below.setCell ?_ (by simp <;> omega) _))), by omega⟩)
  go_enter Try.func40, Try.ntmps40
  go_upto_region 3 with fail
  (refine wp_region_class (Lay w.heap.size (w.heap.size + 1) _ w) (hT.next (Below.refl _ _).drew) (by kernel_rfl) (by kernel_rfl) ?_; repeat (refine wpQuiet_step (fun qK9 qH9 => ?_); go_simp; first | (refine qH9 _ ?_; clear qH9 qK9) | (apply Exists.intro; refine ⟨?_, qH9 _ ?_⟩; (first | (intros; rfl) | ((intro wx hC; ((have qk9 := Lay.cells hC; simp only [List.forall_mem_cons, List.not_mem_nil, false_implies, implies_true, and_true] at qk9; repeat (obtain ⟨qk8, qk9⟩ := qk9)); go_simp; first | done | rfl)))); clear qH9 qK9)))
  refine wpQuiet_nil ?_
  intro wy hT
  go_wp2_with fail
  go_ret3
  exact ⟨rfl, hT.be⟩
set_option maxHeartbeats 1000000 in
theorem spaceP_17 (u v h : Int) (w : World)  : Calls Try.prog 39 #[.int .i64 u, .int .i64 v, .int .i64 h, .int .i64 17] w fun e w' => e = .returned (.agg #[.int .i64 u, .int .i64 v, .int .i64 h]) ∧ Below w.heap.size w w' := by
  have AX := fun w => Lib.hid (axes_17 w )
  go_enter Try.func39, Try.ntmps39
  go_wp2_with fail
  refine (AX _).out.mono ?_
  rintro e w' ⟨rfl, rfl⟩
  go_wp2_with fail
  refine bodyPost_ret (v := .agg #[.int .i64 u, .int .i64 v, .int .i64 h]) (by simp [results, Try.results39, go_sem]) rfl ⟨rfl, ?_⟩
  (repeat (first | exact Below.refl _ _ | assumption | refine Below.drew ?_ | (refine Below.alloc ?_ (by simp <;> omega) _) | (refine Below.setCell ?_ (by simp <;> omega) _)))
set_option maxHeartbeats 1000000 in
theorem spaceR_17 (u v h : Int) (w : World)  : Calls Try.prog 41 #[.int .i64 u, .int .i64 v, .int .i64 h, .int .i64 17] w fun e w' => e = .returned (.agg #[.int .i64 u, .int .i64 v, .int .i64 h]) ∧ Below w.heap.size w w' := by
  go_enter Try.func41, Try.ntmps41
  go_wp2_with fail
  refine bodyPost_ret (v := .agg #[.int .i64 u, .int .i64 v, .int .i64 h]) (by simp [results, Try.results41, go_sem]) rfl ⟨rfl, ?_⟩
  (repeat (first | exact Below.refl _ _ | assumption | refine Below.drew ?_ | (refine Below.alloc ?_ (by simp <;> omega) _) | (refine Below.setCell ?_ (by simp <;> omega) _)))
theorem axes_18 (w : World)  : Calls Try.prog 43 #[.int .i64 18] w fun e w' => e = .returned (.tuple #[.int .i64 2, .int .i64 0, .int .i64 1, .bool true]) ∧ w = w' := by
  go_enter Try.func43, Try.ntmps43
  go_wp2_with fail
  exact bodyPost_ret (v := .tuple #[.int .i64 2, .int .i64 0, .int .i64 1, .bool true]) (by simp [results, Try.results43, go_sem]) rfl ⟨rfl, rfl⟩
set_option maxHeartbeats 1000000 in
theorem planeP_18 (p0 p1 p2 : Int) (w : World)  : Calls Try.prog 38 #[.agg #[.int .i64 p0, .int .i64 p1, .int .i64 p2], .int .i64 18] w fun e w' => e = .returned (.tuple #[.int .i64 p2, .int .i64 p0, .int .i64 p1]) ∧ Below w.heap.size w w' := by
  have hT : Lay w.heap.size (w.heap.size + 1) [(⟨w.heap.size, 0, none⟩, .int .i64 p0), (⟨w.heap.size, 1, none⟩, .int .i64 p1), (⟨w.heap.size, 2, none⟩, .int .i64 p2)] w (w.alloc (.cells #[.int .i64 p0, .int .i64 p1, .int .i64 p2] 47)) := by (refine ⟨by simp [List.forall_mem_cons, go_sem], by simp [List.forall_mem_cons] <;> omega, by simp, by (repeat (first | exact Below.refl _ _ | assumption | refine Below.drew ?_ | (refine Below.alloc ?_ (by simp <;> omega) _) | (refine Below.setCell ?_ (by simp <;> omega) _))), by omega⟩)
  have AX := fun w => Lib.hid (axes_18 w )
  go_enter Try.func38, Try.ntmps38
  go_wp2_with fail
  refine (AX _).out.mono ?_
  rintro e w' ⟨rfl, rfl⟩
  go_wp2_with fail
  go_upto_region 4 with fail
  (refine wp_region_class (Lay w.heap.size (w.heap.size + 1) _ w) (hT.next (Below.refl _ _).drew) (by kernel_rfl) (by kernel_rfl) ?_; repeat (refine wpQuiet_step (fun qK9 qH9 => ?_); go_simp; first | (refine qH9 _ ?_; clear qH9 qK9) | (apply Exists.intro; refine ⟨?_, qH9 _ ?_⟩; (first | (intros; rfl) | ((intro wx hC; ((have qk9 := Lay.cells hC; simp only [List.forall_mem_cons, List.not_mem_nil, false_implies, implies_true, and_true] at qk9; repeat (obtain ⟨qk8, qk9⟩ := qk9)); go_simp; first | done | rfl)))); clear qH9 qK9)))
  refine wpQuiet_nil ?_
  intro wy hT
  go_wp2_with fail
  go_ret3
  exact ⟨rfl, hT.be⟩
set_option maxHeartbeats 1000000 in
theorem planeR_18 (p0 p1 p2 : Int) (w : World)  : Calls Try.prog 40 #[.agg #[.int .i64 p0, .int .i64 p1, .int .i64 p2], .int .i64 18] w fun e w' => e = .returned (.tuple #[.int .i64 p2, .int .i64 p0, .int .i64 p1]) ∧ Below w.heap.size w w' := by
  have hT : Lay w.heap.size (w.heap.size + 1) [(⟨w.heap.size, 0, none⟩, .int .i64 p0), (⟨w.heap.size, 1, none⟩, .int .i64 p1), (⟨w.heap.size, 2, none⟩, .int .i64 p2)] w (w.alloc (.cells #[.int .i64 p0, .int .i64 p1, .int .i64 p2] 47)) := by (refine ⟨by simp [List.forall_mem_cons, go_sem], by simp [List.forall_mem_cons] <;> omega, by simp, by (repeat (first | exact Below.refl _ _ | assumption | refine Below.drew ?_ | (refine Below.alloc ?_ (by simp <;> omega) _) | (refine Below.setCell ?_ (by simp <;> omega) _))), by omega⟩)
  go_enter Try.func40, Try.ntmps40
  go_upto_region 5 with fail
  (refine wp_region_class (Lay w.heap.size (w.heap.size + 1) _ w) (hT.next (Below.refl _ _).drew) (by kernel_rfl) (by kernel_rfl) ?_; repeat (refine wpQuiet_step (fun qK9 qH9 => ?_); go_simp; first | (refine qH9 _ ?_; clear qH9 qK9) | (apply Exists.intro; refine ⟨?_, qH9 _ ?_⟩; (first | (intros; rfl) | ((intro wx hC; ((have qk9 := Lay.cells hC; simp only [List.forall_mem_cons, List.not_mem_nil, false_implies, implies_true, and_true] at qk9; repeat (obtain ⟨qk8, qk9⟩ := qk9)); go_simp; first | done | rfl)))); clear qH9 qK9)))
  refine wpQuiet_nil ?_
  intro wy hT
  go_wp2_with fail
  go_ret3
  exact ⟨rfl, hT.be⟩
set_option maxHeartbeats 1000000 in
theorem spaceP_18 (u v h : Int) (w : World)  : Calls Try.prog 39 #[.int .i64 u, .int .i64 v, .int .i64 h, .int .i64 18] w fun e w' => e = .returned (.agg #[.int .i64 v, .int .i64 h, .int .i64 u]) ∧ Below w.heap.size w w' := by
  have AX := fun w => Lib.hid (axes_18 w )
  go_enter Try.func39, Try.ntmps39
  go_wp2_with fail
  refine (AX _).out.mono ?_
  rintro e w' ⟨rfl, rfl⟩
  go_wp2_with fail
  refine bodyPost_ret (v := .agg #[.int .i64 v, .int .i64 h, .int .i64 u]) (by simp [results, Try.results39, go_sem]) rfl ⟨rfl, ?_⟩
  (repeat (first | exact Below.refl _ _ | assumption | refine Below.drew ?_ | (refine Below.alloc ?_ (by simp <;> omega) _) | (refine Below.setCell ?_ (by simp <;> omega) _)))
set_option maxHeartbeats 1000000 in
theorem spaceR_18 (u v h : Int) (w : World)  : Calls Try.prog 41 #[.int .i64 u, .int .i64 v, .int .i64 h, .int .i64 18] w fun e w' => e = .returned (.agg #[.int .i64 v, .int .i64 h, .int .i64 u]) ∧ Below w.heap.size w w' := by
  go_enter Try.func41, Try.ntmps41
  go_wp2_with fail
  refine bodyPost_ret (v := .agg #[.int .i64 v, .int .i64 h, .int .i64 u]) (by simp [results, Try.results41, go_sem]) rfl ⟨rfl, ?_⟩
  (repeat (first | exact Below.refl _ _ | assumption | refine Below.drew ?_ | (refine Below.alloc ?_ (by simp <;> omega) _) | (refine Below.setCell ?_ (by simp <;> omega) _)))
theorem axes_19 (w : World)  : Calls Try.prog 43 #[.int .i64 19] w fun e w' => e = .returned (.tuple #[.int .i64 1, .int .i64 2, .int .i64 0, .bool true]) ∧ w = w' := by
  go_enter Try.func43, Try.ntmps43
  go_wp2_with fail
  exact bodyPost_ret (v := .tuple #[.int .i64 1, .int .i64 2, .int .i64 0, .bool true]) (by simp [results, Try.results43, go_sem]) rfl ⟨rfl, rfl⟩
set_option maxHeartbeats 1000000 in
theorem planeP_19 (p0 p1 p2 : Int) (w : World)  : Calls Try.prog 38 #[.agg #[.int .i64 p0, .int .i64 p1, .int .i64 p2], .int .i64 19] w fun e w' => e = .returned (.tuple #[.int .i64 p1, .int .i64 p2, .int .i64 p0]) ∧ Below w.heap.size w w' := by
  have hT : Lay w.heap.size (w.heap.size + 1) [(⟨w.heap.size, 0, none⟩, .int .i64 p0), (⟨w.heap.size, 1, none⟩, .int .i64 p1), (⟨w.heap.size, 2, none⟩, .int .i64 p2)] w (w.alloc (.cells #[.int .i64 p0, .int .i64 p1, .int .i64 p2] 47)) := by (refine ⟨by simp [List.forall_mem_cons, go_sem], by simp [List.forall_mem_cons] <;> omega, by simp, by (repeat (first | exact Below.refl _ _ | assumption | refine Below.drew ?_ | (refine Below.alloc ?_ (by simp <;> omega) _) | (refine Below.setCell ?_ (by simp <;> omega) _))), by omega⟩)
  have AX := fun w => Lib.hid (axes_19 w )
  go_enter Try.func38, Try.ntmps38
  go_wp2_with fail
  refine (AX _).out.mono ?_
  rintro e w' ⟨rfl, rfl⟩
  go_wp2_with fail
  go_upto_region 4 with fail
  (refine wp_region_class (Lay w.heap.size (w.heap.size + 1) _ w) (hT.next (Below.refl _ _).drew) (by kernel_rfl) (by kernel_rfl) ?_; repeat (refine wpQuiet_step (fun qK9 qH9 => ?_); go_simp; first | (refine qH9 _ ?_; clear qH9 qK9) | (apply Exists.intro; refine ⟨?_, qH9 _ ?_⟩; (first | (intros; rfl) | ((intro wx hC; ((have qk9 := Lay.cells hC; simp only [List.forall_mem_cons, List.not_mem_nil, false_implies, implies_true, and_true] at qk9; repeat (obtain ⟨qk8, qk9⟩ := qk9)); go_simp; first | done | rfl)))); clear qH9 qK9)))
  refine wpQuiet_nil ?_
  intro wy hT
  go_wp2_with fail
  go_ret3
  exact ⟨rfl, hT.be⟩
set_option maxHeartbeats 1000000 in
theorem planeR_19 (p0 p1 p2 : Int) (w : World)  : Calls Try.prog 40 #[.agg #[.int .i64 p0, .int .i64 p1, .int .i64 p2], .int .i64 19] w fun e w' => e = .returned (.tuple #[.int .i64 p1, .int .i64 p2, .int .i64 p0]) ∧ Below w.heap.size w w' := by
  have hT : Lay w.heap.size (w.heap.size + 1) [(⟨w.heap.size, 0, none⟩, .int .i64 p0), (⟨w.heap.size, 1, none⟩, .int .i64 p1), (⟨w.heap.size, 2, none⟩, .int .i64 p2)] w (w.alloc (.cells #[.int .i64 p0, .int .i64 p1, .int .i64 p2] 47)) := by (refine ⟨by simp [List.forall_mem_cons, go_sem], by simp [List.forall_mem_cons] <;> omega, by simp, by (repeat (first | exact Below.refl _ _ | assumption | refine Below.drew ?_ | (refine Below.alloc ?_ (by simp <;> omega) _) | (refine Below.setCell ?_ (by simp <;> omega) _))), by omega⟩)
  go_enter Try.func40, Try.ntmps40
  go_upto_region 7 with fail
  (refine wp_region_class (Lay w.heap.size (w.heap.size + 1) _ w) (hT.next (Below.refl _ _).drew) (by kernel_rfl) (by kernel_rfl) ?_; repeat (refine wpQuiet_step (fun qK9 qH9 => ?_); go_simp; first | (refine qH9 _ ?_; clear qH9 qK9) | (apply Exists.intro; refine ⟨?_, qH9 _ ?_⟩; (first | (intros; rfl) | ((intro wx hC; ((have qk9 := Lay.cells hC; simp only [List.forall_mem_cons, List.not_mem_nil, false_implies, implies_true, and_true] at qk9; repeat (obtain ⟨qk8, qk9⟩ := qk9)); go_simp; first | done | rfl)))); clear qH9 qK9)))
  refine wpQuiet_nil ?_
  intro wy hT
  go_wp2_with fail
  go_ret3
  exact ⟨rfl, hT.be⟩
set_option maxHeartbeats 1000000 in
theorem spaceP_19 (u v h : Int) (w : World)  : Calls Try.prog 39 #[.int .i64 u, .int .i64 v, .int .i64 h, .int .i64 19] w fun e w' => e = .returned (.agg #[.int .i64 h, .int .i64 u, .int .i64 v]) ∧ Below w.heap.size w w' := by
  have AX := fun w => Lib.hid (axes_19 w )
  go_enter Try.func39, Try.ntmps39
  go_wp2_with fail
  refine (AX _).out.mono ?_
  rintro e w' ⟨rfl, rfl⟩
  go_wp2_with fail
  refine bodyPost_ret (v := .agg #[.int .i64 h, .int .i64 u, .int .i64 v]) (by simp [results, Try.results39, go_sem]) rfl ⟨rfl, ?_⟩
  (repeat (first | exact Below.refl _ _ | assumption | refine Below.drew ?_ | (refine Below.alloc ?_ (by simp <;> omega) _) | (refine Below.setCell ?_ (by simp <;> omega) _)))
set_option maxHeartbeats 1000000 in
theorem spaceR_19 (u v h : Int) (w : World)  : Calls Try.prog 41 #[.int .i64 u, .int .i64 v, .int .i64 h, .int .i64 19] w fun e w' => e = .returned (.agg #[.int .i64 h, .int .i64 u, .int .i64 v]) ∧ Below w.heap.size w w' := by
  go_enter Try.func41, Try.ntmps41
  go_wp2_with fail
  refine bodyPost_ret (v := .agg #[.int .i64 h, .int .i64 u, .int .i64 v]) (by simp [results, Try.results41, go_sem]) rfl ⟨rfl, ?_⟩
  (repeat (first | exact Below.refl _ _ | assumption | refine Below.drew ?_ | (refine Below.alloc ?_ (by simp <;> omega) _) | (refine Below.setCell ?_ (by simp <;> omega) _)))
theorem axes_no (k : Int) (w : World) (h17 : k ≠ 17) (h18 : k ≠ 18) (h19 : k ≠ 19) : Calls Try.prog 43 #[.int .i64 k] w fun e w' => e = .returned (.tuple #[.int .i64 0, .int .i64 0, .int .i64 0, .bool false]) ∧ w = w' := by
  go_enter Try.func43, Try.ntmps43
  go_wp2_with fail
  exact bodyPost_ret (v := .tuple #[.int .i64 0, .int .i64 0, .int .i64 0, .bool false]) (by simp [results, Try.results43, go_sem]) rfl ⟨rfl, rfl⟩
end Go.Proofs.Ytkjjoclbjkpdaaa
