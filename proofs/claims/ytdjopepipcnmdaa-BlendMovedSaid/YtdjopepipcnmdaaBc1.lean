/- Proved here: points that come by value: the reference's small, Small and Square, the program's Length; ranges as stated. -/
import Derived.Test.YtdjopepipcnmdaaYo3
import Derived.Test.YtdjopepipcnmdaaLf
namespace Go.Proofs.Ytdjopepipcnmdaa
open Go.RowKit
set_option linter.unusedVariables false
set_option linter.unusedSimpArgs false
def okB (l a : Int) : Bool := !decide (a < -l) && !decide (a > l)
def smB (l a b c : Int) : Bool := okB l a && (okB l b && okB l c)
theorem okB_t {l a : Int} (h1 : -l ≤ a) (h2 : a ≤ l) : okB l a = true := by unfold okB; rw [decide_eq_false (by omega), decide_eq_false (by omega)]; rfl
theorem okB_f {l a : Int} (h : a < -l ∨ l < a) : okB l a = false := by
  unfold okB
  rcases h with h | h
  · rw [decide_eq_true h]; rfl
  · rw [decide_eq_true (show a > l from h)]; simp
theorem okB_iff {l a : Int} : okB l a = true ↔ -l ≤ a ∧ a ≤ l := by
  constructor
  · intro h
    refine Classical.byContradiction fun g => ?_
    rw [okB_f (by omega)] at h; cases h
  · intro h; exact okB_t h.1 h.2
theorem smB_iff {l a b c : Int} : smB l a b c = true ↔ (-l ≤ a ∧ a ≤ l) ∧ (-l ≤ b ∧ b ≤ l) ∧ (-l ≤ c ∧ c ≤ l) := by
  unfold smB; rw [Bool.and_eq_true, Bool.and_eq_true, okB_iff, okB_iff, okB_iff]
set_option maxHeartbeats 2000000 in
set_option maxRecDepth 20000 in
theorem small_any (p0 p1 p2 l : Int) (w : World) (l0 : 0 ≤ l) (l1 : l ≤ 1000000000) :
    Calls Try.prog 29 #[.agg #[.int .i64 p0, .int .i64 p1, .int .i64 p2], .int .i64 l] w fun e w' => e = .returned (.bool (smB l p0 p1 p2)) ∧ Below w.heap.size w w' := by
  go_enter Try.func29, Try.ntmps29
  go_wp2_with fail
  go_loopw [6] (fun t wr => ((t = .int .i64 0 ∨ (t = .int .i64 1 ∧ okB l p0 = true)) ∨ ((t = .int .i64 2 ∧ okB l p0 = true ∧ okB l p1 = true) ∨ (t = .int .i64 3 ∧ okB l p0 = true ∧ okB l p1 = true ∧ okB l p2 = true))) ∧ Lay w.heap.size (w.heap.size + 1) [(⟨w.heap.size, 0, none⟩, .int .i64 p0), (⟨w.heap.size, 1, none⟩, .int .i64 p1), (⟨w.heap.size, 2, none⟩, .int .i64 p2)] w wr) (fun t _ => 3 - (intOf t).toNat)
  case atStart => exact ⟨Or.inl (Or.inl rfl), by (refine ⟨by simp [List.forall_mem_cons, go_sem], by simp [List.forall_mem_cons] <;> omega, by simp, by (repeat (first | exact Below.refl _ _ | assumption | refine Below.drew ?_ | (refine Below.alloc ?_ (by simp <;> omega) _) | (refine Below.setCell ?_ (by simp <;> omega) _))), by omega⟩)⟩
  case round =>
  obtain ⟨hd, hT⟩ := hrel
  rcases hd with (rfl | ⟨rfl, g0⟩) | (⟨rfl, g0, g1⟩ | ⟨rfl, g0, g1, g2⟩)
  · (have qk9 := Lay.cells hT; simp only [List.forall_mem_cons, List.not_mem_nil, false_implies, implies_true, and_true] at qk9; repeat (obtain ⟨qk8, qk9⟩ := qk9))
    by_cases h1 : p0 < -l
    · have F := Lib.hid (okB_f (l := l) (a := p0) (Or.inl h1))
      go_wp2_with fail
      go_ret
      exact ⟨by unfold smB; rw [F.out]; simp, hT.be⟩
    · by_cases h2 : l < p0
      · have F := Lib.hid (okB_f (l := l) (a := p0) (Or.inr h2))
        go_wp2_with fail
        go_ret
        exact ⟨by unfold smB; rw [F.out]; simp, hT.be⟩
      · have F := Lib.hid (okB_t (l := l) (a := p0) (by omega) (by omega))
        go_wp2_with fail
        go_roundw
        case rel => exact ⟨Or.inl (Or.inr ⟨rfl, F.out⟩), hT⟩
        case measure => simp [intOf]
  · (have qk9 := Lay.cells hT; simp only [List.forall_mem_cons, List.not_mem_nil, false_implies, implies_true, and_true] at qk9; repeat (obtain ⟨qk8, qk9⟩ := qk9))
    have G0 := Lib.hid g0
    clear g0
    by_cases h1 : p1 < -l
    · have F := Lib.hid (okB_f (l := l) (a := p1) (Or.inl h1))
      go_wp2_with fail
      go_ret
      exact ⟨by unfold smB; rw [G0.out]; rw [F.out]; simp, hT.be⟩
    · by_cases h2 : l < p1
      · have F := Lib.hid (okB_f (l := l) (a := p1) (Or.inr h2))
        go_wp2_with fail
        go_ret
        exact ⟨by unfold smB; rw [G0.out]; rw [F.out]; simp, hT.be⟩
      · have F := Lib.hid (okB_t (l := l) (a := p1) (by omega) (by omega))
        go_wp2_with fail
        go_roundw
        case rel => exact ⟨Or.inr (Or.inl ⟨rfl, G0.out, F.out⟩), hT⟩
        case measure => simp [intOf]
  · (have qk9 := Lay.cells hT; simp only [List.forall_mem_cons, List.not_mem_nil, false_implies, implies_true, and_true] at qk9; repeat (obtain ⟨qk8, qk9⟩ := qk9))
    have G0 := Lib.hid g0
    have G1 := Lib.hid g1
    clear g0 g1
    by_cases h1 : p2 < -l
    · have F := Lib.hid (okB_f (l := l) (a := p2) (Or.inl h1))
      go_wp2_with fail
      go_ret
      exact ⟨by unfold smB; rw [G0.out]; rw [G1.out]; rw [F.out]; simp, hT.be⟩
    · by_cases h2 : l < p2
      · have F := Lib.hid (okB_f (l := l) (a := p2) (Or.inr h2))
        go_wp2_with fail
        go_ret
        exact ⟨by unfold smB; rw [G0.out]; rw [G1.out]; rw [F.out]; simp, hT.be⟩
      · have F := Lib.hid (okB_t (l := l) (a := p2) (by omega) (by omega))
        go_wp2_with fail
        go_roundw
        case rel => exact ⟨Or.inr (Or.inr ⟨rfl, G0.out, G1.out, F.out⟩), hT⟩
        case measure => simp [intOf]
  · have G := Lib.hid (show smB l p0 p1 p2 = true by unfold smB; rw [g0, g1, g2]; rfl)
    clear g0 g1 g2
    go_wp2_with fail
    go_ret
    exact ⟨by rw [G.out]; rfl, hT.be⟩
set_option maxHeartbeats 1000000 in
theorem Small_any (p0 p1 p2 : Int) (w : World) :
    Calls Try.prog 13 #[.agg #[.int .i64 p0, .int .i64 p1, .int .i64 p2]] w fun e w' => e = .returned (.bool (smB 33554432 p0 p1 p2)) ∧ Below w.heap.size w w' := by
  have S := fun w => Lib.hid (small_any p0 p1 p2 33554432 w (by omega) (by omega))
  generalize smB 33554432 p0 p1 p2 = r at *
  go_enter Try.func13, Try.ntmps13
  go_wp2_with fail
  refine (S _).out.mono ?_
  rintro e w1 ⟨rfl, hb1⟩
  go_wp2_with fail
  go_ret
  exact ⟨rfl, ((Below.refl _ _).alloc (Nat.le_refl _) _).trans (hb1.mono (by simp))⟩
/-- the squared distance -/
def sqD (a0 a1 a2 b0 b1 b2 : Int) : Int := (a0 - b0) * (a0 - b0) + (a1 - b1) * (a1 - b1) + (a2 - b2) * (a2 - b2)
theorem wr_in {n : Int} (h1 : -9223372036854775808 ≤ n) (h2 : n ≤ 9223372036854775807) : IntKind.i64.wrap n = n := by rw [IntKind.wrap_i64]; omega
theorem sq_bdK {x : Int} (h1 : -67108864 ≤ x) (h2 : x ≤ 67108864) : 0 ≤ x * x ∧ x * x ≤ 4503599627370496 := by
  have e : (x * x).natAbs ≤ 67108864 * 67108864 := by rw [Int.natAbs_mul]; exact Nat.mul_le_mul (by omega) (by omega)
  have h : 0 ≤ x * x := by
    rcases Int.le_total 0 x with h | h
    · exact Int.mul_nonneg h h
    · have := Int.mul_nonneg (a := -x) (b := -x) (by omega) (by omega)
      rwa [Int.neg_mul_neg] at this
  omega
set_option maxHeartbeats 4000000 in
set_option maxRecDepth 20000 in
theorem square_any (a0 a1 a2 b0 b1 b2 : Int) (w : World) (h0 : -67108864 ≤ a0 - b0 ∧ a0 - b0 ≤ 67108864) (h1 : -67108864 ≤ a1 - b1 ∧ a1 - b1 ≤ 67108864) (h2 : -67108864 ≤ a2 - b2 ∧ a2 - b2 ≤ 67108864) :
    Calls Try.prog 16 #[.agg #[.int .i64 a0, .int .i64 a1, .int .i64 a2], .agg #[.int .i64 b0, .int .i64 b1, .int .i64 b2]] w fun e w' => e = .returned (.int .i64 (sqD a0 a1 a2 b0 b1 b2)) ∧ Below w.heap.size w w' := by
  obtain ⟨m0, n0⟩ := sq_bdK h0.1 h0.2
  obtain ⟨m1, n1⟩ := sq_bdK h1.1 h1.2
  obtain ⟨m2, n2⟩ := sq_bdK h2.1 h2.2
  obtain ⟨l0, u0⟩ := h0
  obtain ⟨l1, u1⟩ := h1
  obtain ⟨l2, u2⟩ := h2
  have HS : Hid (sqD a0 a1 a2 b0 b1 b2 = (a0 - b0) * (a0 - b0) + (a1 - b1) * (a1 - b1) + (a2 - b2) * (a2 - b2)) := rfl
  have E0 := Lib.hid (wr_in (n := a0 - b0) (by omega) (by omega))
  have E1 := Lib.hid (wr_in (n := a1 - b1) (by omega) (by omega))
  have E2 := Lib.hid (wr_in (n := a2 - b2) (by omega) (by omega))
  have P0 := Lib.hid (wr_in (n := (a0 - b0) * (a0 - b0)) (by omega) (by omega))
  have P1 := Lib.hid (wr_in (n := (a1 - b1) * (a1 - b1)) (by omega) (by omega))
  have P2 := Lib.hid (wr_in (n := (a2 - b2) * (a2 - b2)) (by omega) (by omega))
  have T1 := Lib.hid (wr_in (n := (a0 - b0) * (a0 - b0) + (a1 - b1) * (a1 - b1)) (by omega) (by omega))
  have T2 := Lib.hid (wr_in (n := (a0 - b0) * (a0 - b0) + (a1 - b1) * (a1 - b1) + (a2 - b2) * (a2 - b2)) (by omega) (by omega))
  generalize sqD a0 a1 a2 b0 b1 b2 = D at *
  go_enter Try.func16, Try.ntmps16
  go_wp2_with fail
  go_loopw [5, 7] (fun s t wr => (((t = .int .i64 0 ∧ s = .int .i64 0) ∨ (t = .int .i64 1 ∧ s = .int .i64 ((a0 - b0) * (a0 - b0)))) ∨ ((t = .int .i64 2 ∧ s = .int .i64 ((a0 - b0) * (a0 - b0) + (a1 - b1) * (a1 - b1))) ∨ (t = .int .i64 3 ∧ s = .int .i64 ((a0 - b0) * (a0 - b0) + (a1 - b1) * (a1 - b1) + (a2 - b2) * (a2 - b2))))) ∧ Lay w.heap.size (w.heap.size + 2) [(⟨w.heap.size, 0, none⟩, .int .i64 a0), (⟨w.heap.size, 1, none⟩, .int .i64 a1), (⟨w.heap.size, 2, none⟩, .int .i64 a2), (⟨w.heap.size + 1, 0, none⟩, .int .i64 b0), (⟨w.heap.size + 1, 1, none⟩, .int .i64 b1), (⟨w.heap.size + 1, 2, none⟩, .int .i64 b2)] w wr) (fun _ t _ => 3 - (intOf t).toNat)
  case atStart => exact ⟨Or.inl (Or.inl ⟨rfl, rfl⟩), by (refine ⟨by simp [List.forall_mem_cons, go_sem], by simp [List.forall_mem_cons] <;> omega, by simp, by (repeat (first | exact Below.refl _ _ | assumption | refine Below.drew ?_ | (refine Below.alloc ?_ (by simp <;> omega) _) | (refine Below.setCell ?_ (by simp <;> omega) _))), by omega⟩)⟩
  case round =>
  obtain ⟨hd, hT⟩ := hrel
  rcases hd with (⟨rfl, rfl⟩ | ⟨rfl, rfl⟩) | (⟨rfl, rfl⟩ | ⟨rfl, rfl⟩)
  · go_upto_region 5 with fail
    (refine wp_region_class (Lay w.heap.size (w.heap.size + 2) _ w) (hT.next (Below.refl _ _).drew) (by kernel_rfl) (by kernel_rfl) ?_; repeat (refine wpQuiet_step (fun qK9 qH9 => ?_); go_simp; first | (refine qH9 _ ?_; clear qH9 qK9) | (apply Exists.intro; refine ⟨?_, qH9 _ ?_⟩; (first | (intros; rfl) | ((intro wx hC; ((have qk9 := Lay.cells hC; simp only [List.forall_mem_cons, List.not_mem_nil, false_implies, implies_true, and_true] at qk9; repeat (obtain ⟨qk8, qk9⟩ := qk9)); go_simp; first | done | rfl)))); clear qH9 qK9)))
    refine wpQuiet_nil ?_
    intro wy hT
    go_wp2_with fail
    go_roundw
    case rel => exact ⟨Or.inl (Or.inr ⟨rfl, by rw [E0.out, P0.out, P0.out]⟩), hT⟩
    case measure => simp [intOf]
  · go_upto_region 5 with fail
    (refine wp_region_class (Lay w.heap.size (w.heap.size + 2) _ w) (hT.next (Below.refl _ _).drew) (by kernel_rfl) (by kernel_rfl) ?_; repeat (refine wpQuiet_step (fun qK9 qH9 => ?_); go_simp; first | (refine qH9 _ ?_; clear qH9 qK9) | (apply Exists.intro; refine ⟨?_, qH9 _ ?_⟩; (first | (intros; rfl) | ((intro wx hC; ((have qk9 := Lay.cells hC; simp only [List.forall_mem_cons, List.not_mem_nil, false_implies, implies_true, and_true] at qk9; repeat (obtain ⟨qk8, qk9⟩ := qk9)); go_simp; first | done | rfl)))); clear qH9 qK9)))
    refine wpQuiet_nil ?_
    intro wy hT
    go_wp2_with fail
    go_roundw
    case rel => exact ⟨Or.inr (Or.inl ⟨rfl, by rw [E1.out, P1.out, T1.out]⟩), hT⟩
    case measure => simp [intOf]
  · go_upto_region 5 with fail
    (refine wp_region_class (Lay w.heap.size (w.heap.size + 2) _ w) (hT.next (Below.refl _ _).drew) (by kernel_rfl) (by kernel_rfl) ?_; repeat (refine wpQuiet_step (fun qK9 qH9 => ?_); go_simp; first | (refine qH9 _ ?_; clear qH9 qK9) | (apply Exists.intro; refine ⟨?_, qH9 _ ?_⟩; (first | (intros; rfl) | ((intro wx hC; ((have qk9 := Lay.cells hC; simp only [List.forall_mem_cons, List.not_mem_nil, false_implies, implies_true, and_true] at qk9; repeat (obtain ⟨qk8, qk9⟩ := qk9)); go_simp; first | done | rfl)))); clear qH9 qK9)))
    refine wpQuiet_nil ?_
    intro wy hT
    go_wp2_with fail
    go_roundw
    case rel => exact ⟨Or.inr (Or.inr ⟨rfl, by rw [E2.out, P2.out, T2.out]⟩), hT⟩
    case measure => simp [intOf]
  · go_wp2_with fail
    go_ret
    exact ⟨by rw [HS.out]; rfl, hT.be⟩
set_option maxHeartbeats 4000000 in
set_option maxRecDepth 20000 in
theorem length_any (a0 a1 a2 b0 b1 b2 : Int) (w : World) (h0 : -67108864 ≤ a0 - b0 ∧ a0 - b0 ≤ 67108864) (h1 : -67108864 ≤ a1 - b1 ∧ a1 - b1 ≤ 67108864) (h2 : -67108864 ≤ a2 - b2 ∧ a2 - b2 ≤ 67108864) :
    Calls Try.prog 32 #[.agg #[.int .i64 a0, .int .i64 a1, .int .i64 a2], .agg #[.int .i64 b0, .int .i64 b1, .int .i64 b2]] w fun e w' => e = .returned (.int .i64 (sqV (sqD a0 a1 a2 b0 b1 b2) 1)) ∧ Below w.heap.size w w' := by
  obtain ⟨m0, n0⟩ := sq_bdK h0.1 h0.2
  obtain ⟨m1, n1⟩ := sq_bdK h1.1 h1.2
  obtain ⟨m2, n2⟩ := sq_bdK h2.1 h2.2
  obtain ⟨l0, u0⟩ := h0
  obtain ⟨l1, u1⟩ := h1
  obtain ⟨l2, u2⟩ := h2
  have HS : Hid (sqD a0 a1 a2 b0 b1 b2 = (a0 - b0) * (a0 - b0) + (a1 - b1) * (a1 - b1) + (a2 - b2) * (a2 - b2)) := rfl
  have SQ := fun w => Lib.hid (sqrt_any ((a0 - b0) * (a0 - b0) + (a1 - b1) * (a1 - b1) + (a2 - b2) * (a2 - b2)) 1 w (by omega))
  have SQ := fun w => Lib.hid (show Calls Try.prog 50 #[.int .i64 ((a0 - b0) * (a0 - b0) + (a1 - b1) * (a1 - b1) + (a2 - b2) * (a2 - b2)), .int .i64 1] w fun e w' => e = .returned (.tuple #[.int .i64 (sqV (sqD a0 a1 a2 b0 b1 b2) 1), .bool (sqO (sqD a0 a1 a2 b0 b1 b2) 1)]) ∧ Below w.heap.size w w' from (SQ w).out)
  generalize sqO (sqD a0 a1 a2 b0 b1 b2) 1 = ok at *
  generalize sqV (sqD a0 a1 a2 b0 b1 b2) 1 = N at *
  have E0 := Lib.hid (wr_in (n := a0 - b0) (by omega) (by omega))
  have E1 := Lib.hid (wr_in (n := a1 - b1) (by omega) (by omega))
  have E2 := Lib.hid (wr_in (n := a2 - b2) (by omega) (by omega))
  have P0 := Lib.hid (wr_in (n := (a0 - b0) * (a0 - b0)) (by omega) (by omega))
  have P1 := Lib.hid (wr_in (n := (a1 - b1) * (a1 - b1)) (by omega) (by omega))
  have P2 := Lib.hid (wr_in (n := (a2 - b2) * (a2 - b2)) (by omega) (by omega))
  have T1 := Lib.hid (wr_in (n := (a0 - b0) * (a0 - b0) + (a1 - b1) * (a1 - b1)) (by omega) (by omega))
  have T2 := Lib.hid (wr_in (n := (a0 - b0) * (a0 - b0) + (a1 - b1) * (a1 - b1) + (a2 - b2) * (a2 - b2)) (by omega) (by omega))
  generalize sqD a0 a1 a2 b0 b1 b2 = D at *
  go_enter Try.func32, Try.ntmps32
  go_wp2_with fail
  go_loopw [5, 9] (fun s t wr => (((t = .int .i64 0 ∧ s = .int .i64 0) ∨ (t = .int .i64 1 ∧ s = .int .i64 ((a0 - b0) * (a0 - b0)))) ∨ ((t = .int .i64 2 ∧ s = .int .i64 ((a0 - b0) * (a0 - b0) + (a1 - b1) * (a1 - b1))) ∨ (t = .int .i64 3 ∧ s = .int .i64 ((a0 - b0) * (a0 - b0) + (a1 - b1) * (a1 - b1) + (a2 - b2) * (a2 - b2))))) ∧ Lay w.heap.size (w.heap.size + 2) [(⟨w.heap.size, 0, none⟩, .int .i64 a0), (⟨w.heap.size, 1, none⟩, .int .i64 a1), (⟨w.heap.size, 2, none⟩, .int .i64 a2), (⟨w.heap.size + 1, 0, none⟩, .int .i64 b0), (⟨w.heap.size + 1, 1, none⟩, .int .i64 b1), (⟨w.heap.size + 1, 2, none⟩, .int .i64 b2)] w wr) (fun _ t _ => 3 - (intOf t).toNat)
  case atStart => exact ⟨Or.inl (Or.inl ⟨rfl, rfl⟩), by (refine ⟨by simp [List.forall_mem_cons, go_sem], by simp [List.forall_mem_cons] <;> omega, by simp, by (repeat (first | exact Below.refl _ _ | assumption | refine Below.drew ?_ | (refine Below.alloc ?_ (by simp <;> omega) _) | (refine Below.setCell ?_ (by simp <;> omega) _))), by omega⟩)⟩
  case round =>
  obtain ⟨hd, hT⟩ := hrel
  rcases hd with (⟨rfl, rfl⟩ | ⟨rfl, rfl⟩) | (⟨rfl, rfl⟩ | ⟨rfl, rfl⟩)
  · go_upto_region 5 with fail
    (refine wp_region_class (Lay w.heap.size (w.heap.size + 2) _ w) (hT.next (Below.refl _ _).drew) (by kernel_rfl) (by kernel_rfl) ?_; repeat (refine wpQuiet_step (fun qK9 qH9 => ?_); go_simp; first | (refine qH9 _ ?_; clear qH9 qK9) | (apply Exists.intro; refine ⟨?_, qH9 _ ?_⟩; (first | (intros; rfl) | ((intro wx hC; ((have qk9 := Lay.cells hC; simp only [List.forall_mem_cons, List.not_mem_nil, false_implies, implies_true, and_true] at qk9; repeat (obtain ⟨qk8, qk9⟩ := qk9)); go_simp; first | done | rfl)))); clear qH9 qK9)))
    refine wpQuiet_nil ?_
    intro wy hT
    go_wp2_with fail
    go_roundw
    case rel => exact ⟨Or.inl (Or.inr ⟨rfl, by rw [E0.out, P0.out, P0.out]⟩), hT⟩
    case measure => simp [intOf]
  · go_upto_region 5 with fail
    (refine wp_region_class (Lay w.heap.size (w.heap.size + 2) _ w) (hT.next (Below.refl _ _).drew) (by kernel_rfl) (by kernel_rfl) ?_; repeat (refine wpQuiet_step (fun qK9 qH9 => ?_); go_simp; first | (refine qH9 _ ?_; clear qH9 qK9) | (apply Exists.intro; refine ⟨?_, qH9 _ ?_⟩; (first | (intros; rfl) | ((intro wx hC; ((have qk9 := Lay.cells hC; simp only [List.forall_mem_cons, List.not_mem_nil, false_implies, implies_true, and_true] at qk9; repeat (obtain ⟨qk8, qk9⟩ := qk9)); go_simp; first | done | rfl)))); clear qH9 qK9)))
    refine wpQuiet_nil ?_
    intro wy hT
    go_wp2_with fail
    go_roundw
    case rel => exact ⟨Or.inr (Or.inl ⟨rfl, by rw [E1.out, P1.out, T1.out]⟩), hT⟩
    case measure => simp [intOf]
  · go_upto_region 5 with fail
    (refine wp_region_class (Lay w.heap.size (w.heap.size + 2) _ w) (hT.next (Below.refl _ _).drew) (by kernel_rfl) (by kernel_rfl) ?_; repeat (refine wpQuiet_step (fun qK9 qH9 => ?_); go_simp; first | (refine qH9 _ ?_; clear qH9 qK9) | (apply Exists.intro; refine ⟨?_, qH9 _ ?_⟩; (first | (intros; rfl) | ((intro wx hC; ((have qk9 := Lay.cells hC; simp only [List.forall_mem_cons, List.not_mem_nil, false_implies, implies_true, and_true] at qk9; repeat (obtain ⟨qk8, qk9⟩ := qk9)); go_simp; first | done | rfl)))); clear qH9 qK9)))
    refine wpQuiet_nil ?_
    intro wy hT
    go_wp2_with fail
    go_roundw
    case rel => exact ⟨Or.inr (Or.inr ⟨rfl, by rw [E2.out, P2.out, T2.out]⟩), hT⟩
    case measure => simp [intOf]
  · go_wp2_with fail
    refine (SQ _).out.mono ?_
    rintro e w2 ⟨rfl, hb2⟩
    have hT := hT.next hb2
    go_wp2_with fail
    go_ret
    exact ⟨rfl, hT.be⟩
end Go.Proofs.Ytdjopepipcnmdaa
