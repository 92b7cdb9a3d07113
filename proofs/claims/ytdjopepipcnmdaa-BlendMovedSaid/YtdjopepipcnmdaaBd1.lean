/- Proved here: the point at a distance from a corner, as the program and as the reference compute it; ranges as stated. -/
import Derived.Test.YtdjopepipcnmdaaBc1
import Derived.Test.YtdjopepipcnmdaaBb2
import Derived.Test.YtdjopepipcnmdaaLe
import Derived.StillTailTactics
namespace Go.Proofs.Ytdjopepipcnmdaa
open Go.RowKit
set_option linter.unusedVariables false
set_option linter.unusedSimpArgs false
theorem natAbs_sq' (x : Int) : ((x.natAbs * x.natAbs : Nat) : Int) = x * x := by
  rw [Int.natCast_mul]
  rcases Int.natAbs_eq x with h | h
  · rw [← h]
  · generalize (x.natAbs : Int) = k at *
    subst h; grind
theorem sq_pos {x : Int} (h : x ≠ 0) : 1 ≤ x * x := by
  have e : (x * x).natAbs = x.natAbs * x.natAbs := Int.natAbs_mul x x
  have h1 := Nat.mul_le_mul (show 1 ≤ x.natAbs by omega) (show 1 ≤ x.natAbs by omega)
  have e2 := natAbs_sq' x
  omega
theorem sq_nn (x : Int) : 0 ≤ x * x := by
  have := natAbs_sq' x
  omega
theorem near_I (x r n : Int) (w : World) (hx : -67108864 ≤ x) (hx2 : x ≤ 67108864) (hr : 0 ≤ r) (hr2 : r ≤ 67108864) (hn : 1 ≤ n) (hn2 : n ≤ 18014398509481984) (hxn : x * x ≤ n) :
    Calls Try.prog 31 #[.int .i64 x, .int .i64 r, .int .i64 n] w fun e w' => e = .returned (.int .i64 (nrI x r n)) ∧ w = w' :=
  near_any x r n w hx hx2 hr hr2 hn hn2 (by have := natAbs_sq' x; omega)
theorem nrI_bd {x r n : Int} (hx : -67108864 ≤ x) (hx2 : x ≤ 67108864) (hr : 0 ≤ r) (hr2 : r ≤ 33554432) (hn : 1 ≤ n) (hxn : x * x ≤ n) : -33554433 ≤ nrI x r n ∧ nrI x r n ≤ 33554433 := by
  have h := nrN_le (x := x) (r := r) (n := n) (by omega) (by omega) hn (by have := natAbs_sq' x; omega)
  have h2 : nrN x r n ≤ nrT x r n + 1 := by unfold nrN; split <;> omega
  unfold nrI; split <;> omega
theorem wp_cls {P : Program} {c : Code} {Q : Exit → Act → World → Prop} {a : Act} {W : World} (C : World → Prop) (h : C W) (k : ∀ wx, C wx → c.wp P Q a wx) : c.wp P Q a W := k W h
theorem Lf.cut {B n m : Nat} {cs ds : List (Addr × Value)} {w0 w : World} (h : Lf B n cs w0 w) (hs : ∀ p ∈ ds, p ∈ cs) (hi : ∀ p ∈ ds, p.1.block < m) (h1 : B ≤ m) (h2 : m ≤ n) : Lf B m ds w0 w :=
  ⟨fun p hp => h.cells p (hs p hp), fun p hp => h.frz p (hs p hp), hi, Nat.le_trans h2 h.lt, h.be, h1⟩
structure Pk (a0 a1 a2 : Int) : Prop where
  l0 : -33554432 ≤ a0
  u0 : a0 ≤ 33554432
  l1 : -33554432 ≤ a1
  u1 : a1 ≤ 33554432
  l2 : -33554432 ≤ a2
  u2 : a2 ≤ 33554432
theorem sqD_zero {a0 a1 a2 c0 c1 c2 : Int} : sqD a0 a1 a2 c0 c1 c2 = 0 ↔ a0 = c0 ∧ a1 = c1 ∧ a2 = c2 := by
  unfold sqD
  have q0 := sq_nn (a0 - c0)
  have q1 := sq_nn (a1 - c1)
  have q2 := sq_nn (a2 - c2)
  constructor
  · intro h
    refine ⟨?_, ?_, ?_⟩ <;> refine Classical.byContradiction fun g => ?_
    · have := sq_pos (x := a0 - c0) (by omega); omega
    · have := sq_pos (x := a1 - c1) (by omega); omega
    · have := sq_pos (x := a2 - c2) (by omega); omega
  · rintro ⟨rfl, rfl, rfl⟩; simp
set_option maxHeartbeats 2000000 in
set_option maxRecDepth 20000 in
theorem towardP_same (c0 c1 c2 d : Int) (w : World)  :
    Calls Try.prog 14 #[.agg #[.int .i64 c0, .int .i64 c1, .int .i64 c2], .agg #[.int .i64 c0, .int .i64 c1, .int .i64 c2], .int .i64 d] w fun e w' => e = .returned (.tuple #[.agg #[.int .i64 0, .int .i64 0, .int .i64 0], .bool false]) ∧ Below w.heap.size w w' := by
  go_enter Try.func14, Try.ntmps14
  go_wp2_with fail
  refine bodyPost_ret (v := .tuple #[.agg #[.int .i64 0, .int .i64 0, .int .i64 0], .bool false]) (by simp [results, Try.results14, go_sem]) rfl ⟨rfl, ?_⟩
  (repeat (first | exact Below.refl _ _ | assumption | refine Below.drew ?_ | (refine Below.alloc ?_ (by simp <;> omega) _) | (refine Below.setCell ?_ (by simp <;> omega) _)))
set_option maxHeartbeats 2000000 in
set_option maxRecDepth 20000 in
theorem towardP_neg (c0 c1 c2 a0 a1 a2 d : Int) (w : World) (ne : (a0 == c0 && a1 == c1 && a2 == c2) = false) (hd : d < 0) :
    Calls Try.prog 14 #[.agg #[.int .i64 c0, .int .i64 c1, .int .i64 c2], .agg #[.int .i64 a0, .int .i64 a1, .int .i64 a2], .int .i64 d] w fun e w' => e = .returned (.tuple #[.agg #[.int .i64 0, .int .i64 0, .int .i64 0], .bool false]) ∧ Below w.heap.size w w' := by
  go_enter Try.func14, Try.ntmps14
  go_wp2_with fail
  refine bodyPost_ret (v := .tuple #[.agg #[.int .i64 0, .int .i64 0, .int .i64 0], .bool false]) (by simp [results, Try.results14, go_sem]) rfl ⟨rfl, ?_⟩
  (repeat (first | exact Below.refl _ _ | assumption | refine Below.drew ?_ | (refine Below.alloc ?_ (by simp <;> omega) _) | (refine Below.setCell ?_ (by simp <;> omega) _)))
set_option maxHeartbeats 2000000 in
set_option maxRecDepth 20000 in
theorem towardP_big (c0 c1 c2 a0 a1 a2 d : Int) (w : World) (ne : (a0 == c0 && a1 == c1 && a2 == c2) = false) (hd : 33554432 < d) :
    Calls Try.prog 14 #[.agg #[.int .i64 c0, .int .i64 c1, .int .i64 c2], .agg #[.int .i64 a0, .int .i64 a1, .int .i64 a2], .int .i64 d] w fun e w' => e = .returned (.tuple #[.agg #[.int .i64 0, .int .i64 0, .int .i64 0], .bool false]) ∧ Below w.heap.size w w' := by
  go_enter Try.func14, Try.ntmps14
  go_wp2_with fail
  refine bodyPost_ret (v := .tuple #[.agg #[.int .i64 0, .int .i64 0, .int .i64 0], .bool false]) (by simp [results, Try.results14, go_sem]) rfl ⟨rfl, ?_⟩
  (repeat (first | exact Below.refl _ _ | assumption | refine Below.drew ?_ | (refine Below.alloc ?_ (by simp <;> omega) _) | (refine Below.setCell ?_ (by simp <;> omega) _)))
set_option maxHeartbeats 8000000 in
set_option maxRecDepth 20000 in
theorem towardP_main (c0 c1 c2 a0 a1 a2 d : Int) (X0 X1 X2 : Int) (w : World) (hc : Pk c0 c1 c2) (ha : Pk a0 a1 a2) (ne : (a0 == c0 && a1 == c1 && a2 == c2) = false) (hn : 1 ≤ sqD a0 a1 a2 c0 c1 c2) (hd : 0 ≤ d) (hd2 : d ≤ 33554432)
    (H0 : Hid (nrI (a0 - c0) d (sqD a0 a1 a2 c0 c1 c2) = X0)) (H1 : Hid (nrI (a1 - c1) d (sqD a0 a1 a2 c0 c1 c2) = X1)) (H2 : Hid (nrI (a2 - c2) d (sqD a0 a1 a2 c0 c1 c2) = X2)) :
    Calls Try.prog 14 #[.agg #[.int .i64 c0, .int .i64 c1, .int .i64 c2], .agg #[.int .i64 a0, .int .i64 a1, .int .i64 a2], .int .i64 d] w fun e w' => e = .returned (.tuple #[.agg #[.int .i64 (c0 + X0), .int .i64 (c1 + X1), .int .i64 (c2 + X2)], .bool true]) ∧ Below w.heap.size w w' := by
  obtain ⟨x1, x2, x3, x4, x5, x6⟩ := hc
  obtain ⟨z1, z2, z3, z4, z5, z6⟩ := ha
  obtain ⟨m0, n0⟩ := sq_bdK (x := a0 - c0) (by omega) (by omega)
  obtain ⟨m1, n1⟩ := sq_bdK (x := a1 - c1) (by omega) (by omega)
  obtain ⟨m2, n2⟩ := sq_bdK (x := a2 - c2) (by omega) (by omega)
  have HS : Hid (sqD a0 a1 a2 c0 c1 c2 = (a0 - c0) * (a0 - c0) + (a1 - c1) * (a1 - c1) + (a2 - c2) * (a2 - c2)) := rfl
  have E0 := Lib.hid (wr_in (n := a0 - c0) (by omega) (by omega))
  have P0 := Lib.hid (wr_in (n := (a0 - c0) * (a0 - c0)) (by omega) (by omega))
  have b0 := nrI_bd (x := a0 - c0) (r := d) (n := sqD a0 a1 a2 c0 c1 c2) (by omega) (by omega) hd hd2 hn (by have := HS.out; omega)
  have V0 := near_ov (a0 - c0) d (sqD a0 a1 a2 c0 c1 c2) (by omega) (by omega) hd (by omega) hn (by have := HS.out; omega) (by have := natAbs_sq' (a0 - c0); have := HS.out; omega)
  rw [H0.out] at b0 V0
  have O0 : ∀ w, Hid (Calls Try.prog 30 #[.int .i64 (IntKind.i64.wrap (a0 - c0)), .int .i64 d, .int .i64 (sqD a0 a1 a2 c0 c1 c2), .int .i64 2] w fun e w' => e = .returned (.tuple #[.int .i64 X0, .bool true]) ∧ Below w.heap.size w w') := by
    intro w
    rw [E0.out]
    have h := over_any (a0 - c0) d (sqD a0 a1 a2 c0 c1 c2) 2 w (by omega) (by omega) (by omega) (by omega)
    rw [V0.1, V0.2] at h
    exact h
  obtain ⟨i0, j0⟩ := b0
  have E1 := Lib.hid (wr_in (n := a1 - c1) (by omega) (by omega))
  have P1 := Lib.hid (wr_in (n := (a1 - c1) * (a1 - c1)) (by omega) (by omega))
  have b1 := nrI_bd (x := a1 - c1) (r := d) (n := sqD a0 a1 a2 c0 c1 c2) (by omega) (by omega) hd hd2 hn (by have := HS.out; omega)
  have V1 := near_ov (a1 - c1) d (sqD a0 a1 a2 c0 c1 c2) (by omega) (by omega) hd (by omega) hn (by have := HS.out; omega) (by have := natAbs_sq' (a1 - c1); have := HS.out; omega)
  rw [H1.out] at b1 V1
  have O1 : ∀ w, Hid (Calls Try.prog 30 #[.int .i64 (IntKind.i64.wrap (a1 - c1)), .int .i64 d, .int .i64 (sqD a0 a1 a2 c0 c1 c2), .int .i64 2] w fun e w' => e = .returned (.tuple #[.int .i64 X1, .bool true]) ∧ Below w.heap.size w w') := by
    intro w
    rw [E1.out]
    have h := over_any (a1 - c1) d (sqD a0 a1 a2 c0 c1 c2) 2 w (by omega) (by omega) (by omega) (by omega)
    rw [V1.1, V1.2] at h
    exact h
  obtain ⟨i1, j1⟩ := b1
  have E2 := Lib.hid (wr_in (n := a2 - c2) (by omega) (by omega))
  have P2 := Lib.hid (wr_in (n := (a2 - c2) * (a2 - c2)) (by omega) (by omega))
  have b2 := nrI_bd (x := a2 - c2) (r := d) (n := sqD a0 a1 a2 c0 c1 c2) (by omega) (by omega) hd hd2 hn (by have := HS.out; omega)
  have V2 := near_ov (a2 - c2) d (sqD a0 a1 a2 c0 c1 c2) (by omega) (by omega) hd (by omega) hn (by have := HS.out; omega) (by have := natAbs_sq' (a2 - c2); have := HS.out; omega)
  rw [H2.out] at b2 V2
  have O2 : ∀ w, Hid (Calls Try.prog 30 #[.int .i64 (IntKind.i64.wrap (a2 - c2)), .int .i64 d, .int .i64 (sqD a0 a1 a2 c0 c1 c2), .int .i64 2] w fun e w' => e = .returned (.tuple #[.int .i64 X2, .bool true]) ∧ Below w.heap.size w w') := by
    intro w
    rw [E2.out]
    have h := over_any (a2 - c2) d (sqD a0 a1 a2 c0 c1 c2) 2 w (by omega) (by omega) (by omega) (by omega)
    rw [V2.1, V2.2] at h
    exact h
  obtain ⟨i2, j2⟩ := b2
  have T1 := Lib.hid (wr_in (n := (a0 - c0) * (a0 - c0) + (a1 - c1) * (a1 - c1)) (by omega) (by omega))
  have T2 := Lib.hid (wr_in (n := (a0 - c0) * (a0 - c0) + (a1 - c1) * (a1 - c1) + (a2 - c2) * (a2 - c2)) (by omega) (by omega))
  clear V0 V1 V2 H0 H1 H2 hn
  generalize sqD a0 a1 a2 c0 c1 c2 = D at *
  have hT : Lf w.heap.size (w.heap.size + 1 + 1 + 1) [(⟨w.heap.size, 0, none⟩, .int .i64 c0), (⟨w.heap.size, 1, none⟩, .int .i64 c1), (⟨w.heap.size, 2, none⟩, .int .i64 c2), (⟨w.heap.size + 1, 0, none⟩, .int .i64 a0), (⟨w.heap.size + 1, 1, none⟩, .int .i64 a1), (⟨w.heap.size + 1, 2, none⟩, .int .i64 a2), (⟨w.heap.size + 1 + 1, 0, none⟩, .int .i64 0), (⟨w.heap.size + 1 + 1, 1, none⟩, .int .i64 0), (⟨w.heap.size + 1 + 1, 2, none⟩, .int .i64 0)] w (((w.alloc (.cells #[.int .i64 c0, .int .i64 c1, .int .i64 c2] 23)).alloc (.cells #[.int .i64 a0, .int .i64 a1, .int .i64 a2] 23)).alloc (.cells #[.int .i64 0, .int .i64 0, .int .i64 0] 23)) :=
    ⟨by simp [List.forall_mem_cons, go_sem], by simp [List.forall_mem_cons, go_sem], by simp [List.forall_mem_cons] <;> omega, by simp, by (repeat (first | exact Below.refl _ _ | assumption | refine Below.drew ?_ | (refine Below.alloc ?_ (by simp <;> omega) _) | (refine Below.setCell ?_ (by simp <;> omega) _))), by omega⟩
  go_enter Try.func14, Try.ntmps14
  go_wp2_with fail
  go_loopw [8, 25] (fun s t wr => (((t = .int .i64 0 ∧ s = .int .i64 0) ∨ (t = .int .i64 1 ∧ s = .int .i64 ((a0 - c0) * (a0 - c0)))) ∨ ((t = .int .i64 2 ∧ s = .int .i64 ((a0 - c0) * (a0 - c0) + (a1 - c1) * (a1 - c1))) ∨ (t = .int .i64 3 ∧ s = .int .i64 D))) ∧ Lf w.heap.size (w.heap.size + 1 + 1 + 1) [(⟨w.heap.size, 0, none⟩, .int .i64 c0), (⟨w.heap.size, 1, none⟩, .int .i64 c1), (⟨w.heap.size, 2, none⟩, .int .i64 c2), (⟨w.heap.size + 1, 0, none⟩, .int .i64 a0), (⟨w.heap.size + 1, 1, none⟩, .int .i64 a1), (⟨w.heap.size + 1, 2, none⟩, .int .i64 a2), (⟨w.heap.size + 1 + 1, 0, none⟩, .int .i64 0), (⟨w.heap.size + 1 + 1, 1, none⟩, .int .i64 0), (⟨w.heap.size + 1 + 1, 2, none⟩, .int .i64 0)] w wr) (fun _ t _ => 3 - (intOf t).toNat)
  case atStart => exact ⟨Or.inl (Or.inl ⟨rfl, rfl⟩), hT⟩
  case round =>
  clear hT
  obtain ⟨hd, hT⟩ := hrel
  rcases hd with (⟨rfl, rfl⟩ | ⟨rfl, rfl⟩) | (⟨rfl, rfl⟩ | ⟨rfl, rfl⟩)
  · go_upto_region 7 with fail
    (refine wp_region_class (Lf w.heap.size (w.heap.size + 1 + 1 + 1) [(⟨w.heap.size, 0, none⟩, .int .i64 c0), (⟨w.heap.size, 1, none⟩, .int .i64 c1), (⟨w.heap.size, 2, none⟩, .int .i64 c2), (⟨w.heap.size + 1, 0, none⟩, .int .i64 a0), (⟨w.heap.size + 1, 1, none⟩, .int .i64 a1), (⟨w.heap.size + 1, 2, none⟩, .int .i64 a2), (⟨w.heap.size + 1 + 1, 0, none⟩, .int .i64 0), (⟨w.heap.size + 1 + 1, 1, none⟩, .int .i64 0), (⟨w.heap.size + 1 + 1, 2, none⟩, .int .i64 0)] w) (hT.next (Below.refl _ _).drew) (by kernel_rfl) (by kernel_rfl) ?_; repeat (refine wpQuiet_step (fun qK9 qH9 => ?_); go_simp; first | (refine qH9 _ ?_; clear qH9 qK9) | (apply Exists.intro; refine ⟨?_, qH9 _ ?_⟩; (first | (intros; rfl) | ((intro wx hC; ((have qk9 := (hC).cells; simp only [List.forall_mem_cons, List.not_mem_nil, false_implies, implies_true, and_true] at qk9; repeat (obtain ⟨qk8, qk9⟩ := qk9)); go_simp; first | done | rfl)))); clear qH9 qK9)))
    refine wpQuiet_nil ?_
    clear hT
    intro wy hT
    go_wp2_with fail
    go_roundw
    case rel => exact ⟨Or.inl (Or.inr ⟨rfl, by rw [E0.out, P0.out, P0.out]⟩), hT⟩
    case measure => simp [intOf]
  · go_upto_region 7 with fail
    (refine wp_region_class (Lf w.heap.size (w.heap.size + 1 + 1 + 1) [(⟨w.heap.size, 0, none⟩, .int .i64 c0), (⟨w.heap.size, 1, none⟩, .int .i64 c1), (⟨w.heap.size, 2, none⟩, .int .i64 c2), (⟨w.heap.size + 1, 0, none⟩, .int .i64 a0), (⟨w.heap.size + 1, 1, none⟩, .int .i64 a1), (⟨w.heap.size + 1, 2, none⟩, .int .i64 a2), (⟨w.heap.size + 1 + 1, 0, none⟩, .int .i64 0), (⟨w.heap.size + 1 + 1, 1, none⟩, .int .i64 0), (⟨w.heap.size + 1 + 1, 2, none⟩, .int .i64 0)] w) (hT.next (Below.refl _ _).drew) (by kernel_rfl) (by kernel_rfl) ?_; repeat (refine wpQuiet_step (fun qK9 qH9 => ?_); go_simp; first | (refine qH9 _ ?_; clear qH9 qK9) | (apply Exists.intro; refine ⟨?_, qH9 _ ?_⟩; (first | (intros; rfl) | ((intro wx hC; ((have qk9 := (hC).cells; simp only [List.forall_mem_cons, List.not_mem_nil, false_implies, implies_true, and_true] at qk9; repeat (obtain ⟨qk8, qk9⟩ := qk9)); go_simp; first | done | rfl)))); clear qH9 qK9)))
    refine wpQuiet_nil ?_
    clear hT
    intro wy hT
    go_wp2_with fail
    go_roundw
    case rel => exact ⟨Or.inr (Or.inl ⟨rfl, by rw [E1.out, P1.out, T1.out]⟩), hT⟩
    case measure => simp [intOf]
  · go_upto_region 7 with fail
    (refine wp_region_class (Lf w.heap.size (w.heap.size + 1 + 1 + 1) [(⟨w.heap.size, 0, none⟩, .int .i64 c0), (⟨w.heap.size, 1, none⟩, .int .i64 c1), (⟨w.heap.size, 2, none⟩, .int .i64 c2), (⟨w.heap.size + 1, 0, none⟩, .int .i64 a0), (⟨w.heap.size + 1, 1, none⟩, .int .i64 a1), (⟨w.heap.size + 1, 2, none⟩, .int .i64 a2), (⟨w.heap.size + 1 + 1, 0, none⟩, .int .i64 0), (⟨w.heap.size + 1 + 1, 1, none⟩, .int .i64 0), (⟨w.heap.size + 1 + 1, 2, none⟩, .int .i64 0)] w) (hT.next (Below.refl _ _).drew) (by kernel_rfl) (by kernel_rfl) ?_; repeat (refine wpQuiet_step (fun qK9 qH9 => ?_); go_simp; first | (refine qH9 _ ?_; clear qH9 qK9) | (apply Exists.intro; refine ⟨?_, qH9 _ ?_⟩; (first | (intros; rfl) | ((intro wx hC; ((have qk9 := (hC).cells; simp only [List.forall_mem_cons, List.not_mem_nil, false_implies, implies_true, and_true] at qk9; repeat (obtain ⟨qk8, qk9⟩ := qk9)); go_simp; first | done | rfl)))); clear qH9 qK9)))
    refine wpQuiet_nil ?_
    clear hT
    intro wy hT
    go_wp2_with fail
    go_roundw
    case rel => exact ⟨Or.inr (Or.inr ⟨rfl, by rw [E2.out, P2.out, T2.out, HS.out]⟩), hT⟩
    case measure => simp [intOf]
  · go_wp2_with fail
    go_loopw [46] (fun t wr => (t = .int .i64 0 ∧ Lf w.heap.size (w.heap.size + 1 + 1 + 1) [(⟨w.heap.size, 0, none⟩, .int .i64 c0), (⟨w.heap.size, 1, none⟩, .int .i64 c1), (⟨w.heap.size, 2, none⟩, .int .i64 c2), (⟨w.heap.size + 1, 0, none⟩, .int .i64 a0), (⟨w.heap.size + 1, 1, none⟩, .int .i64 a1), (⟨w.heap.size + 1, 2, none⟩, .int .i64 a2), (⟨w.heap.size + 1 + 1, 0, none⟩, .int .i64 0), (⟨w.heap.size + 1 + 1, 1, none⟩, .int .i64 0), (⟨w.heap.size + 1 + 1, 2, none⟩, .int .i64 0)] w wr) ∨ (t = .int .i64 1 ∧ Lf w.heap.size (w.heap.size + 1 + 1 + 1) [(⟨w.heap.size, 0, none⟩, .int .i64 (c0 + X0)), (⟨w.heap.size, 1, none⟩, .int .i64 c1), (⟨w.heap.size, 2, none⟩, .int .i64 c2), (⟨w.heap.size + 1, 0, none⟩, .int .i64 a0), (⟨w.heap.size + 1, 1, none⟩, .int .i64 a1), (⟨w.heap.size + 1, 2, none⟩, .int .i64 a2), (⟨w.heap.size + 1 + 1, 0, none⟩, .int .i64 0), (⟨w.heap.size + 1 + 1, 1, none⟩, .int .i64 0), (⟨w.heap.size + 1 + 1, 2, none⟩, .int .i64 0)] w wr) ∨ (t = .int .i64 2 ∧ Lf w.heap.size (w.heap.size + 1 + 1 + 1) [(⟨w.heap.size, 0, none⟩, .int .i64 (c0 + X0)), (⟨w.heap.size, 1, none⟩, .int .i64 (c1 + X1)), (⟨w.heap.size, 2, none⟩, .int .i64 c2), (⟨w.heap.size + 1, 0, none⟩, .int .i64 a0), (⟨w.heap.size + 1, 1, none⟩, .int .i64 a1), (⟨w.heap.size + 1, 2, none⟩, .int .i64 a2), (⟨w.heap.size + 1 + 1, 0, none⟩, .int .i64 0), (⟨w.heap.size + 1 + 1, 1, none⟩, .int .i64 0), (⟨w.heap.size + 1 + 1, 2, none⟩, .int .i64 0)] w wr) ∨ (t = .int .i64 3 ∧ Lf w.heap.size (w.heap.size + 1 + 1 + 1) [(⟨w.heap.size, 0, none⟩, .int .i64 (c0 + X0)), (⟨w.heap.size, 1, none⟩, .int .i64 (c1 + X1)), (⟨w.heap.size, 2, none⟩, .int .i64 (c2 + X2)), (⟨w.heap.size + 1, 0, none⟩, .int .i64 a0), (⟨w.heap.size + 1, 1, none⟩, .int .i64 a1), (⟨w.heap.size + 1, 2, none⟩, .int .i64 a2), (⟨w.heap.size + 1 + 1, 0, none⟩, .int .i64 0), (⟨w.heap.size + 1 + 1, 1, none⟩, .int .i64 0), (⟨w.heap.size + 1 + 1, 2, none⟩, .int .i64 0)] w wr)) (fun t _ => 3 - (intOf t).toNat)
    case atStart => exact Or.inl ⟨rfl, hT⟩
    case round =>
    clear hT
    rcases hrel with ⟨rfl, hT⟩ | ⟨rfl, hT⟩ | ⟨rfl, hT⟩ | ⟨rfl, hT⟩
    · go_upto_region 12 with fail
      (refine wp_region_class (Lf w.heap.size (w.heap.size + 1 + 1 + 1) [(⟨w.heap.size, 0, none⟩, .int .i64 c0), (⟨w.heap.size, 1, none⟩, .int .i64 c1), (⟨w.heap.size, 2, none⟩, .int .i64 c2), (⟨w.heap.size + 1, 0, none⟩, .int .i64 a0), (⟨w.heap.size + 1, 1, none⟩, .int .i64 a1), (⟨w.heap.size + 1, 2, none⟩, .int .i64 a2), (⟨w.heap.size + 1 + 1, 0, none⟩, .int .i64 0), (⟨w.heap.size + 1 + 1, 1, none⟩, .int .i64 0), (⟨w.heap.size + 1 + 1, 2, none⟩, .int .i64 0)] w) (hT.next (Below.refl _ _).drew) (by kernel_rfl) (by kernel_rfl) ?_; repeat (refine wpQuiet_step (fun qK9 qH9 => ?_); go_simp; first | (refine qH9 _ ?_; clear qH9 qK9) | (apply Exists.intro; refine ⟨?_, qH9 _ ?_⟩; (first | (intros; rfl) | (first | (intro wx hC; ((have qk9 := (hC).cells; simp only [List.forall_mem_cons, List.not_mem_nil, false_implies, implies_true, and_true] at qk9; repeat (obtain ⟨qk8, qk9⟩ := qk9)); go_simp; first | done | rfl)) | (intro wx hC; exact Calls.lays (O0 wx).out (fun _ => hC.next)))); clear qH9 qK9)))
      refine wpQuiet_nil ?_
      clear hT
      intro wy hT
      have kc := hT.cells
      have kf := hT.frz
      simp only [List.forall_mem_cons, List.not_mem_nil, false_implies, implies_true, and_true] at kc kf
      obtain ⟨yc0, yc1, yc2, yc3, yc4, yc5, yc6, yc7, yc8⟩ := kc
      obtain ⟨yf0, yf1, yf2, yf3, yf4, yf5, yf6, yf7, yf8⟩ := kf
      go_wp2_with fail
      go_roundw
      case rel =>
        have g : Lf w.heap.size (w.heap.size + 1 + 1 + 1) [(⟨w.heap.size, 0, none⟩, .int .i64 (c0 + X0)), (⟨w.heap.size, 1, none⟩, .int .i64 c1), (⟨w.heap.size, 2, none⟩, .int .i64 c2), (⟨w.heap.size + 1, 0, none⟩, .int .i64 a0), (⟨w.heap.size + 1, 1, none⟩, .int .i64 a1), (⟨w.heap.size + 1, 2, none⟩, .int .i64 a2), (⟨w.heap.size + 1 + 1, 0, none⟩, .int .i64 0), (⟨w.heap.size + 1 + 1, 1, none⟩, .int .i64 0), (⟨w.heap.size + 1 + 1, 2, none⟩, .int .i64 0)] w _ := hT.set 0 (w.heap.size) 0 _ (.int .i64 (c0 + X0)) rfl (by simp [List.forall_mem_cons] <;> omega) (by omega)
        exact Or.inr (Or.inl ⟨rfl, g⟩)
      case measure => simp [intOf]
    · go_upto_region 12 with fail
      (refine wp_region_class (Lf w.heap.size (w.heap.size + 1 + 1 + 1) [(⟨w.heap.size, 0, none⟩, .int .i64 (c0 + X0)), (⟨w.heap.size, 1, none⟩, .int .i64 c1), (⟨w.heap.size, 2, none⟩, .int .i64 c2), (⟨w.heap.size + 1, 0, none⟩, .int .i64 a0), (⟨w.heap.size + 1, 1, none⟩, .int .i64 a1), (⟨w.heap.size + 1, 2, none⟩, .int .i64 a2), (⟨w.heap.size + 1 + 1, 0, none⟩, .int .i64 0), (⟨w.heap.size + 1 + 1, 1, none⟩, .int .i64 0), (⟨w.heap.size + 1 + 1, 2, none⟩, .int .i64 0)] w) (hT.next (Below.refl _ _).drew) (by kernel_rfl) (by kernel_rfl) ?_; repeat (refine wpQuiet_step (fun qK9 qH9 => ?_); go_simp; first | (refine qH9 _ ?_; clear qH9 qK9) | (apply Exists.intro; refine ⟨?_, qH9 _ ?_⟩; (first | (intros; rfl) | (first | (intro wx hC; ((have qk9 := (hC).cells; simp only [List.forall_mem_cons, List.not_mem_nil, false_implies, implies_true, and_true] at qk9; repeat (obtain ⟨qk8, qk9⟩ := qk9)); go_simp; first | done | rfl)) | (intro wx hC; exact Calls.lays (O1 wx).out (fun _ => hC.next)))); clear qH9 qK9)))
      refine wpQuiet_nil ?_
      clear hT
      intro wy hT
      have kc := hT.cells
      have kf := hT.frz
      simp only [List.forall_mem_cons, List.not_mem_nil, false_implies, implies_true, and_true] at kc kf
      obtain ⟨yc0, yc1, yc2, yc3, yc4, yc5, yc6, yc7, yc8⟩ := kc
      obtain ⟨yf0, yf1, yf2, yf3, yf4, yf5, yf6, yf7, yf8⟩ := kf
      go_wp2_with fail
      go_roundw
      case rel =>
        have g : Lf w.heap.size (w.heap.size + 1 + 1 + 1) [(⟨w.heap.size, 0, none⟩, .int .i64 (c0 + X0)), (⟨w.heap.size, 1, none⟩, .int .i64 (c1 + X1)), (⟨w.heap.size, 2, none⟩, .int .i64 c2), (⟨w.heap.size + 1, 0, none⟩, .int .i64 a0), (⟨w.heap.size + 1, 1, none⟩, .int .i64 a1), (⟨w.heap.size + 1, 2, none⟩, .int .i64 a2), (⟨w.heap.size + 1 + 1, 0, none⟩, .int .i64 0), (⟨w.heap.size + 1 + 1, 1, none⟩, .int .i64 0), (⟨w.heap.size + 1 + 1, 2, none⟩, .int .i64 0)] w _ := hT.set 1 (w.heap.size) 1 _ (.int .i64 (c1 + X1)) rfl (by simp [List.forall_mem_cons] <;> omega) (by omega)
        exact Or.inr (Or.inr (Or.inl ⟨rfl, g⟩))
      case measure => simp [intOf]
    · go_upto_region 12 with fail
      (refine wp_region_class (Lf w.heap.size (w.heap.size + 1 + 1 + 1) [(⟨w.heap.size, 0, none⟩, .int .i64 (c0 + X0)), (⟨w.heap.size, 1, none⟩, .int .i64 (c1 + X1)), (⟨w.heap.size, 2, none⟩, .int .i64 c2), (⟨w.heap.size + 1, 0, none⟩, .int .i64 a0), (⟨w.heap.size + 1, 1, none⟩, .int .i64 a1), (⟨w.heap.size + 1, 2, none⟩, .int .i64 a2), (⟨w.heap.size + 1 + 1, 0, none⟩, .int .i64 0), (⟨w.heap.size + 1 + 1, 1, none⟩, .int .i64 0), (⟨w.heap.size + 1 + 1, 2, none⟩, .int .i64 0)] w) (hT.next (Below.refl _ _).drew) (by kernel_rfl) (by kernel_rfl) ?_; repeat (refine wpQuiet_step (fun qK9 qH9 => ?_); go_simp; first | (refine qH9 _ ?_; clear qH9 qK9) | (apply Exists.intro; refine ⟨?_, qH9 _ ?_⟩; (first | (intros; rfl) | (first | (intro wx hC; ((have qk9 := (hC).cells; simp only [List.forall_mem_cons, List.not_mem_nil, false_implies, implies_true, and_true] at qk9; repeat (obtain ⟨qk8, qk9⟩ := qk9)); go_simp; first | done | rfl)) | (intro wx hC; exact Calls.lays (O2 wx).out (fun _ => hC.next)))); clear qH9 qK9)))
      refine wpQuiet_nil ?_
      clear hT
      intro wy hT
      have kc := hT.cells
      have kf := hT.frz
      simp only [List.forall_mem_cons, List.not_mem_nil, false_implies, implies_true, and_true] at kc kf
      obtain ⟨yc0, yc1, yc2, yc3, yc4, yc5, yc6, yc7, yc8⟩ := kc
      obtain ⟨yf0, yf1, yf2, yf3, yf4, yf5, yf6, yf7, yf8⟩ := kf
      go_wp2_with fail
      go_roundw
      case rel =>
        have g : Lf w.heap.size (w.heap.size + 1 + 1 + 1) [(⟨w.heap.size, 0, none⟩, .int .i64 (c0 + X0)), (⟨w.heap.size, 1, none⟩, .int .i64 (c1 + X1)), (⟨w.heap.size, 2, none⟩, .int .i64 (c2 + X2)), (⟨w.heap.size + 1, 0, none⟩, .int .i64 a0), (⟨w.heap.size + 1, 1, none⟩, .int .i64 a1), (⟨w.heap.size + 1, 2, none⟩, .int .i64 a2), (⟨w.heap.size + 1 + 1, 0, none⟩, .int .i64 0), (⟨w.heap.size + 1 + 1, 1, none⟩, .int .i64 0), (⟨w.heap.size + 1 + 1, 2, none⟩, .int .i64 0)] w _ := hT.set 2 (w.heap.size) 2 _ (.int .i64 (c2 + X2)) rfl (by simp [List.forall_mem_cons] <;> omega) (by omega)
        exact Or.inr (Or.inr (Or.inr ⟨rfl, g⟩))
      case measure => simp [intOf]
    · have kc := hT.cells
      have kf := hT.frz
      simp only [List.forall_mem_cons, List.not_mem_nil, false_implies, implies_true, and_true] at kc kf
      obtain ⟨yc0, yc1, yc2, yc3, yc4, yc5, yc6, yc7, yc8⟩ := kc
      obtain ⟨yf0, yf1, yf2, yf3, yf4, yf5, yf6, yf7, yf8⟩ := kf
      go_wp2_with fail
      have g0 : Lf w.heap.size (w.heap.size + 1 + 1 + 1) [(⟨w.heap.size, 0, none⟩, .int .i64 (c0 + X0)), (⟨w.heap.size, 1, none⟩, .int .i64 (c1 + X1)), (⟨w.heap.size, 2, none⟩, .int .i64 (c2 + X2)), (⟨w.heap.size + 1, 0, none⟩, .int .i64 a0), (⟨w.heap.size + 1, 1, none⟩, .int .i64 a1), (⟨w.heap.size + 1, 2, none⟩, .int .i64 a2), (⟨w.heap.size + 1 + 1, 0, none⟩, .int .i64 (c0 + X0)), (⟨w.heap.size + 1 + 1, 1, none⟩, .int .i64 0), (⟨w.heap.size + 1 + 1, 2, none⟩, .int .i64 0)] w _ := hT.set 6 (w.heap.size + 1 + 1) 0 _ (.int .i64 (c0 + X0)) rfl (by simp [List.forall_mem_cons] <;> omega) (by omega)
      have g1 : Lf w.heap.size (w.heap.size + 1 + 1 + 1) [(⟨w.heap.size, 0, none⟩, .int .i64 (c0 + X0)), (⟨w.heap.size, 1, none⟩, .int .i64 (c1 + X1)), (⟨w.heap.size, 2, none⟩, .int .i64 (c2 + X2)), (⟨w.heap.size + 1, 0, none⟩, .int .i64 a0), (⟨w.heap.size + 1, 1, none⟩, .int .i64 a1), (⟨w.heap.size + 1, 2, none⟩, .int .i64 a2), (⟨w.heap.size + 1 + 1, 0, none⟩, .int .i64 (c0 + X0)), (⟨w.heap.size + 1 + 1, 1, none⟩, .int .i64 (c1 + X1)), (⟨w.heap.size + 1 + 1, 2, none⟩, .int .i64 0)] w _ := g0.set 7 (w.heap.size + 1 + 1) 1 _ (.int .i64 (c1 + X1)) rfl (by simp [List.forall_mem_cons] <;> omega) (by omega)
      have g2 : Lf w.heap.size (w.heap.size + 1 + 1 + 1) [(⟨w.heap.size, 0, none⟩, .int .i64 (c0 + X0)), (⟨w.heap.size, 1, none⟩, .int .i64 (c1 + X1)), (⟨w.heap.size, 2, none⟩, .int .i64 (c2 + X2)), (⟨w.heap.size + 1, 0, none⟩, .int .i64 a0), (⟨w.heap.size + 1, 1, none⟩, .int .i64 a1), (⟨w.heap.size + 1, 2, none⟩, .int .i64 a2), (⟨w.heap.size + 1 + 1, 0, none⟩, .int .i64 (c0 + X0)), (⟨w.heap.size + 1 + 1, 1, none⟩, .int .i64 (c1 + X1)), (⟨w.heap.size + 1 + 1, 2, none⟩, .int .i64 (c2 + X2))] w _ := g1.set 8 (w.heap.size + 1 + 1) 2 _ (.int .i64 (c2 + X2)) rfl (by simp [List.forall_mem_cons] <;> omega) (by omega)
      have kc := g2.cells
      simp only [List.forall_mem_cons, List.not_mem_nil, false_implies, implies_true, and_true] at kc
      obtain ⟨zz0, zz1, zz2, zz3, zz4, zz5, zz6, zz7, zz8⟩ := kc
      exact bodyPost_ret (v := .tuple #[.agg #[.int .i64 (c0 + X0), .int .i64 (c1 + X1), .int .i64 (c2 + X2)], .bool true]) (by simp [results, Try.results14, go_sem, zz6, zz7, zz8]) rfl ⟨rfl, g2.be⟩
end Go.Proofs.Ytdjopepipcnmdaa
