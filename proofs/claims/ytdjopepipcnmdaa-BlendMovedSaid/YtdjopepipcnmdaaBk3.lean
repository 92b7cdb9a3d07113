/- Proved here: Corner of the reference gives the points of the blend; ranges as stated. -/
import Derived.Test.YtdjopepipcnmdaaBk2
import Derived.OneCell
namespace Go.Proofs.Ytdjopepipcnmdaa
open Go.RowKit
set_option linter.unusedVariables false
set_option linter.unusedSimpArgs false
/-- a slice of n elements of three cells owns its cells, and lies below h -/
structure Own (B e : Nat) (v : Value) (n : Nat) (xs : List Value) (h : Nat) (w : World) : Prop where
  own : w.ownsRow B e 3 v n xs
  lt : ∀ k, v.ownBlock = some k → k < h
theorem Own.next {B e n h : Nat} {v : Value} {xs : List Value} {w w' : World} (o : Own B e v n xs h w) (hb : Below w.heap.size w w') : Own B e v n xs h w' :=
  ⟨o.own.kept (row := none) ⟨hb.os, hb.tape, hb.output, hb.size, fun k hk _ => hb.block k hk⟩ (by cases v.ownBlock <;> simp), o.lt⟩
theorem Own.far {B e n h : Nat} {v : Value} {xs : List Value} {w : World} (o : Own B e v n xs h w) (k : Nat) (u : Value) : Own B e v n xs h (w.setCell ⟨h, k, none⟩ u) :=
  ⟨ownsRow_setCell_other o.own (fun e => by have := o.lt _ e; simp at this) u, o.lt⟩
theorem Lf.grown {B n : Nat} {cs : List (Addr × Value)} {w0 w w' : World} {row : Option Nat} (h : Lf B n cs w0 w) (hg : w.grownBy w' row) (hr : ∀ k, row = some k → n ≤ k) : Lf B n cs w0 w' := by
  have hb : ∀ p ∈ cs, w'.heap[p.1.block]? = w.heap[p.1.block]? := fun p hp => hg.block _ (Nat.lt_of_lt_of_le (h.inn p hp) h.lt) (fun e => by have := hr _ e.symm; have := h.inn p hp; omega)
  exact ⟨fun p hp => (World.cell?_of_block (hb p hp)).trans (h.cells p hp), fun p hp => (World.frozen?_of_block (hb p hp)).trans (h.frz p hp), h.inn, Nat.le_trans h.lt hg.size,
    h.be.grown hg (Nat.le_trans h.le h.lt) (fun k e => Nat.le_trans h.le (hr k e)), h.le⟩
/-- the first m cells of a row -/
def rowL (G : Nat → Value) (m : Nat) : List Value := (List.range m).map G
theorem rowL_length (G : Nat → Value) (m : Nat) : (rowL G m).length = m := by simp [rowL]
theorem rowL_at (G : Nat → Value) {j m : Nat} (h : j < m) : (rowL G m)[j]? = some (G j) := by
  unfold rowL; rw [List.getElem?_map, List.getElem?_range h]; rfl
theorem rowL_step (G : Nat → Value) (i : Nat) {a b c : Value} (h0 : G (i * 3) = a) (h1 : G (i * 3 + 1) = b) (h2 : G (i * 3 + 2) = c) : rowL G (i * 3) ++ [a, b, c] = rowL G ((i + 1) * 3) := by
  unfold rowL
  rw [show (i + 1) * 3 = i * 3 + 1 + 1 + 1 by omega, List.range_succ, List.range_succ, List.range_succ]
  simp [h0, h1, h2]
theorem Own.row {B e n : Nat} {g cap : Nat} {G : Nat → Value} {w : World} (o : w.ownsRow B e 3 (.slice (some ⟨g, 0, none⟩) n cap) n (rowL G (n * 3))) : Row g (3 * n) (3 * n) G w := by
  have hl := o.lt g rfl
  refine ⟨fun j hj => ?_, fun j hj => ?_, fun j _ => o.frozenAt j, hl.2⟩
  · rw [o.cellAt j (by omega)]; exact rowL_at G (by omega)
  · rw [o.cellAt j (by omega)]; exact ⟨G j, rowL_at G (by omega)⟩

set_option maxHeartbeats 8000000 in
set_option maxRecDepth 20000 in
theorem cornerR_walk (a0 a1 a2 c0 c1 c2 b0 b1 b2 tol d p0 p1 p2 q0 q1 q2 : Int) (n : Nat) (w : World) (hn : 1 ≤ n) (hn2 : n ≤ 64) (hc0 : -33554432 ≤ c0 ∧ c0 ≤ 33554432) (hp0 : -67108864 ≤ p0 - c0 ∧ p0 - c0 ≤ 67108864) (hq0 : -67108864 ≤ q0 - c0 ∧ q0 - c0 ≤ 67108864) (hc1 : -33554432 ≤ c1 ∧ c1 ≤ 33554432) (hp1 : -67108864 ≤ p1 - c1 ∧ p1 - c1 ≤ 67108864) (hq1 : -67108864 ≤ q1 - c1 ∧ q1 - c1 ≤ 67108864) (hc2 : -33554432 ≤ c2 ∧ c2 ≤ 33554432) (hp2 : -67108864 ≤ p2 - c2 ∧ p2 - c2 ≤ 67108864) (hq2 : -67108864 ≤ q2 - c2 ∧ q2 - c2 ≤ 67108864) (hd : (d == 0) = false)
    (RC : ∀ w, Hid (Calls Try.prog 19 #[.agg #[.int .i64 a0, .int .i64 a1, .int .i64 a2], .agg #[.int .i64 c0, .int .i64 c1, .int .i64 c2], .agg #[.int .i64 b0, .int .i64 b1, .int .i64 b2], .int .i64 tol] w fun e w' => e = .returned (.int .i64 d) ∧ Below w.heap.size w w'))
    (TA : ∀ w, Hid (Calls Try.prog 15 #[.agg #[.int .i64 c0, .int .i64 c1, .int .i64 c2], .agg #[.int .i64 a0, .int .i64 a1, .int .i64 a2], .int .i64 d] w fun e w' => e = .returned (.tuple #[.agg #[.int .i64 p0, .int .i64 p1, .int .i64 p2], .bool true]) ∧ Below w.heap.size w w'))
    (TB : ∀ w, Hid (Calls Try.prog 15 #[.agg #[.int .i64 c0, .int .i64 c1, .int .i64 c2], .agg #[.int .i64 b0, .int .i64 b1, .int .i64 b2], .int .i64 d] w fun e w' => e = .returned (.tuple #[.agg #[.int .i64 q0, .int .i64 q1, .int .i64 q2], .bool true]) ∧ Below w.heap.size w w'))
    (PC : ∀ w, Hid (Calls Try.prog 21 #[.agg #[.int .i64 p0, .int .i64 p1, .int .i64 p2], .agg #[.int .i64 c0, .int .i64 c1, .int .i64 c2], .agg #[.int .i64 q0, .int .i64 q1, .int .i64 q2]] w fun e w' => e = .returned (.int .i64 (n : Int)) ∧ Below w.heap.size w w')) :
    Calls Try.prog 24 #[.agg #[.int .i64 a0, .int .i64 a1, .int .i64 a2], .agg #[.int .i64 c0, .int .i64 c1, .int .i64 c2], .agg #[.int .i64 b0, .int .i64 b1, .int .i64 b2], .int .i64 tol] w (PostPts (n + 1) (coF n p0 p1 p2 c0 c1 c2 q0 q1 q2) w) := by
  obtain ⟨i0, hi, hz0, hz1, hz2⟩ := info_parts infoPt
  have hT : Lf w.heap.size (w.heap.size + 1 + 1 + 1) [(⟨w.heap.size, 0, none⟩, .int .i64 a0), (⟨w.heap.size, 1, none⟩, .int .i64 a1), (⟨w.heap.size, 2, none⟩, .int .i64 a2), (⟨w.heap.size + 1, 0, none⟩, .int .i64 c0), (⟨w.heap.size + 1, 1, none⟩, .int .i64 c1), (⟨w.heap.size + 1, 2, none⟩, .int .i64 c2), (⟨w.heap.size + 1 + 1, 0, none⟩, .int .i64 b0), (⟨w.heap.size + 1 + 1, 1, none⟩, .int .i64 b1), (⟨w.heap.size + 1 + 1, 2, none⟩, .int .i64 b2)] w (((w.alloc (.cells #[.int .i64 a0, .int .i64 a1, .int .i64 a2] 23)).alloc (.cells #[.int .i64 c0, .int .i64 c1, .int .i64 c2] 23)).alloc (.cells #[.int .i64 b0, .int .i64 b1, .int .i64 b2] 23)) := ⟨by simp [List.forall_mem_cons, go_sem], by simp [List.forall_mem_cons, go_sem], by simp [List.forall_mem_cons] <;> omega, by simp, by (repeat (first | exact Below.refl _ _ | assumption | refine Below.drew ?_ | (refine Below.alloc ?_ (by simp <;> omega) _) | (refine Below.setCell ?_ (by simp <;> omega) _))), by omega⟩
  go_enter Try.func24, Try.ntmps24
  go_wp2_with fail
  refine (RC _).out.mono ?_
  rintro e w1 ⟨rfl, hb1⟩
  have hT := hT.next hb1
  clear RC hb1
  have kc := hT.cells
  have kf := hT.frz
  simp only [List.forall_mem_cons, List.not_mem_nil, false_implies, implies_true, and_true] at kc kf
  obtain ⟨yc0, yc1, yc2, yc3, yc4, yc5, yc6, yc7, yc8⟩ := kc
  obtain ⟨yf0, yf1, yf2, yf3, yf4, yf5, yf6, yf7, yf8⟩ := kf
  go_wp2_with fail
  refine (TA _).out.mono ?_
  rintro e w2 ⟨rfl, hb2⟩
  have hT := hT.next hb2
  clear TA hb2 yc0 yf0 yc1 yf1 yc2 yf2 yc3 yf3 yc4 yf4 yc5 yf5 yc6 yf6 yc7 yf7 yc8 yf8
  have kc := hT.cells
  have kf := hT.frz
  simp only [List.forall_mem_cons, List.not_mem_nil, false_implies, implies_true, and_true] at kc kf
  obtain ⟨yc0, yc1, yc2, yc3, yc4, yc5, yc6, yc7, yc8⟩ := kc
  obtain ⟨yf0, yf1, yf2, yf3, yf4, yf5, yf6, yf7, yf8⟩ := kf
  go_upto_region 5 with fail
  obtain ⟨n1, hn1⟩ : ∃ n1, w2.heap.size = n1 := ⟨_, rfl⟩
  have hl := hT.lt
  have hP := hT.push #[.int .i64 p0, .int .i64 p1, .int .i64 p2] 23
  rewrite [hn1] at hP hl
  rewrite [hn1]
  refine wp_cls (Lf w.heap.size (n1 + 1) [(⟨n1, 0, none⟩, .int .i64 p0), (⟨n1, 1, none⟩, .int .i64 p1), (⟨n1, 2, none⟩, .int .i64 p2), (⟨w.heap.size, 0, none⟩, .int .i64 a0), (⟨w.heap.size, 1, none⟩, .int .i64 a1), (⟨w.heap.size, 2, none⟩, .int .i64 a2), (⟨w.heap.size + 1, 0, none⟩, .int .i64 c0), (⟨w.heap.size + 1, 1, none⟩, .int .i64 c1), (⟨w.heap.size + 1, 2, none⟩, .int .i64 c2), (⟨w.heap.size + 1 + 1, 0, none⟩, .int .i64 b0), (⟨w.heap.size + 1 + 1, 1, none⟩, .int .i64 b1), (⟨w.heap.size + 1 + 1, 2, none⟩, .int .i64 b2)] w) hP ?_
  clear hP hT hn1 yc0 yf0 yc1 yf1 yc2 yf2 yc3 yf3 yc4 yf4 yc5 yf5 yc6 yf6 yc7 yf7 yc8 yf8
  intro w3 hT
  have kc := hT.cells
  have kf := hT.frz
  simp only [List.forall_mem_cons, List.not_mem_nil, false_implies, implies_true, and_true] at kc kf
  obtain ⟨yc0, yc1, yc2, yc3, yc4, yc5, yc6, yc7, yc8, yc9, yc10, yc11⟩ := kc
  obtain ⟨yf0, yf1, yf2, yf3, yf4, yf5, yf6, yf7, yf8, yf9, yf10, yf11⟩ := kf
  go_wp2_with fail
  refine (TB _).out.mono ?_
  rintro e w4 ⟨rfl, hb4⟩
  have hT := hT.next hb4
  clear TB hb4 yc0 yf0 yc1 yf1 yc2 yf2 yc3 yf3 yc4 yf4 yc5 yf5 yc6 yf6 yc7 yf7 yc8 yf8 yc9 yf9 yc10 yf10 yc11 yf11
  have kc := hT.cells
  have kf := hT.frz
  simp only [List.forall_mem_cons, List.not_mem_nil, false_implies, implies_true, and_true] at kc kf
  obtain ⟨yc0, yc1, yc2, yc3, yc4, yc5, yc6, yc7, yc8, yc9, yc10, yc11⟩ := kc
  obtain ⟨yf0, yf1, yf2, yf3, yf4, yf5, yf6, yf7, yf8, yf9, yf10, yf11⟩ := kf
  go_upto_region 6 with fail
  obtain ⟨n2, hn2'⟩ : ∃ n2, w4.heap.size = n2 := ⟨_, rfl⟩
  have hl2 := hT.lt
  have hP := hT.push #[.int .i64 q0, .int .i64 q1, .int .i64 q2] 23
  rewrite [hn2'] at hP hl2
  rewrite [hn2']
  refine wp_cls (Lf w.heap.size (n2 + 1) [(⟨n2, 0, none⟩, .int .i64 q0), (⟨n2, 1, none⟩, .int .i64 q1), (⟨n2, 2, none⟩, .int .i64 q2), (⟨n1, 0, none⟩, .int .i64 p0), (⟨n1, 1, none⟩, .int .i64 p1), (⟨n1, 2, none⟩, .int .i64 p2), (⟨w.heap.size, 0, none⟩, .int .i64 a0), (⟨w.heap.size, 1, none⟩, .int .i64 a1), (⟨w.heap.size, 2, none⟩, .int .i64 a2), (⟨w.heap.size + 1, 0, none⟩, .int .i64 c0), (⟨w.heap.size + 1, 1, none⟩, .int .i64 c1), (⟨w.heap.size + 1, 2, none⟩, .int .i64 c2), (⟨w.heap.size + 1 + 1, 0, none⟩, .int .i64 b0), (⟨w.heap.size + 1 + 1, 1, none⟩, .int .i64 b1), (⟨w.heap.size + 1 + 1, 2, none⟩, .int .i64 b2)] w) hP ?_
  clear hP hT hn2' yc0 yf0 yc1 yf1 yc2 yf2 yc3 yf3 yc4 yf4 yc5 yf5 yc6 yf6 yc7 yf7 yc8 yf8 yc9 yf9 yc10 yf10 yc11 yf11
  intro w5 hT
  have kc := hT.cells
  have kf := hT.frz
  simp only [List.forall_mem_cons, List.not_mem_nil, false_implies, implies_true, and_true] at kc kf
  obtain ⟨yc0, yc1, yc2, yc3, yc4, yc5, yc6, yc7, yc8, yc9, yc10, yc11, yc12, yc13, yc14⟩ := kc
  obtain ⟨yf0, yf1, yf2, yf3, yf4, yf5, yf6, yf7, yf8, yf9, yf10, yf11, yf12, yf13, yf14⟩ := kf
  go_wp2_with fail
  refine (PC _).out.mono ?_
  rintro e w6 ⟨rfl, hb6⟩
  have hT := hT.next hb6
  clear PC hb6 yc0 yf0 yc1 yf1 yc2 yf2 yc3 yf3 yc4 yf4 yc5 yf5 yc6 yf6 yc7 yf7 yc8 yf8 yc9 yf9 yc10 yf10 yc11 yf11 yc12 yf12 yc13 yf13 yc14 yf14
  have kc := hT.cells
  have kf := hT.frz
  simp only [List.forall_mem_cons, List.not_mem_nil, false_implies, implies_true, and_true] at kc kf
  obtain ⟨yc0, yc1, yc2, yc3, yc4, yc5, yc6, yc7, yc8, yc9, yc10, yc11, yc12, yc13, yc14⟩ := kc
  obtain ⟨yf0, yf1, yf2, yf3, yf4, yf5, yf6, yf7, yf8, yf9, yf10, yf11, yf12, yf13, yf14⟩ := kf

  obtain ⟨G, hG⟩ : ∃ G : Nat → Value, (fun j => Value.int .i64 (coF n p0 p1 p2 c0 c1 c2 q0 q1 q2 (j / 3) (j % 3))) = G := ⟨_, rfl⟩
  have HG := Lib.hid hG
  clear hG
  go_wp2_with fail
  go_loopw [15, 16] (fun v t wr => ∃ i : Nat, i ≤ n + 1 ∧ t = .int .i64 (i : Int) ∧ Lf w.heap.size (n2 + 1) [(⟨n2, 0, none⟩, .int .i64 q0), (⟨n2, 1, none⟩, .int .i64 q1), (⟨n2, 2, none⟩, .int .i64 q2), (⟨n1, 0, none⟩, .int .i64 p0), (⟨n1, 1, none⟩, .int .i64 p1), (⟨n1, 2, none⟩, .int .i64 p2), (⟨w.heap.size, 0, none⟩, .int .i64 a0), (⟨w.heap.size, 1, none⟩, .int .i64 a1), (⟨w.heap.size, 2, none⟩, .int .i64 a2), (⟨w.heap.size + 1, 0, none⟩, .int .i64 c0), (⟨w.heap.size + 1, 1, none⟩, .int .i64 c1), (⟨w.heap.size + 1, 2, none⟩, .int .i64 c2), (⟨w.heap.size + 1 + 1, 0, none⟩, .int .i64 b0), (⟨w.heap.size + 1 + 1, 1, none⟩, .int .i64 b1), (⟨w.heap.size + 1 + 1, 2, none⟩, .int .i64 b2)] w wr ∧ wr.ownsRow (n2 + 1) 23 3 v i (rowL G (i * 3))) (fun _ t _ => n + 1 - (intOf t).toNat)
  case atStart => exact ⟨0, Nat.zero_le _, rfl, hT, World.ownsRow_nil _ _ _ _⟩
  case round =>
  clear hT yc0 yf0 yc1 yf1 yc2 yf2 yc3 yf3 yc4 yf4 yc5 yf5 yc6 yf6 yc7 yf7 yc8 yf8 yc9 yf9 yc10 yf10 yc11 yf11 yc12 yf12 yc13 yf13 yc14 yf14
  obtain ⟨i, hin, rfl, hT, hO⟩ := hrel
  by_cases hlt : i < n + 1
  · have hdec : decide ((i : Int) ≤ (n : Int)) = true := decide_eq_true (by omega)
    have hi0 : (0 : Int) ≤ i := by omega
    have hin0 : (i : Int) ≤ n := by omega
    have hn64 : (n : Int) ≤ 64 := by omega
    have hnn0 := sqnn (n : Int)
    have hnn1 : (n : Int) * n ≤ 4096 := by
      have := Int.mul_le_mul hn64 hn64 (by omega) (by omega)
      omega
    have ii0 := sqnn (i : Int)
    have ii1 : (i : Int) * i ≤ 4096 := by
      have := Int.mul_le_mul (show (i : Int) ≤ 64 by omega) (show (i : Int) ≤ 64 by omega) (by omega) (by omega)
      omega
    have kk0 := sqnn ((n : Int) - i)
    have kk1 : ((n : Int) - i) * (n - i) ≤ 4096 := by
      have := Int.mul_le_mul (show (n : Int) - i ≤ 64 by omega) (show (n : Int) - i ≤ 64 by omega) (by omega) (by omega)
      omega
    have WA := Lib.hid (wr_in (n := (n : Int) - i) (by omega) (by omega))
    have WM := Lib.hid (wr_in (n := ((n : Int) - i) * (n - i)) (by omega) (by omega))
    have WI := Lib.hid (wr_in (n := (i : Int) * i) (by omega) (by omega))
    have WN := Lib.hid (wr_in (n := (n : Int) * n) (by omega) (by omega))
    have HV0 : Hid (G (i * 3) = .int .i64 (c0 + coI n (p0 - c0) (q0 - c0) i)) := by
      show G (i * 3) = _
      rw [← HG.out]
      show Value.int .i64 (coF n p0 p1 p2 c0 c1 c2 q0 q1 q2 ((i * 3) / 3) ((i * 3) % 3)) = _
      rw [show (i * 3) / 3 = i by omega, show (i * 3) % 3 = 0 by omega]
      rfl
    have hv0 := coI_neg_bound (n := n) (x := p0 - c0) (y := q0 - c0) (i := i) (lo := -67108864) (by omega) hi0 hin0 (by decide) hp0.1 hq0.1
    have hv1 := coI_le (n := n) (x := p0 - c0) (y := q0 - c0) (i := i) (hi := 67108864) (by omega) hi0 hin0 (by decide) hp0.2 hq0.2
    have WV0 := Lib.hid (wr_in (n := c0 + coI n (p0 - c0) (q0 - c0) i) (by omega) (by omega))
    obtain ⟨mx0, mx1⟩ := mul_bd3 kk0 kk1 hp0.1 hp0.2
    obtain ⟨my0, my1⟩ := mul_bd3 ii0 ii1 hq0.1 hq0.2
    have RD0 : ∀ w, Hid (Calls Try.prog 36 #[.int .i64 (IntKind.i64.wrap (IntKind.i64.wrap (IntKind.i64.wrap (IntKind.i64.wrap ((n : Int) - i) * IntKind.i64.wrap ((n : Int) - i)) * IntKind.i64.wrap (p0 - c0)) + IntKind.i64.wrap (IntKind.i64.wrap ((i : Int) * i) * IntKind.i64.wrap (q0 - c0)))), .int .i64 (IntKind.i64.wrap ((n : Int) * n))] w fun e w' => e = .returned (.int .i64 (coI n (p0 - c0) (q0 - c0) i)) ∧ w' = w) := by
      intro w
      rw [WA.out, WM.out, WI.out, WN.out, wr_in (n := p0 - c0) (by omega) (by omega), wr_in (n := q0 - c0) (by omega) (by omega), wr_in (n := ((n : Int) - i) * (n - i) * (p0 - c0)) (by omega) (by omega), wr_in (n := (i : Int) * i * (q0 - c0)) (by omega) (by omega), wr_in (n := ((n : Int) - i) * (n - i) * (p0 - c0) + i * i * (q0 - c0)) (by omega) (by omega)]
      exact (roundedR_any (((n : Int) - i) * (n - i) * (p0 - c0) + i * i * (q0 - c0)) ((n : Int) * n) w (by omega) (by omega) (nn_pos (by omega)) (by omega)).mono fun e w' h => ⟨h.1, h.2.symm⟩
    obtain ⟨V0, hV0⟩ : ∃ V, coI n (p0 - c0) (q0 - c0) i = V := ⟨_, rfl⟩
    rewrite [hV0] at HV0 RD0 WV0
    clear hV0 hv0 hv1 mx0 mx1 my0 my1
    have HV1 : Hid (G (i * 3 + 1) = .int .i64 (c1 + coI n (p1 - c1) (q1 - c1) i)) := by
      show G (i * 3 + 1) = _
      rw [← HG.out]
      show Value.int .i64 (coF n p0 p1 p2 c0 c1 c2 q0 q1 q2 ((i * 3 + 1) / 3) ((i * 3 + 1) % 3)) = _
      rw [show (i * 3 + 1) / 3 = i by omega, show (i * 3 + 1) % 3 = 1 by omega]
      rfl
    have hv0 := coI_neg_bound (n := n) (x := p1 - c1) (y := q1 - c1) (i := i) (lo := -67108864) (by omega) hi0 hin0 (by decide) hp1.1 hq1.1
    have hv1 := coI_le (n := n) (x := p1 - c1) (y := q1 - c1) (i := i) (hi := 67108864) (by omega) hi0 hin0 (by decide) hp1.2 hq1.2
    have WV1 := Lib.hid (wr_in (n := c1 + coI n (p1 - c1) (q1 - c1) i) (by omega) (by omega))
    obtain ⟨mx0, mx1⟩ := mul_bd3 kk0 kk1 hp1.1 hp1.2
    obtain ⟨my0, my1⟩ := mul_bd3 ii0 ii1 hq1.1 hq1.2
    have RD1 : ∀ w, Hid (Calls Try.prog 36 #[.int .i64 (IntKind.i64.wrap (IntKind.i64.wrap (IntKind.i64.wrap (IntKind.i64.wrap ((n : Int) - i) * IntKind.i64.wrap ((n : Int) - i)) * IntKind.i64.wrap (p1 - c1)) + IntKind.i64.wrap (IntKind.i64.wrap ((i : Int) * i) * IntKind.i64.wrap (q1 - c1)))), .int .i64 (IntKind.i64.wrap ((n : Int) * n))] w fun e w' => e = .returned (.int .i64 (coI n (p1 - c1) (q1 - c1) i)) ∧ w' = w) := by
      intro w
      rw [WA.out, WM.out, WI.out, WN.out, wr_in (n := p1 - c1) (by omega) (by omega), wr_in (n := q1 - c1) (by omega) (by omega), wr_in (n := ((n : Int) - i) * (n - i) * (p1 - c1)) (by omega) (by omega), wr_in (n := (i : Int) * i * (q1 - c1)) (by omega) (by omega), wr_in (n := ((n : Int) - i) * (n - i) * (p1 - c1) + i * i * (q1 - c1)) (by omega) (by omega)]
      exact (roundedR_any (((n : Int) - i) * (n - i) * (p1 - c1) + i * i * (q1 - c1)) ((n : Int) * n) w (by omega) (by omega) (nn_pos (by omega)) (by omega)).mono fun e w' h => ⟨h.1, h.2.symm⟩
    obtain ⟨V1, hV1⟩ : ∃ V, coI n (p1 - c1) (q1 - c1) i = V := ⟨_, rfl⟩
    rewrite [hV1] at HV1 RD1 WV1
    clear hV1 hv0 hv1 mx0 mx1 my0 my1
    have HV2 : Hid (G (i * 3 + 2) = .int .i64 (c2 + coI n (p2 - c2) (q2 - c2) i)) := by
      show G (i * 3 + 2) = _
      rw [← HG.out]
      show Value.int .i64 (coF n p0 p1 p2 c0 c1 c2 q0 q1 q2 ((i * 3 + 2) / 3) ((i * 3 + 2) % 3)) = _
      rw [show (i * 3 + 2) / 3 = i by omega, show (i * 3 + 2) % 3 = 2 by omega]
      rfl
    have hv0 := coI_neg_bound (n := n) (x := p2 - c2) (y := q2 - c2) (i := i) (lo := -67108864) (by omega) hi0 hin0 (by decide) hp2.1 hq2.1
    have hv1 := coI_le (n := n) (x := p2 - c2) (y := q2 - c2) (i := i) (hi := 67108864) (by omega) hi0 hin0 (by decide) hp2.2 hq2.2
    have WV2 := Lib.hid (wr_in (n := c2 + coI n (p2 - c2) (q2 - c2) i) (by omega) (by omega))
    obtain ⟨mx0, mx1⟩ := mul_bd3 kk0 kk1 hp2.1 hp2.2
    obtain ⟨my0, my1⟩ := mul_bd3 ii0 ii1 hq2.1 hq2.2
    have RD2 : ∀ w, Hid (Calls Try.prog 36 #[.int .i64 (IntKind.i64.wrap (IntKind.i64.wrap (IntKind.i64.wrap (IntKind.i64.wrap ((n : Int) - i) * IntKind.i64.wrap ((n : Int) - i)) * IntKind.i64.wrap (p2 - c2)) + IntKind.i64.wrap (IntKind.i64.wrap ((i : Int) * i) * IntKind.i64.wrap (q2 - c2)))), .int .i64 (IntKind.i64.wrap ((n : Int) * n))] w fun e w' => e = .returned (.int .i64 (coI n (p2 - c2) (q2 - c2) i)) ∧ w' = w) := by
      intro w
      rw [WA.out, WM.out, WI.out, WN.out, wr_in (n := p2 - c2) (by omega) (by omega), wr_in (n := q2 - c2) (by omega) (by omega), wr_in (n := ((n : Int) - i) * (n - i) * (p2 - c2)) (by omega) (by omega), wr_in (n := (i : Int) * i * (q2 - c2)) (by omega) (by omega), wr_in (n := ((n : Int) - i) * (n - i) * (p2 - c2) + i * i * (q2 - c2)) (by omega) (by omega)]
      exact (roundedR_any (((n : Int) - i) * (n - i) * (p2 - c2) + i * i * (q2 - c2)) ((n : Int) * n) w (by omega) (by omega) (nn_pos (by omega)) (by omega)).mono fun e w' h => ⟨h.1, h.2.symm⟩
    obtain ⟨V2, hV2⟩ : ∃ V, coI n (p2 - c2) (q2 - c2) i = V := ⟨_, rfl⟩
    rewrite [hV2] at HV2 RD2 WV2
    clear hV2 hv0 hv1 mx0 mx1 my0 my1
    clear WA WM WI WN hnn0 hnn1 ii0 ii1 kk0 kk1 hp0 hq0 hp1 hq1 hp2 hq2
    have kc := hT.cells
    have kf := hT.frz
    simp only [List.forall_mem_cons, List.not_mem_nil, false_implies, implies_true, and_true] at kc kf
    obtain ⟨yc0, yc1, yc2, yc3, yc4, yc5, yc6, yc7, yc8, yc9, yc10, yc11, yc12, yc13, yc14⟩ := kc
    obtain ⟨yf0, yf1, yf2, yf3, yf4, yf5, yf6, yf7, yf8, yf9, yf10, yf11, yf12, yf13, yf14⟩ := kf
    go_upto_region 12 with fail
    obtain ⟨h, hh⟩ : ∃ h, wr.heap.size = h := ⟨_, rfl⟩
    have hlh := hT.lt
    have hP := hT.push #[.int .i64 c0, .int .i64 c1, .int .i64 c2] 23
    have hO2 : Own (n2 + 1) 23 u15 i (rowL G (i * 3)) h (wr.alloc (.cells #[.int .i64 c0, .int .i64 c1, .int .i64 c2] 23)) := ⟨hO.alloc _, fun k e => by rw [← hh]; exact (hO.lt k e).2⟩
    rewrite [hh] at hP hlh
    rewrite [hh]
    obtain ⟨xs, hxs⟩ : ∃ xs, rowL G (i * 3) = xs := ⟨_, rfl⟩
    rewrite [hxs] at hO2
    have HX := Lib.hid hxs
    clear hxs
    refine wp_cls ((Both (Lf w.heap.size (h + 1) [(⟨h, 0, none⟩, .int .i64 c0), (⟨h, 1, none⟩, .int .i64 c1), (⟨h, 2, none⟩, .int .i64 c2), (⟨n2, 0, none⟩, .int .i64 q0), (⟨n2, 1, none⟩, .int .i64 q1), (⟨n2, 2, none⟩, .int .i64 q2), (⟨n1, 0, none⟩, .int .i64 p0), (⟨n1, 1, none⟩, .int .i64 p1), (⟨n1, 2, none⟩, .int .i64 p2), (⟨w.heap.size, 0, none⟩, .int .i64 a0), (⟨w.heap.size, 1, none⟩, .int .i64 a1), (⟨w.heap.size, 2, none⟩, .int .i64 a2), (⟨w.heap.size + 1, 0, none⟩, .int .i64 c0), (⟨w.heap.size + 1, 1, none⟩, .int .i64 c1), (⟨w.heap.size + 1, 2, none⟩, .int .i64 c2), (⟨w.heap.size + 1 + 1, 0, none⟩, .int .i64 b0), (⟨w.heap.size + 1 + 1, 1, none⟩, .int .i64 b1), (⟨w.heap.size + 1 + 1, 2, none⟩, .int .i64 b2)] w) (Own (n2 + 1) 23 u15 i xs h))) ⟨hP, hO2⟩ ?_
    clear hP hO2 hT hO hh yc0 yf0 yc1 yf1 yc2 yf2 yc3 yf3 yc4 yf4 yc5 yf5 yc6 yf6 yc7 yf7 yc8 yf8 yc9 yf9 yc10 yf10 yc11 yf11 yc12 yf12 yc13 yf13 yc14 yf14
    intro wx hT
    go_wp2_with fail
    go_loopw [52] (fun t wr => (t = .int .i64 0 ∧ (Both (Lf w.heap.size (h + 1) [(⟨h, 0, none⟩, .int .i64 c0), (⟨h, 1, none⟩, .int .i64 c1), (⟨h, 2, none⟩, .int .i64 c2), (⟨n2, 0, none⟩, .int .i64 q0), (⟨n2, 1, none⟩, .int .i64 q1), (⟨n2, 2, none⟩, .int .i64 q2), (⟨n1, 0, none⟩, .int .i64 p0), (⟨n1, 1, none⟩, .int .i64 p1), (⟨n1, 2, none⟩, .int .i64 p2), (⟨w.heap.size, 0, none⟩, .int .i64 a0), (⟨w.heap.size, 1, none⟩, .int .i64 a1), (⟨w.heap.size, 2, none⟩, .int .i64 a2), (⟨w.heap.size + 1, 0, none⟩, .int .i64 c0), (⟨w.heap.size + 1, 1, none⟩, .int .i64 c1), (⟨w.heap.size + 1, 2, none⟩, .int .i64 c2), (⟨w.heap.size + 1 + 1, 0, none⟩, .int .i64 b0), (⟨w.heap.size + 1 + 1, 1, none⟩, .int .i64 b1), (⟨w.heap.size + 1 + 1, 2, none⟩, .int .i64 b2)] w) (Own (n2 + 1) 23 u15 i xs h)) wr) ∨ (t = .int .i64 1 ∧ (Both (Lf w.heap.size (h + 1) [(⟨h, 0, none⟩, .int .i64 (c0 + V0)), (⟨h, 1, none⟩, .int .i64 c1), (⟨h, 2, none⟩, .int .i64 c2), (⟨n2, 0, none⟩, .int .i64 q0), (⟨n2, 1, none⟩, .int .i64 q1), (⟨n2, 2, none⟩, .int .i64 q2), (⟨n1, 0, none⟩, .int .i64 p0), (⟨n1, 1, none⟩, .int .i64 p1), (⟨n1, 2, none⟩, .int .i64 p2), (⟨w.heap.size, 0, none⟩, .int .i64 a0), (⟨w.heap.size, 1, none⟩, .int .i64 a1), (⟨w.heap.size, 2, none⟩, .int .i64 a2), (⟨w.heap.size + 1, 0, none⟩, .int .i64 c0), (⟨w.heap.size + 1, 1, none⟩, .int .i64 c1), (⟨w.heap.size + 1, 2, none⟩, .int .i64 c2), (⟨w.heap.size + 1 + 1, 0, none⟩, .int .i64 b0), (⟨w.heap.size + 1 + 1, 1, none⟩, .int .i64 b1), (⟨w.heap.size + 1 + 1, 2, none⟩, .int .i64 b2)] w) (Own (n2 + 1) 23 u15 i xs h)) wr) ∨ (t = .int .i64 2 ∧ (Both (Lf w.heap.size (h + 1) [(⟨h, 0, none⟩, .int .i64 (c0 + V0)), (⟨h, 1, none⟩, .int .i64 (c1 + V1)), (⟨h, 2, none⟩, .int .i64 c2), (⟨n2, 0, none⟩, .int .i64 q0), (⟨n2, 1, none⟩, .int .i64 q1), (⟨n2, 2, none⟩, .int .i64 q2), (⟨n1, 0, none⟩, .int .i64 p0), (⟨n1, 1, none⟩, .int .i64 p1), (⟨n1, 2, none⟩, .int .i64 p2), (⟨w.heap.size, 0, none⟩, .int .i64 a0), (⟨w.heap.size, 1, none⟩, .int .i64 a1), (⟨w.heap.size, 2, none⟩, .int .i64 a2), (⟨w.heap.size + 1, 0, none⟩, .int .i64 c0), (⟨w.heap.size + 1, 1, none⟩, .int .i64 c1), (⟨w.heap.size + 1, 2, none⟩, .int .i64 c2), (⟨w.heap.size + 1 + 1, 0, none⟩, .int .i64 b0), (⟨w.heap.size + 1 + 1, 1, none⟩, .int .i64 b1), (⟨w.heap.size + 1 + 1, 2, none⟩, .int .i64 b2)] w) (Own (n2 + 1) 23 u15 i xs h)) wr) ∨ (t = .int .i64 3 ∧ (Both (Lf w.heap.size (h + 1) [(⟨h, 0, none⟩, .int .i64 (c0 + V0)), (⟨h, 1, none⟩, .int .i64 (c1 + V1)), (⟨h, 2, none⟩, .int .i64 (c2 + V2)), (⟨n2, 0, none⟩, .int .i64 q0), (⟨n2, 1, none⟩, .int .i64 q1), (⟨n2, 2, none⟩, .int .i64 q2), (⟨n1, 0, none⟩, .int .i64 p0), (⟨n1, 1, none⟩, .int .i64 p1), (⟨n1, 2, none⟩, .int .i64 p2), (⟨w.heap.size, 0, none⟩, .int .i64 a0), (⟨w.heap.size, 1, none⟩, .int .i64 a1), (⟨w.heap.size, 2, none⟩, .int .i64 a2), (⟨w.heap.size + 1, 0, none⟩, .int .i64 c0), (⟨w.heap.size + 1, 1, none⟩, .int .i64 c1), (⟨w.heap.size + 1, 2, none⟩, .int .i64 c2), (⟨w.heap.size + 1 + 1, 0, none⟩, .int .i64 b0), (⟨w.heap.size + 1 + 1, 1, none⟩, .int .i64 b1), (⟨w.heap.size + 1 + 1, 2, none⟩, .int .i64 b2)] w) (Own (n2 + 1) 23 u15 i xs h)) wr)) (fun t _ => 3 - (intOf t).toNat)
    case atStart => exact Or.inl ⟨rfl, hT⟩
    case round =>
    clear hT
    rcases hrel with ⟨rfl, hT⟩ | ⟨rfl, hT⟩ | ⟨rfl, hT⟩ | ⟨rfl, hT⟩

    · have kc := hT.l.cells
      have kf := hT.l.frz
      simp only [List.forall_mem_cons, List.not_mem_nil, false_implies, implies_true, and_true] at kc kf
      obtain ⟨yc0, yc1, yc2, yc3, yc4, yc5, yc6, yc7, yc8, yc9, yc10, yc11, yc12, yc13, yc14, yc15, yc16, yc17⟩ := kc
      obtain ⟨yf0, yf1, yf2, yf3, yf4, yf5, yf6, yf7, yf8, yf9, yf10, yf11, yf12, yf13, yf14, yf15, yf16, yf17⟩ := kf
      go_upto_region 15 with fail
      refine wp_region_still_tail 36 (by kernel_rfl) (by kernel_rfl) ?_
      simp only [List.take_succ_cons, List.take_zero, List.drop_succ_cons, List.drop_zero]
      change wpStill _ _ (World.drew _) _ _ _
      iterate 33 still_step
      still_call ((RD0 _).out)
      iterate 2 still_step
      refine wpStill_nil ?_
      change wpList _ _ _ _ _ (World.drew _)
      rewrite [WV0.out]
      go_wp2_with fail
      go_roundw
      case rel =>
        have g : Lf w.heap.size (h + 1) [(⟨h, 0, none⟩, .int .i64 (c0 + V0)), (⟨h, 1, none⟩, .int .i64 c1), (⟨h, 2, none⟩, .int .i64 c2), (⟨n2, 0, none⟩, .int .i64 q0), (⟨n2, 1, none⟩, .int .i64 q1), (⟨n2, 2, none⟩, .int .i64 q2), (⟨n1, 0, none⟩, .int .i64 p0), (⟨n1, 1, none⟩, .int .i64 p1), (⟨n1, 2, none⟩, .int .i64 p2), (⟨w.heap.size, 0, none⟩, .int .i64 a0), (⟨w.heap.size, 1, none⟩, .int .i64 a1), (⟨w.heap.size, 2, none⟩, .int .i64 a2), (⟨w.heap.size + 1, 0, none⟩, .int .i64 c0), (⟨w.heap.size + 1, 1, none⟩, .int .i64 c1), (⟨w.heap.size + 1, 2, none⟩, .int .i64 c2), (⟨w.heap.size + 1 + 1, 0, none⟩, .int .i64 b0), (⟨w.heap.size + 1 + 1, 1, none⟩, .int .i64 b1), (⟨w.heap.size + 1 + 1, 2, none⟩, .int .i64 b2)] w _ := hT.l.set 0 h 0 _ (.int .i64 (c0 + V0)) rfl (by simp [List.forall_mem_cons] <;> omega) (by have := hT.l.le; have := hT.l.be.size; omega)
        have o := hT.r.far 0 (.int .i64 (c0 + V0))
        exact Or.inr (Or.inl ⟨rfl, g.next (Below.refl _ _).drew, o.next (Below.refl _ _).drew⟩)
      case measure => simp [intOf]
    · have kc := hT.l.cells
      have kf := hT.l.frz
      simp only [List.forall_mem_cons, List.not_mem_nil, false_implies, implies_true, and_true] at kc kf
      obtain ⟨yc0, yc1, yc2, yc3, yc4, yc5, yc6, yc7, yc8, yc9, yc10, yc11, yc12, yc13, yc14, yc15, yc16, yc17⟩ := kc
      obtain ⟨yf0, yf1, yf2, yf3, yf4, yf5, yf6, yf7, yf8, yf9, yf10, yf11, yf12, yf13, yf14, yf15, yf16, yf17⟩ := kf
      go_upto_region 15 with fail
      refine wp_region_still_tail 36 (by kernel_rfl) (by kernel_rfl) ?_
      simp only [List.take_succ_cons, List.take_zero, List.drop_succ_cons, List.drop_zero]
      change wpStill _ _ (World.drew _) _ _ _
      iterate 33 still_step
      still_call ((RD1 _).out)
      iterate 2 still_step
      refine wpStill_nil ?_
      change wpList _ _ _ _ _ (World.drew _)
      rewrite [WV1.out]
      go_wp2_with fail
      go_roundw
      case rel =>
        have g : Lf w.heap.size (h + 1) [(⟨h, 0, none⟩, .int .i64 (c0 + V0)), (⟨h, 1, none⟩, .int .i64 (c1 + V1)), (⟨h, 2, none⟩, .int .i64 c2), (⟨n2, 0, none⟩, .int .i64 q0), (⟨n2, 1, none⟩, .int .i64 q1), (⟨n2, 2, none⟩, .int .i64 q2), (⟨n1, 0, none⟩, .int .i64 p0), (⟨n1, 1, none⟩, .int .i64 p1), (⟨n1, 2, none⟩, .int .i64 p2), (⟨w.heap.size, 0, none⟩, .int .i64 a0), (⟨w.heap.size, 1, none⟩, .int .i64 a1), (⟨w.heap.size, 2, none⟩, .int .i64 a2), (⟨w.heap.size + 1, 0, none⟩, .int .i64 c0), (⟨w.heap.size + 1, 1, none⟩, .int .i64 c1), (⟨w.heap.size + 1, 2, none⟩, .int .i64 c2), (⟨w.heap.size + 1 + 1, 0, none⟩, .int .i64 b0), (⟨w.heap.size + 1 + 1, 1, none⟩, .int .i64 b1), (⟨w.heap.size + 1 + 1, 2, none⟩, .int .i64 b2)] w _ := hT.l.set 1 h 1 _ (.int .i64 (c1 + V1)) rfl (by simp [List.forall_mem_cons] <;> omega) (by have := hT.l.le; have := hT.l.be.size; omega)
        have o := hT.r.far 1 (.int .i64 (c1 + V1))
        exact Or.inr (Or.inr (Or.inl ⟨rfl, g.next (Below.refl _ _).drew, o.next (Below.refl _ _).drew⟩))
      case measure => simp [intOf]
    · have kc := hT.l.cells
      have kf := hT.l.frz
      simp only [List.forall_mem_cons, List.not_mem_nil, false_implies, implies_true, and_true] at kc kf
      obtain ⟨yc0, yc1, yc2, yc3, yc4, yc5, yc6, yc7, yc8, yc9, yc10, yc11, yc12, yc13, yc14, yc15, yc16, yc17⟩ := kc
      obtain ⟨yf0, yf1, yf2, yf3, yf4, yf5, yf6, yf7, yf8, yf9, yf10, yf11, yf12, yf13, yf14, yf15, yf16, yf17⟩ := kf
      go_upto_region 15 with fail
      refine wp_region_still_tail 36 (by kernel_rfl) (by kernel_rfl) ?_
      simp only [List.take_succ_cons, List.take_zero, List.drop_succ_cons, List.drop_zero]
      change wpStill _ _ (World.drew _) _ _ _
      iterate 33 still_step
      still_call ((RD2 _).out)
      iterate 2 still_step
      refine wpStill_nil ?_
      change wpList _ _ _ _ _ (World.drew _)
      rewrite [WV2.out]
      go_wp2_with fail
      go_roundw
      case rel =>
        have g : Lf w.heap.size (h + 1) [(⟨h, 0, none⟩, .int .i64 (c0 + V0)), (⟨h, 1, none⟩, .int .i64 (c1 + V1)), (⟨h, 2, none⟩, .int .i64 (c2 + V2)), (⟨n2, 0, none⟩, .int .i64 q0), (⟨n2, 1, none⟩, .int .i64 q1), (⟨n2, 2, none⟩, .int .i64 q2), (⟨n1, 0, none⟩, .int .i64 p0), (⟨n1, 1, none⟩, .int .i64 p1), (⟨n1, 2, none⟩, .int .i64 p2), (⟨w.heap.size, 0, none⟩, .int .i64 a0), (⟨w.heap.size, 1, none⟩, .int .i64 a1), (⟨w.heap.size, 2, none⟩, .int .i64 a2), (⟨w.heap.size + 1, 0, none⟩, .int .i64 c0), (⟨w.heap.size + 1, 1, none⟩, .int .i64 c1), (⟨w.heap.size + 1, 2, none⟩, .int .i64 c2), (⟨w.heap.size + 1 + 1, 0, none⟩, .int .i64 b0), (⟨w.heap.size + 1 + 1, 1, none⟩, .int .i64 b1), (⟨w.heap.size + 1 + 1, 2, none⟩, .int .i64 b2)] w _ := hT.l.set 2 h 2 _ (.int .i64 (c2 + V2)) rfl (by simp [List.forall_mem_cons] <;> omega) (by have := hT.l.le; have := hT.l.be.size; omega)
        have o := hT.r.far 2 (.int .i64 (c2 + V2))
        exact Or.inr (Or.inr (Or.inr ⟨rfl, g.next (Below.refl _ _).drew, o.next (Below.refl _ _).drew⟩))
      case measure => simp [intOf]
    · have kc := hT.l.cells
      have kf := hT.l.frz
      simp only [List.forall_mem_cons, List.not_mem_nil, false_implies, implies_true, and_true] at kc kf
      obtain ⟨yc0, yc1, yc2, yc3, yc4, yc5, yc6, yc7, yc8, yc9, yc10, yc11, yc12, yc13, yc14, yc15, yc16, yc17⟩ := kc
      obtain ⟨yf0, yf1, yf2, yf3, yf4, yf5, yf6, yf7, yf8, yf9, yf10, yf11, yf12, yf13, yf14, yf15, yf16, yf17⟩ := kf
      have hrow := hT.r.own
      have hsz := hT.l.lt
      go_wp2_with (at_builtin; refine wpList_append_own _ rfl _ _ 34 rfl (n2 + 1) 23 i0 (.agg #[.int .i64 0, .int .i64 0, .int .i64 0]) 3 24 Try.underlying34 hi hz0 hz1 hz2 rfl (by decide) _ _ _ rfl (hrow.alloc _) ⟨wr.heap.size, 0, none⟩ 1 1 [.int .i64 (c0 + V0), .int .i64 (c1 + V1), .int .i64 (c2 + V2)] rfl rfl ?c1 ?c2 ?c3 ?c4 ?c5 ?_)
      case c1 =>
        intro j u hj
        match j, hj with
        | 0, hj => simp at hj; subst hj; simp [Addr.add, go_sem]
        | 1, hj => simp at hj; subst hj; simp [Addr.add, go_sem]
        | 2, hj => simp at hj; subst hj; simp [Addr.add, go_sem]
        | j + 3, hj => simp at hj
      case c2 => intro u hu; simp at hu; rcases hu with rfl | rfl | rfl <;> rfl
      case c3 => unfold maxLen; omega
      case c4 => omega
      case c5 => simp; omega
      intro v' w' hown' hgrow _
      rw [← HX.out, rowL_step G i HV0.out HV1.out HV2.out] at hown'
      have hTx := (hT.l.next (w' := wr.alloc (.cells #[.int .i64 (c0 + V0), .int .i64 (c1 + V1), .int .i64 (c2 + V2)] 23)) ((Below.refl _ _).alloc (Nat.le_refl _) _)).cut (ds := [(⟨n2, 0, none⟩, .int .i64 q0), (⟨n2, 1, none⟩, .int .i64 q1), (⟨n2, 2, none⟩, .int .i64 q2), (⟨n1, 0, none⟩, .int .i64 p0), (⟨n1, 1, none⟩, .int .i64 p1), (⟨n1, 2, none⟩, .int .i64 p2), (⟨w.heap.size, 0, none⟩, .int .i64 a0), (⟨w.heap.size, 1, none⟩, .int .i64 a1), (⟨w.heap.size, 2, none⟩, .int .i64 a2), (⟨w.heap.size + 1, 0, none⟩, .int .i64 c0), (⟨w.heap.size + 1, 1, none⟩, .int .i64 c1), (⟨w.heap.size + 1, 2, none⟩, .int .i64 c2), (⟨w.heap.size + 1 + 1, 0, none⟩, .int .i64 b0), (⟨w.heap.size + 1 + 1, 1, none⟩, .int .i64 b1), (⟨w.heap.size + 1 + 1, 2, none⟩, .int .i64 b2)]) (m := n2 + 1) (fun p hp => List.mem_cons_of_mem _ (List.mem_cons_of_mem _ (List.mem_cons_of_mem _ hp))) (by simp [List.forall_mem_cons] <;> omega) (by omega) (by omega)
      have hTy := hTx.grown hgrow (fun k e => (hrow.lt k e).1)
      clear hT hTx hgrow hrow hsz yc0 yf0 yc1 yf1 yc2 yf2 yc3 yf3 yc4 yf4 yc5 yf5 yc6 yf6 yc7 yf7 yc8 yf8 yc9 yf9 yc10 yf10 yc11 yf11 yc12 yf12 yc13 yf13 yc14 yf14 yc15 yf15 yc16 yf16 yc17 yf17
      go_wp2_with fail
      go_roundw
      case rel => exact ⟨i + 1, by omega, by go_num, hTy, hown'⟩
      case measure => simp [intOf]; omega
  · have hdec : decide ((i : Int) ≤ (n : Int)) = false := decide_eq_false (by omega)
    go_wp2_with fail
    obtain rfl : i = n + 1 := by omega
    rcases hO.2 with ⟨rfl, he⟩ | ⟨g, cap, cur, rfl, hb, _⟩
    · omega
    · have hR := Own.row hO
      rw [← HG.out] at hR
      go_ret
      exact ⟨g, cap, rfl, by have := hT.le; omega, hR, hT.be⟩
end Go.Proofs.Ytdjopepipcnmdaa