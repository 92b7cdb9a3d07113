/- Proved here: items as data; the axes of a plane; subunits; what is within the limits; the reference's root; ranges as stated. -/
import Derived.Test.YtkjjoclbjkpdaaaNa6R
import Derived.Test.YtkjjoclbjkpdaaaLr5R
import Derived.Test.YtkjjoclbjkpdaaaKc3R
import Derived.BigQuiet
namespace Go.Proofs.Ytkjjoclbjkpdaaa
open Go.RowKit
set_option linter.unusedVariables false
set_option linter.unusedSimpArgs false
structure Itm where
  kind : Int
  block : Int
  fx : Int
  fy : Int
  fz : Int
  tx : Int
  ty : Int
  tz : Int
  plane : Int
  cx : Int
  cy : Int
  cz : Int
  dir : Int
  full : Bool
  feed : Int
  perrev : Bool
  side : Int
  radius : Int
  blend : Int
  n : Int
  speed : Int
  on : Bool
def plU (k x y z : Int) : Int := if k = 17 then x else if k = 18 then z else y
def plW (k x y z : Int) : Int := if k = 17 then y else if k = 18 then x else z
def plH (k x y z : Int) : Int := if k = 17 then z else if k = 18 then y else x
def spX (k u v h : Int) : Int := if k = 17 then u else if k = 18 then v else h
def spY (k u v h : Int) : Int := if k = 17 then v else if k = 18 then h else u
def spZ (k u v h : Int) : Int := if k = 17 then h else if k = 18 then u else v
def PlK (k : Int) : Prop := k = 17 ∨ k = 18 ∨ k = 19
theorem plU_bd {k x y z l : Int} (hx : -l ≤ x ∧ x ≤ l) (hy : -l ≤ y ∧ y ≤ l) (hz : -l ≤ z ∧ z ≤ l) : -l ≤ plU k x y z ∧ plU k x y z ≤ l := by unfold plU; split; exact hx; split; exact hz; exact hy
theorem plW_bd {k x y z l : Int} (hx : -l ≤ x ∧ x ≤ l) (hy : -l ≤ y ∧ y ≤ l) (hz : -l ≤ z ∧ z ≤ l) : -l ≤ plW k x y z ∧ plW k x y z ≤ l := by unfold plW; split; exact hy; split; exact hx; exact hz
theorem plH_bd {k x y z l : Int} (hx : -l ≤ x ∧ x ≤ l) (hy : -l ≤ y ∧ y ≤ l) (hz : -l ≤ z ∧ z ≤ l) : -l ≤ plH k x y z ∧ plH k x y z ≤ l := by unfold plH; split; exact hz; split; exact hy; exact hx
theorem plU_sc (k x y z c : Int) : plU k (x * c) (y * c) (z * c) = plU k x y z * c := by unfold plU; split; rfl; split <;> rfl
theorem plW_sc (k x y z c : Int) : plW k (x * c) (y * c) (z * c) = plW k x y z * c := by unfold plW; split; rfl; split <;> rfl
theorem plH_sc (k x y z c : Int) : plH k (x * c) (y * c) (z * c) = plH k x y z * c := by unfold plH; split; rfl; split <;> rfl
theorem planeP_any (k x y z : Int) (w : World) (hk : PlK k) : Calls Try.prog 38 #[.agg #[.int .i64 x, .int .i64 y, .int .i64 z], .int .i64 k] w fun e w' => e = .returned (.tuple #[.int .i64 (plU k x y z), .int .i64 (plW k x y z), .int .i64 (plH k x y z)]) ∧ Below w.heap.size w w' := by
  rcases hk with rfl | rfl | rfl
  · exact planeP_17 x y z w
  · exact planeP_18 x y z w
  · exact planeP_19 x y z w
theorem planeR_any (k x y z : Int) (w : World) (hk : PlK k) : Calls Try.prog 40 #[.agg #[.int .i64 x, .int .i64 y, .int .i64 z], .int .i64 k] w fun e w' => e = .returned (.tuple #[.int .i64 (plU k x y z), .int .i64 (plW k x y z), .int .i64 (plH k x y z)]) ∧ Below w.heap.size w w' := by
  rcases hk with rfl | rfl | rfl
  · exact planeR_17 x y z w
  · exact planeR_18 x y z w
  · exact planeR_19 x y z w
theorem spaceP_any (k u v h : Int) (w : World) (hk : PlK k) : Calls Try.prog 39 #[.int .i64 u, .int .i64 v, .int .i64 h, .int .i64 k] w fun e w' => e = .returned (.agg #[.int .i64 (spX k u v h), .int .i64 (spY k u v h), .int .i64 (spZ k u v h)]) ∧ Below w.heap.size w w' := by
  rcases hk with rfl | rfl | rfl
  · exact spaceP_17 u v h w
  · exact spaceP_18 u v h w
  · exact spaceP_19 u v h w
theorem spaceR_any (k u v h : Int) (w : World) (hk : PlK k) : Calls Try.prog 41 #[.int .i64 u, .int .i64 v, .int .i64 h, .int .i64 k] w fun e w' => e = .returned (.agg #[.int .i64 (spX k u v h), .int .i64 (spY k u v h), .int .i64 (spZ k u v h)]) ∧ Below w.heap.size w w' := by
  rcases hk with rfl | rfl | rfl
  · exact spaceR_17 u v h w
  · exact spaceR_18 u v h w
  · exact spaceR_19 u v h w
set_option maxHeartbeats 1000000 in
theorem scaledP_any (x y z : Int) (w : World) (hx : (-4194304 ≤ x ∧ x ≤ 4194304)) (hy : (-4194304 ≤ y ∧ y ≤ 4194304)) (hz : (-4194304 ≤ z ∧ z ≤ 4194304)) : Calls Try.prog 37 #[.agg #[.int .i64 x, .int .i64 y, .int .i64 z]] w fun e w' => e = .returned (.agg #[.int .i64 (x * 16), .int .i64 (y * 16), .int .i64 (z * 16)]) ∧ Below w.heap.size w w' := by
  obtain ⟨x1, x2⟩ := hx
  obtain ⟨y1, y2⟩ := hy
  obtain ⟨z1, z2⟩ := hz
  go_enter Try.func37, Try.ntmps37
  go_wp2_with fail
  refine bodyPost_ret (v := .agg #[.int .i64 (x * 16), .int .i64 (y * 16), .int .i64 (z * 16)]) (by simp [results, Try.results37, go_sem]) rfl ⟨rfl, ?_⟩
  (repeat (first | exact Below.refl _ _ | assumption | refine Below.drew ?_ | (refine Below.alloc ?_ (by simp <;> omega) _) | (refine Below.setCell ?_ (by simp <;> omega) _)))
set_option maxHeartbeats 1000000 in
theorem fineR_any (x y z : Int) (w : World) (hx : (-4194304 ≤ x ∧ x ≤ 4194304)) (hy : (-4194304 ≤ y ∧ y ≤ 4194304)) (hz : (-4194304 ≤ z ∧ z ≤ 4194304)) : Calls Try.prog 25 #[.agg #[.int .i64 x, .int .i64 y, .int .i64 z]] w fun e w' => e = .returned (.agg #[.int .i64 (x * 16), .int .i64 (y * 16), .int .i64 (z * 16)]) ∧ Below w.heap.size w w' := by
  obtain ⟨x1, x2⟩ := hx
  obtain ⟨y1, y2⟩ := hy
  obtain ⟨z1, z2⟩ := hz
  go_enter Try.func25, Try.ntmps25
  go_wp2_with fail
  refine bodyPost_ret (v := .agg #[.int .i64 (x * 16), .int .i64 (y * 16), .int .i64 (z * 16)]) (by simp [results, Try.results25, go_sem]) rfl ⟨rfl, ?_⟩
  (repeat (first | exact Below.refl _ _ | assumption | refine Below.drew ?_ | (refine Below.alloc ?_ (by simp <;> omega) _) | (refine Below.setCell ?_ (by simp <;> omega) _)))
set_option maxHeartbeats 2000000 in
set_option maxRecDepth 20000 in
theorem withinP_any (p0 p1 p2 : Int) (w : World) :
    Calls Try.prog 42 #[.agg #[.int .i64 p0, .int .i64 p1, .int .i64 p2]] w fun e w' => e = .returned (.bool (smB 1048576 p0 p1 p2)) ∧ Below w.heap.size w w' := by
  go_enter Try.func42, Try.ntmps42
  go_wp2_with fail
  go_loopw [12] (fun t wr => ((t = .int .i64 0 ∨ (t = .int .i64 1 ∧ okB 1048576 p0 = true)) ∨ ((t = .int .i64 2 ∧ okB 1048576 p0 = true ∧ okB 1048576 p1 = true) ∨ (t = .int .i64 3 ∧ okB 1048576 p0 = true ∧ okB 1048576 p1 = true ∧ okB 1048576 p2 = true))) ∧ Lay w.heap.size (w.heap.size + 1) [(⟨w.heap.size, 0, none⟩, .int .i64 p0), (⟨w.heap.size, 1, none⟩, .int .i64 p1), (⟨w.heap.size, 2, none⟩, .int .i64 p2)] w wr) (fun t _ => 3 - (intOf t).toNat)
  case atStart => exact ⟨Or.inl (Or.inl rfl), by (refine ⟨by simp [List.forall_mem_cons, go_sem], by simp [List.forall_mem_cons] <;> omega, by simp, by (repeat (first | exact Below.refl _ _ | assumption | refine Below.drew ?_ | (refine Below.alloc ?_ (by simp <;> omega) _) | (refine Below.setCell ?_ (by simp <;> omega) _))), by omega⟩)⟩
  case round =>
  obtain ⟨hd, hT⟩ := hrel
  rcases hd with (rfl | ⟨rfl, g0⟩) | (⟨rfl, g0, g1⟩ | ⟨rfl, g0, g1, g2⟩)
  · have I0 : ∀ w, (Instr.index 46 (.agg #[.int .i64 p0, .int .i64 p1, .int .i64 p2]) (.int .i64 0)).run Try.prog w = .ok (.int .i64 p0) w := fun _ => by kernel_rfl
    (have qk9 := Lay.cells hT; simp only [List.forall_mem_cons, List.not_mem_nil, false_implies, implies_true, and_true] at qk9; repeat (obtain ⟨qk8, qk9⟩ := qk9))
    by_cases h1 : p0 < -1048576
    · have F := Lib.hid (okB_f (l := 1048576) (a := p0) (Or.inl h1))
      go_wp2_with fail
      go_ret
      exact ⟨by unfold smB; rw [F.out]; simp, hT.be⟩
    · by_cases h2 : 1048576 < p0
      · have F := Lib.hid (okB_f (l := 1048576) (a := p0) (Or.inr h2))
        go_wp2_with fail
        go_ret
        exact ⟨by unfold smB; rw [F.out]; simp, hT.be⟩
      · have F := Lib.hid (okB_t (l := 1048576) (a := p0) (by omega) (by omega))
        go_wp2_with fail
        go_roundw
        case rel => exact ⟨Or.inl (Or.inr ⟨rfl, F.out⟩), hT⟩
        case measure => simp [intOf]
  · have I0 : ∀ w, (Instr.index 46 (.agg #[.int .i64 p0, .int .i64 p1, .int .i64 p2]) (.int .i64 1)).run Try.prog w = .ok (.int .i64 p1) w := fun _ => by kernel_rfl
    (have qk9 := Lay.cells hT; simp only [List.forall_mem_cons, List.not_mem_nil, false_implies, implies_true, and_true] at qk9; repeat (obtain ⟨qk8, qk9⟩ := qk9))
    have G0 := Lib.hid g0
    clear g0
    by_cases h1 : p1 < -1048576
    · have F := Lib.hid (okB_f (l := 1048576) (a := p1) (Or.inl h1))
      go_wp2_with fail
      go_ret
      exact ⟨by unfold smB; rw [G0.out]; rw [F.out]; simp, hT.be⟩
    · by_cases h2 : 1048576 < p1
      · have F := Lib.hid (okB_f (l := 1048576) (a := p1) (Or.inr h2))
        go_wp2_with fail
        go_ret
        exact ⟨by unfold smB; rw [G0.out]; rw [F.out]; simp, hT.be⟩
      · have F := Lib.hid (okB_t (l := 1048576) (a := p1) (by omega) (by omega))
        go_wp2_with fail
        go_roundw
        case rel => exact ⟨Or.inr (Or.inl ⟨rfl, G0.out, F.out⟩), hT⟩
        case measure => simp [intOf]
  · have I0 : ∀ w, (Instr.index 46 (.agg #[.int .i64 p0, .int .i64 p1, .int .i64 p2]) (.int .i64 2)).run Try.prog w = .ok (.int .i64 p2) w := fun _ => by kernel_rfl
    (have qk9 := Lay.cells hT; simp only [List.forall_mem_cons, List.not_mem_nil, false_implies, implies_true, and_true] at qk9; repeat (obtain ⟨qk8, qk9⟩ := qk9))
    have G0 := Lib.hid g0
    have G1 := Lib.hid g1
    clear g0 g1
    by_cases h1 : p2 < -1048576
    · have F := Lib.hid (okB_f (l := 1048576) (a := p2) (Or.inl h1))
      go_wp2_with fail
      go_ret
      exact ⟨by unfold smB; rw [G0.out]; rw [G1.out]; rw [F.out]; simp, hT.be⟩
    · by_cases h2 : 1048576 < p2
      · have F := Lib.hid (okB_f (l := 1048576) (a := p2) (Or.inr h2))
        go_wp2_with fail
        go_ret
        exact ⟨by unfold smB; rw [G0.out]; rw [G1.out]; rw [F.out]; simp, hT.be⟩
      · have F := Lib.hid (okB_t (l := 1048576) (a := p2) (by omega) (by omega))
        go_wp2_with fail
        go_roundw
        case rel => exact ⟨Or.inr (Or.inr ⟨rfl, G0.out, G1.out, F.out⟩), hT⟩
        case measure => simp [intOf]
  · have G := Lib.hid (show smB 1048576 p0 p1 p2 = true by unfold smB; rw [g0, g1, g2]; rfl)
    clear g0 g1 g2
    go_wp2_with fail
    go_ret
    exact ⟨by rw [G.out]; rfl, hT.be⟩
set_option maxHeartbeats 1000000 in
theorem withinR_any (x y z : Int) (w : World) : Calls Try.prog 47 #[.agg #[.int .i64 x, .int .i64 y, .int .i64 z]] w fun e w' => e = .returned (.bool (smB 1048576 x y z)) ∧ Below w.heap.size w w' := by
  have SM := fun w => Lib.hid (small_any x y z 1048576 w (by decide) (by decide))
  go_enter Try.func47, Try.ntmps47
  go_wp2_with fail
  refine (SM _).out.mono ?_
  rintro e w1 ⟨rfl, hb⟩
  go_wp2_with fail
  go_ret
  exact ⟨rfl, (Below.alloc (Below.refl _ _) (Nat.le_refl _) _).trans (hb.mono (by simp))⟩
set_option maxHeartbeats 4000000 in
theorem rootR_any (n : Nat) (w : World) (hN : n ≤ 1152921504606846976) :
    Calls Try.prog 74 #[.int .i64 (n : Int)] w fun e w' => e = .returned (.int .i64 (rtN n : Int)) ∧ w = w' := by
  have sp := rtN_spec n (by omega)
  have HT : Hid (rtN n ≤ 1073741824) := by
    refine Nat.le_of_not_lt fun hc => ?_
    have := sq_mono (show 1073741825 ≤ rtN n from hc)
    omega
  have HTT : ∀ t, Hid (t * t ≤ n ↔ t ≤ rtN n) := by
    intro t
    show t * t ≤ n ↔ t ≤ rtN n
    constructor
    · intro h
      refine Nat.le_of_not_lt fun hc => ?_
      have := sq_mono (show rtN n + 1 ≤ t from hc)
      omega
    · intro h; exact Nat.le_trans (sq_mono h) sp.1
  generalize rtN n = T at *
  clear sp
  have hn : (n : Int) ≤ 1152921504606846976 := by omega
  go_enter Try.func74, Try.ntmps74
  go_wp2_with fail
  go_loopw [3, 4] (fun s t wr => ∃ q k : Nat, s = .int .i64 (q : Int) ∧ t = .int .i64 (bitK k : Int) ∧ k ≤ 31 ∧ BI T k q ∧ wr = w) (fun _ t _ => (intOf t).toNat)
  case atStart => exact ⟨0, 31, rfl, by rw [show bitK 31 = 1073741824 by decide]; rfl, by decide, BI.start (by have := HT.out; omega), rfl⟩
  case round =>
  obtain ⟨q, k, rfl, rfl, hk, hbi, rfl⟩ := hrel
  have HBI := Lib.hid hbi
  clear hbi
  cases k with
  | zero =>
    rw [bitK_zero]
    obtain rfl : q = T := HBI.out.done
    clear HTT HBI
    go_wp2_with fail
    go_ret
    exact ⟨rfl, rfl⟩
  | succ j =>
    rw [bitK_succ]
    have hjb : 2 ^ j ≤ 1073741824 := Nat.le_trans (Nat.pow_le_pow_right (by decide) (show j ≤ 30 by omega)) (by decide)
    have hj0 := Nat.pow_pos (n := j) (show 0 < 2 by decide)
    have hqT := HBI.out.le
    have hT := HT.out
    have HY : Hid (q + 2 ^ j ≤ T → BI T j (q + 2 ^ j)) := HBI.out.yes
    have HN : Hid (¬ q + 2 ^ j ≤ T → BI T j q) := HBI.out.no
    have HB2 : Hid (((2 ^ j : Nat) : Int) / 2 = (bitK j : Int)) := rfl
    obtain ⟨b, hb⟩ : ∃ b, 2 ^ j = b := ⟨_, rfl⟩
    rw [hb] at HY HN hjb hj0 HB2 ⊢
    clear hb
    have hq0 : (q : Int) + b ≤ 2147483648 := by omega
    have hb0 : (0 : Int) < b := by omega
    have hqq : (q : Int) ≤ 1073741824 := by omega
    have hbb : (b : Int) ≤ 1073741824 := by omega
    have hs := Nat.mul_le_mul (show q + b ≤ 2147483648 by omega) (show q + b ≤ 2147483648 by omega)
    have es : ((q : Int) + b) * ((q : Int) + b) = (((q + b) * (q + b) : Nat) : Int) := by rw [Int.natCast_mul, Int.natCast_add]
    have s1 : 0 ≤ ((q : Int) + b) * ((q : Int) + b) := by omega
    have s2 : ((q : Int) + b) * ((q : Int) + b) ≤ 4611686018427387904 := by omega
    have tt := (HTT (q + b)).out
    by_cases hc : q + b ≤ T
    · have HQ := Lib.hid (HY.out hc)
      have c1 : ((q : Int) + b) * ((q : Int) + b) ≤ n := by have := tt.2 hc; omega
      clear HY HN hc tt es hs HTT hqT hT
      go_wp2_with fail
      go_roundw
      case rel => exact ⟨q + b, j, by go_num, by rw [← HB2.out], by omega, HQ.out, trivial⟩
      case measure => simp [intOf]; omega
    · have HQ := Lib.hid (HN.out hc)
      have c1 : ¬ ((q : Int) + b) * ((q : Int) + b) ≤ n := by have := mt tt.1 hc; omega
      clear HY HN hc tt es hs HTT hqT hT
      go_wp2_with fail
      go_roundw
      case rel => exact ⟨q, j, rfl, by rw [← HB2.out], by omega, HQ.out, trivial⟩
      case measure => simp [intOf]; omega
end Go.Proofs.Ytkjjoclbjkpdaaa
