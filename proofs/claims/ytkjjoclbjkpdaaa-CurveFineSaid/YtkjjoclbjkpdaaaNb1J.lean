/- Proved here: items as data; the axes of a plane; subunits; what is within the limits; the reference's root; ranges as stated. -/
import Derived.Test.YtkjjoclbjkpdaaaNa6J
import Derived.Test.YtkjjoclbjkpdaaaLr5J
import Derived.Test.YtkjjoclbjkpdaaaKc3J
import Derived.BigQuiet
namespace Go.Proofs.Ytkjjoclbjkpdaaa
open Go.RowKit
set_option linter.unusedVariables false
set_option linter.unusedSimpArgs false
structure Itm where
  kind : Int
  block : Int
  fx : Int
  fy : Int
  fz : Int
  tx : Int
  ty : Int
  tz : Int
  plane : Int
  cx : Int
  cy : Int
  cz : Int
  dir : Int
  full : Bool
  feed : Int
  perrev : Bool
  side : Int
  radius : Int
  blend : Int
  n : Int
  speed : Int
  on : Bool
def plU (k x y z : Int) : Int := if k = 17 then x else if k = 18 then z else y
def plW (k x y z : Int) : Int := if k = 17 then y else if k = 18 then x else z
def plH (k x y z : Int) : Int := if k = 17 then z else if k = 18 then y else x
def spX (k u v h : Int) : Int := if k = 17 then u else if k = 18 then v else h
def spY (k u v h : Int) : Int := if k = 17 then v else if k = 18 then h else u
def spZ (k u v h : Int) : Int := if k = 17 then h else if k = 18 then u else v
def PlK (k : Int) : Prop := k = 17 ∨ k = 18 ∨ k = 19
theorem plU_bd {k x y z l : Int} (hx : -l ≤ x ∧ x ≤ l) (hy : -l ≤ y ∧ y ≤ l) (hz : -l ≤ z ∧ z ≤ l) : -l ≤ plU k x y z ∧ plU k x y z ≤ l := by unfold plU; split; exact hx; split; exact hz; exact hy
theorem plW_bd {k x y z l : Int} (hx : -l ≤ x ∧ x ≤ l) (hy : -l ≤ y ∧ y ≤ l) (hz : -l ≤ z ∧ z ≤ l) : -l ≤ plW k x y z ∧ plW k x y z ≤ l := by unfold plW; split; exact hy; split; exact hx; exact hz
theorem plH_bd {k x y z l : Int} (hx : -l ≤ x ∧ x ≤ l) (hy : -l ≤ y ∧ y ≤ l) (hz : -l ≤ z ∧ z ≤ l) : -l ≤ plH k x y z ∧ plH k x y z ≤ l := by unfold plH; split; exact hz; split; exact hy; exact hx
theorem plU_sc (k x y z c : Int) : plU k (x * c) (y * c) (z * c) = plU k x y z * c := by unfold plU; split; rfl; split <;> rfl
theorem plW_sc (k x y z c : Int) : plW k (x * c) (y * c) (z * c) = plW k x y z * c := by unfold plW; split; rfl; split <;> rfl
theorem plH_sc (k x y z c : Int) : plH k (x * c) (y * c) (z * c) = plH k x y z * c := by unfold plH; split; rfl; split <;> rfl
theorem plU_sp (k u v h : Int) : plU k (spX k u v h) (spY k u v h) (spZ k u v h) = u := by unfold plU spX spY spZ; by_cases h1 : k = 17 <;> by_cases h2 : k = 18 <;> simp [h1, h2] <;> omega
theorem plW_sp (k u v h : Int) : plW k (spX k u v h) (spY k u v h) (spZ k u v h) = v := by unfold plW spX spY spZ; by_cases h1 : k = 17 <;> by_cases h2 : k = 18 <;> simp [h1, h2] <;> omega
theorem planeP_any (k x y z : Int) (w : World) (hk : PlK k) : Calls Try.prog 38 #[.agg #[.int .i64 x, .int .i64 y, .int .i64 z], .int .i64 k] w fun e w' => e = .returned (.tuple #[.int .i64 (plU k x y z), .int .i64 (plW k x y z), .int .i64 (plH k x y z)]) ∧ Below w.heap.size w w' := by
  rcases hk with rfl | rfl | rfl
  · exact planeP_17 x y z w
  · exact planeP_18 x y z w
  · exact planeP_19 x y z w
theorem planeR_any (k x y z : Int) (w : World) (hk : PlK k) : Calls Try.prog 40 #[.agg #[.int .i64 x, .int .i64 y, .int .i64 z], .int .i64 k] w fun e w' => e = .returned (.tuple #[.int .i64 (plU k x y z), .int .i64 (plW k x y z), .int .i64 (plH k x y z)]) ∧ Below w.heap.size w w' := by
  rcases hk with rfl | rfl | rfl
  · exact planeR_17 x y z w
  · exact planeR_18 x y z w
  · exact planeR_19 x y z w
theorem spaceR_any (k u v h : Int) (w : World) (hk : PlK k) : Calls Try.prog 41 #[.int .i64 u, .int .i64 v, .int .i64 h, .int .i64 k] w fun e w' => e = .returned (.agg #[.int .i64 (spX k u v h), .int .i64 (spY k u v h), .int .i64 (spZ k u v h)]) ∧ Below w.heap.size w w' := by
  rcases hk with rfl | rfl | rfl
  · exact spaceR_17 u v h w
  · exact spaceR_18 u v h w
  · exact spaceR_19 u v h w
set_option maxHeartbeats 1000000 in
theorem scaledP_any (x y z : Int) (w : World) (hx : (-4194304 ≤ x ∧ x ≤ 4194304)) (hy : (-4194304 ≤ y ∧ y ≤ 4194304)) (hz : (-4194304 ≤ z ∧ z ≤ 4194304)) : Calls Try.prog 37 #[.agg #[.int .i64 x, .int .i64 y, .int .i64 z]] w fun e w' => e = .returned (.agg #[.int .i64 (x * 16), .int .i64 (y * 16), .int .i64 (z * 16)]) ∧ Below w.heap.size w w' := by
  obtain ⟨x1, x2⟩ := hx
  obtain ⟨y1, y2⟩ := hy
  obtain ⟨z1, z2⟩ := hz
  go_enter Try.func37, Try.ntmps37
  go_wp2_with fail
  refine bodyPost_ret (v := .agg #[.int .i64 (x * 16), .int .i64 (y * 16), .int .i64 (z * 16)]) (by simp [results, Try.results37, go_sem]) rfl ⟨rfl, ?_⟩
  (repeat (first | exact Below.refl _ _ | assumption | refine Below.drew ?_ | (refine Below.alloc ?_ (by simp <;> omega) _) | (refine Below.setCell ?_ (by simp <;> omega) _)))
set_option maxHeartbeats 2000000 in
set_option maxRecDepth 20000 in
theorem withinP_any (p0 p1 p2 : Int) (w : World) :
    Calls Try.prog 42 #[.agg #[.int .i64 p0, .int .i64 p1, .int .i64 p2]] w fun e w' => e = .returned (.bool (smB 1048576 p0 p1 p2)) ∧ Below w.heap.size w w' := by
  go_enter Try.func42, Try.ntmps42
  go_wp2_with fail
  go_loopw [12] (fun t wr => ((t = .int .i64 0 ∨ (t = .int .i64 1 ∧ okB 1048576 p0 = true)) ∨ ((t = .int .i64 2 ∧ okB 1048576 p0 = true ∧ okB 1048576 p1 = true) ∨ (t = .int .i64 3 ∧ okB 1048576 p0 = true ∧ okB 1048576 p1 = true ∧ okB 1048576 p2 = true))) ∧ Lay w.heap.size (w.heap.size + 1) [(⟨w.heap.size, 0, none⟩, .int .i64 p0), (⟨w.heap.size, 1, none⟩, .int .i64 p1), (⟨w.heap.size, 2, none⟩, .int .i64 p2)] w wr) (fun t _ => 3 - (intOf t).toNat)
  case atStart => exact ⟨Or.inl (Or.inl rfl), by (refine ⟨by simp [List.forall_mem_cons, go_sem], by simp [List.forall_mem_cons] <;> omega, by simp, by (repeat (first | exact Below.refl _ _ | assumption | refine Below.drew ?_ | (refine Below.alloc ?_ (by simp <;> omega) _) | (refine Below.setCell ?_ (by simp <;> omega) _))), by omega⟩)⟩
  case round =>
  obtain ⟨hd, hT⟩ := hrel
  rcases hd with (rfl | ⟨rfl, g0⟩) | (⟨rfl, g0, g1⟩ | ⟨rfl, g0, g1, g2⟩)
  · have I0 : ∀ w, (Instr.index 46 (.agg #[.int .i64 p0, .int .i64 p1, .int .i64 p2]) (.int .i64 0)).run Try.prog w = .ok (.int .i64 p0) w := fun _ => by kernel_rfl
    (have qk9 := Lay.cells hT; simp only [List.forall_mem_cons, List.not_mem_nil, false_implies, implies_true, and_true] at qk9; repeat (obtain ⟨qk8, qk9⟩ := qk9))
    by_cases h1 : p0 < -1048576
    · have F := Lib.hid (okB_f (l := 1048576) (a := p0) (Or.inl h1))
      go_wp2_with fail
      go_ret
      exact ⟨by unfold smB; rw [F.out]; simp, hT.be⟩
    · by_cases h2 : 1048576 < p0
      · have F := Lib.hid (okB_f (l := 1048576) (a := p0) (Or.inr h2))
        go_wp2_with fail
        go_ret
        exact ⟨by unfold smB; rw [F.out]; simp, hT.be⟩
      · have F := Lib.hid (okB_t (l := 1048576) (a := p0) (by omega) (by omega))
        go_wp2_with fail
        go_roundw
        case rel => exact ⟨Or.inl (Or.inr ⟨rfl, F.out⟩), hT⟩
        case measure => simp [intOf]
  · have I0 : ∀ w, (Instr.index 46 (.agg #[.int .i64 p0, .int .i64 p1, .int .i64 p2]) (.int .i64 1)).run Try.prog w = .ok (.int .i64 p1) w := fun _ => by kernel_rfl
    (have qk9 := Lay.cells hT; simp only [List.forall_mem_cons, List.not_mem_nil, false_implies, implies_true, and_true] at qk9; repeat (obtain ⟨qk8, qk9⟩ := qk9))
    have G0 := Lib.hid g0
    clear g0
    by_cases h1 : p1 < -1048576
    · have F := Lib.hid (okB_f (l := 1048576) (a := p1) (Or.inl h1))
      go_wp2_with fail
      go_ret
      exact ⟨by unfold smB; rw [G0.out]; rw [F.out]; simp, hT.be⟩
    · by_cases h2 : 1048576 < p1
      · have F := Lib.hid (okB_f (l := 1048576) (a := p1) (Or.inr h2))
        go_wp2_with fail
        go_ret
        exact ⟨by unfold smB; rw [G0.out]; rw [F.out]; simp, hT.be⟩
      · have F := Lib.hid (okB_t (l := 1048576) (a := p1) (by omega) (by omega))
        go_wp2_with fail
        go_roundw
        case rel => exact ⟨Or.inr (Or.inl ⟨rfl, G0.out, F.out⟩), hT⟩
        case measure => simp [intOf]
  · have I0 : ∀ w, (Instr.index 46 (.agg #[.int .i64 p0, .int .i64 p1, .int .i64 p2]) (.int .i64 2)).run Try.prog w = .ok (.int .i64 p2) w := fun _ => by kernel_rfl
    (have qk9 := Lay.cells hT; simp only [List.forall_mem_cons, List.not_mem_nil, false_implies, implies_true, and_true] at qk9; repeat (obtain ⟨qk8, qk9⟩ := qk9))
    have G0 := Lib.hid g0
    have G1 := Lib.hid g1
    clear g0 g1
    by_cases h1 : p2 < -1048576
    · have F := Lib.hid (okB_f (l := 1048576) (a := p2) (Or.inl h1))
      go_wp2_with fail
      go_ret
      exact ⟨by unfold smB; rw [G0.out]; rw [G1.out]; rw [F.out]; simp, hT.be⟩
    · by_cases h2 : 1048576 < p2
      · have F := Lib.hid (okB_f (l := 1048576) (a := p2) (Or.inr h2))
        go_wp2_with fail
        go_ret
        exact ⟨by unfold smB; rw [G0.out]; rw [G1.out]; rw [F.out]; simp, hT.be⟩
      · have F := Lib.hid (okB_t (l := 1048576) (a := p2) (by omega) (by omega))
        go_wp2_with fail
        go_roundw
        case rel => exact ⟨Or.inr (Or.inr ⟨rfl, G0.out, G1.out, F.out⟩), hT⟩
        case measure => simp [intOf]
  · have G := Lib.hid (show smB 1048576 p0 p1 p2 = true by unfold smB; rw [g0, g1, g2]; rfl)
    clear g0 g1 g2
    go_wp2_with fail
    go_ret
    exact ⟨by rw [G.out]; rfl, hT.be⟩
end Go.Proofs.Ytkjjoclbjkpdaaa
