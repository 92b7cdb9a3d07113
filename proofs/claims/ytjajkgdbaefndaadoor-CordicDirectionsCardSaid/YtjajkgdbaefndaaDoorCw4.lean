/- Proved here: Rotate of the program and of the reference return the results of the same plain functions, for every angle. -/
import Derived.Test.YtjajkgdbaefndaaDoorCw3
namespace Go.Proofs.YtjajkgdbaefndaaDoor
open Go.RowKit
set_option linter.unusedVariables false

def nearI (n : Int) : Int := wrap64 (n + 536870912) / 2 ^ 30
theorem nearest_any (n : Int) (w : World) : Calls Tryd.prog 30 #[.int .i64 n] w fun e w' => e = .returned (.int .i64 (nearI n)) ∧ w = w' := by
  go_enter Tryd.func30, Tryd.ntmps30
  go_wp2
  go_ret
  exact ⟨ret_i64 (by rfl), rfl⟩
theorem near_any (n : Int) (w : World) : Calls Tryd.prog 32 #[.int .i64 n] w fun e w' => e = .returned (.int .i64 (nearI n)) ∧ w = w' := by
  go_enter Tryd.func32, Tryd.ntmps32
  go_wp2
  go_ret
  exact ⟨ret_i64 (by rfl), rfl⟩
def rotX (x y a : Int) : Int := nearI (wrap64 (wrap64 (x * cosI a) - wrap64 (y * sinI a)))
def rotY (x y a : Int) : Int := nearI (wrap64 (wrap64 (x * sinI a) + wrap64 (y * cosI a)))
def inS (x y : Int) : Prop := -4194304 ≤ x ∧ x ≤ 4194304 ∧ -4194304 ≤ y ∧ y ≤ 4194304
theorem bcell0 {w w' : World} {o : Obj} (h : w.heap[0]? = some o) (hb : Below w.heap.size w w') : w'.heap[0]? = some o := by
  rw [hb.block 0 ?_]; exact h
  rcases Nat.eq_zero_or_pos w.heap.size with e | e
  · rw [Array.getElem?_eq_none (by omega)] at h; cases h
  · exact e
set_option maxHeartbeats 400000 in
theorem rotate_in (x y a : Int) (w : World) (ha : -9223372036854775808 ≤ a) (ha2 : a ≤ 9223372036854775807) (t : TypeId) (fr : Nat × Nat) (ht : w.heap[0]? = some (.cells tabV t fr))
    (hx : -4194304 ≤ x) (hx2 : x ≤ 4194304) (hy : -4194304 ≤ y) (hy2 : y ≤ 4194304) :
    Calls Tryd.prog 19 #[.int .i64 x, .int .i64 y, .int .i64 a] w fun e w' => e = .returned (.tuple #[.int .i64 (rotX x y a), .int .i64 (rotY x y a), .bool true]) ∧ Below w.heap.size w w' := by
  go_enter Tryd.func19, Tryd.ntmps19
  go_wp2_with (first | (go_at_call 14; refine (sincos_any _ _ (by omega) (by omega) t fr ht).mono ?_; rintro e w' ⟨rfl, hb⟩) | (go_at_call 30; refine (nearest_any _ _).mono ?_; rintro e w' ⟨rfl, rfl⟩))
  go_ret3
  exact ⟨rfl, by assumption⟩
set_option maxHeartbeats 400000 in
theorem rotate_out (x y a : Int) (w : World) (h : x < -4194304 ∨ 4194304 < x ∨ y < -4194304 ∨ 4194304 < y) :
    Calls Tryd.prog 19 #[.int .i64 x, .int .i64 y, .int .i64 a] w fun e w' => e = .returned (.tuple #[.int .i64 0, .int .i64 0, .bool false]) ∧ Below w.heap.size w w' := by
  have HD := Lib.hid h
  clear h
  by_cases h1 : x < -4194304
  · go_enter Tryd.func19, Tryd.ntmps19
    go_wp2_with fail
    go_ret3
    exact ⟨rfl, Below.refl _ _⟩
  by_cases h2 : 4194304 < x
  · go_enter Tryd.func19, Tryd.ntmps19
    go_wp2_with fail
    go_ret3
    exact ⟨rfl, Below.refl _ _⟩
  by_cases h3 : y < -4194304
  · go_enter Tryd.func19, Tryd.ntmps19
    go_wp2_with fail
    go_ret3
    exact ⟨rfl, Below.refl _ _⟩
  have h4 : 4194304 < y := by have := HD.out; omega
  go_enter Tryd.func19, Tryd.ntmps19
  go_wp2_with fail
  go_ret3
  exact ⟨rfl, Below.refl _ _⟩
def smallB (n : Int) : Bool := decide (-4194304 ≤ n ∧ n ≤ 4194304)
theorem small_yes (n : Int) (w : World) (h : -4194304 ≤ n) (h2 : n ≤ 4194304) : Calls Tryd.prog 31 #[.int .i64 n] w fun e w' => e = .returned (.bool true) ∧ w = w' := by
  go_enter Tryd.func31, Tryd.ntmps31
  go_wp2
  go_ret
  exact ⟨rfl, rfl⟩
theorem small_no (n : Int) (w : World) (h : n < -4194304 ∨ 4194304 < n) : Calls Tryd.prog 31 #[.int .i64 n] w fun e w' => e = .returned (.bool false) ∧ w = w' := by
  have HD := Lib.hid h
  clear h
  by_cases h1 : n < -4194304
  · go_enter Tryd.func31, Tryd.ntmps31
    go_wp2
    go_ret
    exact ⟨rfl, rfl⟩
  have h2 : 4194304 < n := by have := HD.out; omega
  have h3 : decide (n ≤ 4194304) = false := by simpa using h2
  go_enter Tryd.func31, Tryd.ntmps31
  go_wp2
  go_ret
  exact ⟨rfl, rfl⟩
set_option maxHeartbeats 400000 in
theorem rotateRef_in (x y a : Int) (w : World) (ha : -9223372036854775808 ≤ a) (ha2 : a ≤ 9223372036854775807)
    (hx : -4194304 ≤ x) (hx2 : x ≤ 4194304) (hy : -4194304 ≤ y) (hy2 : y ≤ 4194304) :
    Calls Tryd.prog 20 #[.int .i64 x, .int .i64 y, .int .i64 a] w fun e w' => e = .returned (.tuple #[.int .i64 (rotX x y a), .int .i64 (rotY x y a), .bool true]) ∧ Below w.heap.size w w' := by
  go_enter Tryd.func20, Tryd.ntmps20
  go_wp2_with (first | (go_at_call 15; refine (sincosRef_any _ _ (by omega) (by omega)).mono ?_; rintro e w' ⟨rfl, hb⟩) | (go_at_call 31; refine (small_yes _ _ (by omega) (by omega)).mono ?_; rintro e w' ⟨rfl, rfl⟩) | (go_at_call 32; refine (near_any _ _).mono ?_; rintro e w' ⟨rfl, rfl⟩))
  go_ret3
  exact ⟨rfl, by assumption⟩
set_option maxHeartbeats 400000 in
theorem rotateRef_out (x y a : Int) (w : World) (h : x < -4194304 ∨ 4194304 < x ∨ y < -4194304 ∨ 4194304 < y) :
    Calls Tryd.prog 20 #[.int .i64 x, .int .i64 y, .int .i64 a] w fun e w' => e = .returned (.tuple #[.int .i64 0, .int .i64 0, .bool false]) ∧ Below w.heap.size w w' := by
  have HD := Lib.hid h
  clear h
  by_cases h1 : x < -4194304 ∨ 4194304 < x
  · have H1 := Lib.hid h1
    clear h1
    go_enter Tryd.func20, Tryd.ntmps20
    go_wp2_with (go_at_call 31; refine (small_no _ _ H1.out).mono ?_; rintro e w' ⟨rfl, rfl⟩)
    go_ret3
    exact ⟨rfl, Below.refl _ _⟩
  have hx : -4194304 ≤ x := by omega
  have hx2 : x ≤ 4194304 := by omega
  have H1 : Hid (y < -4194304 ∨ 4194304 < y) := by have := HD.out; show _ ∨ _; omega
  clear h1
  go_enter Tryd.func20, Tryd.ntmps20
  go_wp2_with fail
  refine (small_yes _ _ (by omega) (by omega)).mono ?_
  rintro e w' ⟨rfl, rfl⟩
  go_wp2_with fail
  refine (small_no _ _ H1.out).mono ?_
  rintro e w' ⟨rfl, rfl⟩
  go_wp2_with fail
  go_ret3
  exact ⟨rfl, Below.refl _ _⟩

end Go.Proofs.YtjajkgdbaefndaaDoor
