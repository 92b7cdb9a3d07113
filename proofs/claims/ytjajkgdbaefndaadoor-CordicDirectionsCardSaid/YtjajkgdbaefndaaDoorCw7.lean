/- Proved here: the sanity check returns true, and so does CordicSinCos, for every argument, in every world that holds the table. -/
import Derived.Test.YtjajkgdbaefndaaDoorCw6
namespace Go.Proofs.YtjajkgdbaefndaaDoor
open Go.RowKit
set_option linter.unusedVariables false

theorem bt {w w1 w2 : World} (h1 : Below w.heap.size w w1) (h2 : Below w1.heap.size w1 w2) : Below w.heap.size w w2 := h1.trans (h2.mono h1.size)
theorem aw1 : sinI 90000000 = 1073741824 ∧ cosI 90000000 = 0 := by decide +kernel
theorem aw2 : rotX 5 0 (-90000000) = 0 ∧ rotY 5 0 (-90000000) = -5 := by decide +kernel
theorem aw3 : angI 0 (-3) = 270000000 := by decide +kernel
theorem sincos_90 (w : World) (t : TypeId) (fr : Nat × Nat) (ht : w.heap[0]? = some (.cells tabV t fr)) :
    Calls Tryd.prog 14 #[.int .i64 90000000] w fun e w' => e = .returned (.tuple #[.int .i64 1073741824, .int .i64 0]) ∧ Below w.heap.size w w' := by
  have h := sincos_any 90000000 w (by omega) (by omega) t fr ht
  rw [aw1.1, aw1.2] at h; exact h
theorem rotate_90 (w : World) (t : TypeId) (fr : Nat × Nat) (ht : w.heap[0]? = some (.cells tabV t fr)) :
    Calls Tryd.prog 19 #[.int .i64 5, .int .i64 0, .int .i64 (-90000000)] w fun e w' => e = .returned (.tuple #[.int .i64 0, .int .i64 (-5), .bool true]) ∧ Below w.heap.size w w' := by
  have h := rotate_in 5 0 (-90000000) w (by omega) (by omega) t fr ht (by omega) (by omega) (by omega) (by omega)
  rw [aw2.1, aw2.2] at h; exact h
theorem angle_03 (w : World) (t : TypeId) (fr : Nat × Nat) (ht : w.heap[0]? = some (.cells tabV t fr)) :
    Calls Tryd.prog 21 #[.int .i64 0, .int .i64 (-3)] w fun e w' => e = .returned (.tuple #[.int .i64 270000000, .bool true]) ∧ Below w.heap.size w w' := by
  have h := angle_any 0 (-3) w t fr ht (by omega) (by omega) (by omega) (by omega) (by omega)
  rw [aw3] at h; exact h
set_option maxHeartbeats 400000 in
theorem awake_any (w : World) (t : TypeId) (fr : Nat × Nat) (ht : w.heap[0]? = some (.cells tabV t fr)) :
    Calls Tryd.prog 18 #[] w fun e w' => e = .returned (.bool true) ∧ Below w.heap.size w w' := by
  go_enter Tryd.func18, Tryd.ntmps18
  go_wp2_with fail
  refine (sincos_90 _ t fr ht).mono ?_
  rintro e w1 ⟨rfl, hb1⟩
  have ht1 := bcell0 ht hb1
  go_wp2_with fail
  refine (rotate_90 _ t fr ht1).mono ?_
  rintro e w2 ⟨rfl, hb2⟩
  have ht2 := bcell0 ht1 hb2
  go_wp2_with fail
  refine (angle_03 _ t fr ht2).mono ?_
  rintro e w3 ⟨rfl, hb3⟩
  go_wp2_with fail
  go_ret
  exact ⟨rfl, bt (bt hb1 hb2) hb3⟩

set_option maxHeartbeats 400000 in
theorem law_sincos (a k : Int) (w : World) (ha : -9223372036854775808 ≤ a) (ha2 : a ≤ 9223372036854775807) (hk : -9223372036854775808 ≤ k) (hk2 : k ≤ 9223372036854775807)
    (t : TypeId) (fr : Nat × Nat) (ht : w.heap[0]? = some (.cells tabV t fr)) :
    Calls Tryd.prog 3 #[.int .i64 a, .int .i64 k] w fun e w' => e = .returned (.bool true) ∧ Below w.heap.size w w' := by
  have m1 := Int.emod_nonneg k (b := 8) (by omega)
  have m2 := Int.emod_lt_of_pos k (b := 8) (by omega)
  have m3 := Int.emod_nonneg a (b := 5) (by omega)
  have m4 := Int.emod_lt_of_pos a (b := 5) (by omega)
  go_enter Tryd.func3, Tryd.ntmps3
  go_wp2_with fail
  refine (sincos_any _ _ ha ha2 t fr ht).mono ?_
  rintro e w1 ⟨rfl, hb1⟩
  have ht1 := bcell0 ht hb1
  go_wp2_with fail
  refine (sincosRef_any _ _ ha ha2).mono ?_
  rintro e w2 ⟨rfl, hb2⟩
  have ht2 := bcell0 ht1 hb2
  go_wp2_with fail
  refine (mod_any _ _ _ (by omega) (by omega) (by omega) (by omega)).mono ?_
  rintro e w' ⟨rfl, rfl⟩
  go_wp2_with fail
  refine (between_any _ _ _ _ (by omega) (by omega) (by omega) (by omega) (by omega) (by omega)).mono ?_
  rintro e w' ⟨rfl, rfl⟩
  go_wp2_with fail
  refine (sincos_any _ _ (by omega) (by omega) t fr ht2).mono ?_
  rintro e w3 ⟨rfl, hb3⟩
  have ht3 := bcell0 ht2 hb3
  go_wp2_with fail
  refine (sincosRef_any _ _ (by omega) (by omega)).mono ?_
  rintro e w4 ⟨rfl, hb4⟩
  have ht4 := bcell0 ht3 hb4
  go_wp2_with fail
  refine (awake_any _ t fr ht4).mono ?_
  rintro e w5 ⟨rfl, hb5⟩
  go_wp2_with fail
  go_ret
  exact ⟨rfl, bt (bt (bt (bt hb1 hb2) hb3) hb4) hb5⟩
end Go.Proofs.YtjajkgdbaefndaaDoor
