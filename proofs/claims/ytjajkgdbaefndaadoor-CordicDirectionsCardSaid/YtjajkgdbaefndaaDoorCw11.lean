/- Proved here: CordicDirections returns true for every argument, in every world that holds the table; no conditions but that integers are ints. -/
import Derived.Test.YtjajkgdbaefndaaDoorCw10
import Derived.Test.YtjajkgdbaefndaaDoorCxP
namespace Go.Proofs.YtjajkgdbaefndaaDoor
open Go.RowKit
set_option linter.unusedVariables false
set_option maxHeartbeats 1000000 in
theorem law_directions (x y : Int) (w : World) (hx : -9223372036854775808 ≤ x) (hx2 : x ≤ 9223372036854775807) (hy : -9223372036854775808 ≤ y) (hy2 : y ≤ 9223372036854775807)
    (t : TypeId) (fr : Nat × Nat) (ht : w.heap[0]? = some (.cells tabV t fr)) :
    Calls Tryd.prog 12 #[.int .i64 x, .int .i64 y] w fun e w' => e = .returned (.bool true) ∧ Below w.heap.size w w' := by
  go_enter Tryd.func12, Tryd.ntmps12
  go_wp2_with fail
  refine (between_ex _ _ _ _ hx hx2 (by omega) (by omega) (by omega) (by omega)).mono ?_
  rintro e w' ⟨p, hp1, hp2, rfl, rfl⟩
  go_wp2_with fail
  refine (between_ex _ _ _ _ hy hy2 (by omega) (by omega) (by omega) (by omega)).mono ?_
  rintro e w' ⟨q, hq1, hq2, rfl, rfl⟩
  by_cases h : p = 0 ∧ q = 0
  · obtain ⟨rfl, rfl⟩ := h
    go_wp2_with fail
    refine (angle_no 0 0 _ (Or.inl ⟨rfl, rfl⟩)).mono ?_
    rintro e w1 ⟨rfl, hb1⟩
    have ht1 := bcell0 ht hb1
    go_wp2_with fail
    refine (awake_any _ t fr ht1).mono ?_
    rintro e w2 ⟨rfl, hb2⟩
    go_wp2_with fail
    go_ret
    exact ⟨rfl, bt hb1 hb2⟩
  · have hn : p ≠ 0 ∨ q ≠ 0 := by omega
    clear h
    have HF := fun r => Lib.hid (directions_fact p q hp1 hp2 hq1 hq2 hn r)
    have HA := fun w ht => Lib.hid (angle_any p q w t fr ht (by omega) (by omega) (by omega) (by omega) hn)
    have m1 := (mul_bd hp1 hp2 hp1 hp2).2
    have m2 := (mul_bd hq1 hq2 hq1 hq2).2
    have n1 := sq_int p
    have n2 := sq_int q
    generalize angI p q = a at *
    by_cases hp0 : p = 0
    · have e0 : (p == 0) = true := by simpa using hp0
      have e1 : (q == 0) = false := by simp; omega
      clear hn hp0
      go_wp2_with fail
      refine (HA _ ht).out.mono ?_
      rintro e w1 ⟨rfl, hb1⟩
      have ht1 := bcell0 ht hb1
      go_wp2_with fail
      refine (sqrt_ex _ _ (by omega) (by omega)).mono ?_
      rintro e w3 ⟨m, HM, hm, rfl, hb3⟩
      have ht3 := bcell0 ht1 hb3
      obtain ⟨⟨f1, f2⟩, f3, ⟨f4, f5⟩, f6, f7⟩ := (HF m).out HM.out
      go_wp2_with fail
      refine (rotate_in _ _ _ _ (by omega) (by omega) t fr ht3 (by omega) (by omega) (by omega) (by omega)).mono ?_
      rintro e w4 ⟨rfl, hb4⟩
      have ht4 := bcell0 ht3 hb4
      generalize rotX m 0 a = u at *
      generalize rotY m 0 a = v at *
      go_wp2_with fail
      refine (awake_any _ t fr ht4).mono ?_
      rintro e w5 ⟨rfl, hb5⟩
      go_wp2_with fail
      refine (near_yes _ _ _ _ (by omega) (by omega) (by omega) (by omega)).mono ?_
      rintro e w' ⟨rfl, rfl⟩
      go_wp2_with fail
      refine (near_yes _ _ _ _ (by omega) (by omega) (by omega) (by omega)).mono ?_
      rintro e w' ⟨rfl, rfl⟩
      go_wp2_with fail
      go_ret
      exact ⟨rfl, bt (bt (bt hb1 hb3) hb4) hb5⟩
    · have e0 : (p == 0) = false := by simpa using hp0
      clear hn hp0
      go_wp2_with fail
      refine (HA _ ht).out.mono ?_
      rintro e w1 ⟨rfl, hb1⟩
      have ht1 := bcell0 ht hb1
      go_wp2_with fail
      refine (sqrt_ex _ _ (by omega) (by omega)).mono ?_
      rintro e w3 ⟨m, HM, hm, rfl, hb3⟩
      have ht3 := bcell0 ht1 hb3
      obtain ⟨⟨f1, f2⟩, f3, ⟨f4, f5⟩, f6, f7⟩ := (HF m).out HM.out
      go_wp2_with fail
      refine (rotate_in _ _ _ _ (by omega) (by omega) t fr ht3 (by omega) (by omega) (by omega) (by omega)).mono ?_
      rintro e w4 ⟨rfl, hb4⟩
      have ht4 := bcell0 ht3 hb4
      generalize rotX m 0 a = u at *
      generalize rotY m 0 a = v at *
      go_wp2_with fail
      refine (awake_any _ t fr ht4).mono ?_
      rintro e w5 ⟨rfl, hb5⟩
      go_wp2_with fail
      refine (near_yes _ _ _ _ (by omega) (by omega) (by omega) (by omega)).mono ?_
      rintro e w' ⟨rfl, rfl⟩
      go_wp2_with fail
      refine (near_yes _ _ _ _ (by omega) (by omega) (by omega) (by omega)).mono ?_
      rintro e w' ⟨rfl, rfl⟩
      go_wp2_with fail
      go_ret
      exact ⟨rfl, bt (bt (bt hb1 hb3) hb4) hb5⟩
end Go.Proofs.YtjajkgdbaefndaaDoor
