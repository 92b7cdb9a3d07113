/- Proved here: CordicCircle, CordicMirrors, CordicBack return true for every argument, in every world that holds the table; no conditions but that integers are ints. -/
import Derived.Test.YtjajkgdbaefndaaDoorCw8
import Derived.Test.YtjajkgdbaefndaaDoorCxM
namespace Go.Proofs.YtjajkgdbaefndaaDoor
open Go.RowKit
set_option linter.unusedVariables false

set_option maxHeartbeats 400000 in
theorem law_circle (a : Int) (w : World) (ha : -9223372036854775808 ≤ a) (ha2 : a ≤ 9223372036854775807)
    (t : TypeId) (fr : Nat × Nat) (ht : w.heap[0]? = some (.cells tabV t fr)) :
    Calls Tryd.prog 6 #[.int .i64 a] w fun e w' => e = .returned (.bool true) ∧ Below w.heap.size w w' := by
  have HS := Lib.hid (sincos_any a w ha ha2 t fr ht)
  have b := sc_bd a
  have f := circle_fact a
  obtain ⟨s, hs⟩ : ∃ s, sinI a = s := ⟨_, rfl⟩
  obtain ⟨c, hc⟩ : ∃ c, cosI a = c := ⟨_, rfl⟩
  rw [hs, hc] at HS
  rw [hs, hc] at b f
  clear hs hc
  have b1 := b.1.1
  have b2 := b.1.2
  have b3 := b.2.1
  have b4 := b.2.2
  have ms := mul_bd b3 b4 b3 b4
  have mc := mul_bd b1 b2 b1 b2
  have m1 := ms.1
  have m2 := ms.2
  have m3 := mc.1
  have m4 := mc.2
  have f1 := f.1
  have f2 := f.2
  clear b f ms mc
  go_enter Tryd.func6, Tryd.ntmps6
  go_wp2_with fail
  refine HS.out.mono ?_
  rintro e w1 ⟨rfl, hb1⟩
  have ht1 := bcell0 ht hb1
  clear HS
  go_wp2_with fail
  refine (awake_any _ t fr ht1).mono ?_
  rintro e w2 ⟨rfl, hb2⟩
  go_wp2_with fail
  go_ret
  exact ⟨rfl, bt hb1 hb2⟩
theorem near_yes (a b d : Int) (w : World) (h1 : -9000000000000000000 ≤ a - b) (h2 : a - b ≤ 9000000000000000000) (h3 : a - b ≤ d) (h4 : b - a ≤ d) :
    Calls Tryd.prog 23 #[.int .i64 a, .int .i64 b, .int .i64 d] w fun e w' => e = .returned (.bool true) ∧ w = w' := by
  go_enter Tryd.func23, Tryd.ntmps23
  go_wp2
  go_ret
  exact ⟨rfl, rfl⟩
set_option maxHeartbeats 400000 in
theorem law_mirrors (a : Int) (w : World) (ha : -9223372036854775808 ≤ a) (ha2 : a ≤ 9223372036854775807)
    (t : TypeId) (fr : Nat × Nat) (ht : w.heap[0]? = some (.cells tabV t fr)) :
    Calls Tryd.prog 8 #[.int .i64 a] w fun e w' => e = .returned (.bool true) ∧ Below w.heap.size w w' := by
  go_enter Tryd.func8, Tryd.ntmps8
  go_wp2_with fail
  refine (mod_ex _ _ _ ha ha2 (by omega) (by omega)).mono ?_
  rintro e w' ⟨n, hn1, hn2, rfl, rfl⟩
  go_wp2_with fail
  refine (sincos_any _ _ (by omega) (by omega) t fr ht).mono ?_
  rintro e w1 ⟨rfl, hb1⟩
  have ht1 := bcell0 ht hb1
  go_wp2_with fail
  refine (sincos_any _ _ (by omega) (by omega) t fr ht1).mono ?_
  rintro e w2 ⟨rfl, hb2⟩
  have ht2 := bcell0 ht1 hb2
  go_wp2_with fail
  refine (awake_any _ t fr ht2).mono ?_
  rintro e w3 ⟨rfl, hb3⟩
  have b := sc_bd n
  have b' := sc_bd (-n)
  have f := mirrors_fact n
  have b1 := b.1.1
  have b2 := b.1.2
  have b3 := b.2.1
  have b4 := b.2.2
  have c1 := b'.1.1
  have c2 := b'.1.2
  have c3 := b'.2.1
  have c4 := b'.2.2
  have f1 := f.1.1
  have f2 := f.1.2
  have f3 := f.2.1
  have f4 := f.2.2
  clear b b' f
  go_wp2_with fail
  refine (near_yes _ _ _ _ (by omega) (by omega) (by omega) (by omega)).mono ?_
  rintro e w' ⟨rfl, rfl⟩
  go_wp2_with fail
  refine (near_yes _ _ _ _ (by omega) (by omega) (by omega) (by omega)).mono ?_
  rintro e w' ⟨rfl, rfl⟩
  go_wp2_with fail
  go_ret
  exact ⟨rfl, bt (bt hb1 hb2) hb3⟩
set_option maxHeartbeats 400000 in
theorem law_back (x y a : Int) (w : World) (hx : -9223372036854775808 ≤ x) (hx2 : x ≤ 9223372036854775807) (hy : -9223372036854775808 ≤ y) (hy2 : y ≤ 9223372036854775807) (ha : -9223372036854775808 ≤ a) (ha2 : a ≤ 9223372036854775807)
    (t : TypeId) (fr : Nat × Nat) (ht : w.heap[0]? = some (.cells tabV t fr)) :
    Calls Tryd.prog 9 #[.int .i64 x, .int .i64 y, .int .i64 a] w fun e w' => e = .returned (.bool true) ∧ Below w.heap.size w w' := by
  go_enter Tryd.func9, Tryd.ntmps9
  go_wp2_with fail
  refine (between_ex _ _ _ _ hx hx2 (by omega) (by omega) (by omega) (by omega)).mono ?_
  rintro e w' ⟨p, hp1, hp2, rfl, rfl⟩
  go_wp2_with fail
  refine (between_ex _ _ _ _ hy hy2 (by omega) (by omega) (by omega) (by omega)).mono ?_
  rintro e w' ⟨q, hq1, hq2, rfl, rfl⟩
  go_wp2_with fail
  refine (mod_ex _ _ _ ha ha2 (by omega) (by omega)).mono ?_
  rintro e w' ⟨n, hn1, hn2, rfl, rfl⟩
  go_wp2_with fail
  refine (rotate_in _ _ _ _ (by omega) (by omega) t fr ht (by omega) (by omega) (by omega) (by omega)).mono ?_
  rintro e w1 ⟨rfl, hb1⟩
  have ht1 := bcell0 ht hb1
  have b := rot_bd p q n hp1 hp2 hq1 hq2
  have f := back_fact p q n hp1 hp2 hq1 hq2
  have b1 := b.1.1
  have b2 := b.1.2
  have b3 := b.2.1
  have b4 := b.2.2
  have f1 := f.1.1
  have f2 := f.1.2
  have f3 := f.2.1
  have f4 := f.2.2
  clear b f
  go_wp2_with fail
  refine (rotate_in _ _ _ _ (by omega) (by omega) t fr ht1 (by omega) (by omega) (by omega) (by omega)).mono ?_
  rintro e w2 ⟨rfl, hb2⟩
  have ht2 := bcell0 ht1 hb2
  go_wp2_with fail
  refine (awake_any _ t fr ht2).mono ?_
  rintro e w3 ⟨rfl, hb3⟩
  go_wp2_with fail
  refine (near_yes _ _ _ _ (by omega) (by omega) (by omega) (by omega)).mono ?_
  rintro e w' ⟨rfl, rfl⟩
  go_wp2_with fail
  refine (near_yes _ _ _ _ (by omega) (by omega) (by omega) (by omega)).mono ?_
  rintro e w' ⟨rfl, rfl⟩
  go_wp2_with fail
  go_ret
  exact ⟨rfl, bt (bt hb1 hb2) hb3⟩
end Go.Proofs.YtjajkgdbaefndaaDoor
