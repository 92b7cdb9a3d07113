/- Proved here: CordicSums and CordicLengths return true for every argument, in every world that holds the table; no conditions but that integers are ints. -/
import Derived.Test.YtjajkgdbaefndaaDoorCw9
import Derived.Test.YtjajkgdbaefndaaDoorCxN
namespace Go.Proofs.YtjajkgdbaefndaaDoor
open Go.RowKit
set_option linter.unusedVariables false
/-- MulDiv at the law's arguments: by name -/
theorem md_ex (a b : Int) (w : World) (ha : -1073742900 ≤ a) (ha2 : a ≤ 1073742900) (hb : -1073742900 ≤ b) (hb2 : b ≤ 1073742900) :
    Calls Tryd.prog 25 #[.int .i64 a, .int .i64 b, .int .i64 1073741824, .int .i64 2] w fun e w' => e = .returned (.tuple #[.int .i64 (mdV a b 1073741824 2), .bool true]) ∧ Below w.heap.size w w' := by
  have h := muldiv_any a b 1073741824 2 w (by omega) (by omega) (by omega) (by omega) (by omega) (by omega)
  rw [(md_one a b ha ha2 hb hb2).1] at h
  exact h
set_option maxHeartbeats 1000000 in
theorem law_sums (a b : Int) (w : World) (ha : -9223372036854775808 ≤ a) (ha2 : a ≤ 9223372036854775807) (hb : -9223372036854775808 ≤ b) (hb2 : b ≤ 9223372036854775807)
    (t : TypeId) (fr : Nat × Nat) (ht : w.heap[0]? = some (.cells tabV t fr)) :
    Calls Tryd.prog 13 #[.int .i64 a, .int .i64 b] w fun e w' => e = .returned (.bool true) ∧ Below w.heap.size w w' := by
  go_enter Tryd.func13, Tryd.ntmps13
  go_wp2_with fail
  refine (mod_ex _ _ _ ha ha2 (by omega) (by omega)).mono ?_
  rintro e w' ⟨p, hp1, hp2, rfl, rfl⟩
  go_wp2_with fail
  refine (mod_ex _ _ _ hb hb2 (by omega) (by omega)).mono ?_
  rintro e w' ⟨q, hq1, hq2, rfl, rfl⟩
  go_wp2_with fail
  refine (sincos_any _ _ (by omega) (by omega) t fr ht).mono ?_
  rintro e w1 ⟨rfl, hb1⟩
  have ht1 := bcell0 ht hb1
  go_wp2_with fail
  refine (sincos_any _ _ (by omega) (by omega) t fr ht1).mono ?_
  rintro e w2 ⟨rfl, hb2'⟩
  have ht2 := bcell0 ht1 hb2'
  go_wp2_with fail
  refine (sincos_any _ _ (by omega) (by omega) t fr ht2).mono ?_
  rintro e w3 ⟨rfl, hb3⟩
  have ht3 := bcell0 ht2 hb3
  have sp := sc_bd p
  have sq := sc_bd q
  have ss := sc_bd (p + q)
  have f := sums_fact p q hp1 hp2 hq1 hq2
  have o1 := md_one (sinI p) (cosI q) sp.2.1 sp.2.2 sq.1.1 sq.1.2
  have o2 := md_one (cosI p) (sinI q) sp.1.1 sp.1.2 sq.2.1 sq.2.2
  have o3 := md_one (cosI p) (cosI q) sp.1.1 sp.1.2 sq.1.1 sq.1.2
  have o4 := md_one (sinI p) (sinI q) sp.2.1 sp.2.2 sq.2.1 sq.2.2
  have HF := Lib.hid f
  have HO := Lib.hid (And.intro o1.2.2.2 (And.intro o2.2.2.2 (And.intro o3.2.2.2 o4.2.2.2)))
  have HS := Lib.hid (And.intro sp (And.intro sq ss))
  clear f o1 o2 o3 o4 sp sq ss
  go_wp2_with fail
  refine (md_ex _ _ _ HS.out.1.2.1 HS.out.1.2.2 HS.out.2.1.1.1 HS.out.2.1.1.2).mono ?_
  rintro e w4 ⟨rfl, hb4⟩
  have ht4 := bcell0 ht3 hb4
  go_wp2_with fail
  refine (md_ex _ _ _ HS.out.1.1.1 HS.out.1.1.2 HS.out.2.1.2.1 HS.out.2.1.2.2).mono ?_
  rintro e w5 ⟨rfl, hb5⟩
  have ht5 := bcell0 ht4 hb5
  go_wp2_with fail
  refine (md_ex _ _ _ HS.out.1.1.1 HS.out.1.1.2 HS.out.2.1.1.1 HS.out.2.1.1.2).mono ?_
  rintro e w6 ⟨rfl, hb6⟩
  have ht6 := bcell0 ht5 hb6
  go_wp2_with fail
  refine (md_ex _ _ _ HS.out.1.2.1 HS.out.1.2.2 HS.out.2.1.2.1 HS.out.2.1.2.2).mono ?_
  rintro e w7 ⟨rfl, hb7⟩
  have ht7 := bcell0 ht6 hb7
  go_wp2_with fail
  refine (awake_any _ t fr ht7).mono ?_
  rintro e w8 ⟨rfl, hb8⟩
  have f1 := HF.out.1.1
  have f2 := HF.out.1.2
  have f3 := HF.out.2.1
  have f4 := HF.out.2.2
  have g1 := HO.out.1.1
  have g2 := HO.out.1.2
  have g3 := HO.out.2.1.1
  have g4 := HO.out.2.1.2
  have g5 := HO.out.2.2.1.1
  have g6 := HO.out.2.2.1.2
  have g7 := HO.out.2.2.2.1
  have g8 := HO.out.2.2.2.2
  have s1 := HS.out.2.2.1.1
  have s2 := HS.out.2.2.1.2
  have s3 := HS.out.2.2.2.1
  have s4 := HS.out.2.2.2.2
  go_wp2_with fail
  refine (near_yes _ _ _ _ (by omega) (by omega) (by omega) (by omega)).mono ?_
  rintro e w' ⟨rfl, rfl⟩
  go_wp2_with fail
  refine (near_yes _ _ _ _ (by omega) (by omega) (by omega) (by omega)).mono ?_
  rintro e w' ⟨rfl, rfl⟩
  go_wp2_with fail
  go_ret
  exact ⟨rfl, bt (bt (bt (bt (bt (bt (bt hb1 hb2') hb3) hb4) hb5) hb6) hb7) hb8⟩
/-- a root by name -/
theorem sqrt_ex (n : Int) (w : World) (h0 : 0 ≤ n) (h1 : n ≤ 9223372036854775807) :
    Calls Tryd.prog 24 #[.int .i64 n, .int .i64 2] w fun e w' => ∃ r : Nat, Hid (SQ 2 n.toNat r) ∧ r ≤ 3037000501 ∧ e = .returned (.tuple #[.int .i64 r, .bool true]) ∧ Below w.heap.size w w' := by
  obtain ⟨r, hs, hr, ho, hv⟩ := sq_rel n 2 h0 h1 (Or.inr (Or.inr rfl))
  have h := sqrt_any n 2 w h1
  rw [ho, hv] at h
  exact h.mono fun e w' ⟨he, hb⟩ => ⟨r, hs, hr, he, hb⟩
set_option maxHeartbeats 1000000 in
theorem law_lengths (x y a : Int) (w : World) (hx : -9223372036854775808 ≤ x) (hx2 : x ≤ 9223372036854775807) (hy : -9223372036854775808 ≤ y) (hy2 : y ≤ 9223372036854775807) (ha : -9223372036854775808 ≤ a) (ha2 : a ≤ 9223372036854775807)
    (t : TypeId) (fr : Nat × Nat) (ht : w.heap[0]? = some (.cells tabV t fr)) :
    Calls Tryd.prog 11 #[.int .i64 x, .int .i64 y, .int .i64 a] w fun e w' => e = .returned (.bool true) ∧ Below w.heap.size w w' := by
  go_enter Tryd.func11, Tryd.ntmps11
  go_wp2_with fail
  refine (between_ex _ _ _ _ hx hx2 (by omega) (by omega) (by omega) (by omega)).mono ?_
  rintro e w' ⟨p, hp1, hp2, rfl, rfl⟩
  go_wp2_with fail
  refine (between_ex _ _ _ _ hy hy2 (by omega) (by omega) (by omega) (by omega)).mono ?_
  rintro e w' ⟨q, hq1, hq2, rfl, rfl⟩
  go_wp2_with fail
  refine (rotate_in _ _ _ _ ha ha2 t fr ht (by omega) (by omega) (by omega) (by omega)).mono ?_
  rintro e w1 ⟨rfl, hb1⟩
  have ht1 := bcell0 ht hb1
  have b := rot_bd p q a hp1 hp2 hq1 hq2
  have HF := Lib.hid (lengths_fact p q a hp1 hp2 hq1 hq2)
  generalize rotX p q a = u at *
  generalize rotY p q a = v at *
  have b1 := b.1.1
  have b2 := b.1.2
  have b3 := b.2.1
  have b4 := b.2.2
  have m1 := mul_bd hp1 hp2 hp1 hp2
  have m2 := mul_bd hq1 hq2 hq1 hq2
  have m3 := mul_bd b1 b2 b1 b2
  have m4 := mul_bd b3 b4 b3 b4
  have k1 := m1.2
  have k2 := m2.2
  have k3 := m3.2
  have k4 := m4.2
  have n1 := sq_int p
  have n2 := sq_int q
  have n3 := sq_int u
  have n4 := sq_int v
  clear b m1 m2 m3 m4
  go_wp2_with fail
  refine (awake_any _ t fr ht1).mono ?_
  rintro e w2 ⟨rfl, hb2⟩
  go_wp2_with fail
  refine (sqrt_ex _ _ (by omega) (by omega)).mono ?_
  rintro e w3 ⟨m, HM, hm, rfl, hb3⟩
  go_wp2_with fail
  refine (sqrt_ex _ _ (by omega) (by omega)).mono ?_
  rintro e w4 ⟨n, HN, hn, rfl, hb4⟩
  have f := HF.out m n HM.out HN.out
  have f1 := f.1
  have f2 := f.2
  clear f
  go_wp2_with fail
  refine (near_yes _ _ _ _ (by omega) (by omega) (by omega) (by omega)).mono ?_
  rintro e w' ⟨rfl, rfl⟩
  go_wp2_with fail
  go_ret
  exact ⟨rfl, bt (bt (bt hb1 hb2) hb3) hb4⟩
end Go.Proofs.YtjajkgdbaefndaaDoor
