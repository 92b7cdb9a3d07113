/- Proved here: VecTriangle returns true for every argument; no conditions but that integers are ints. -/
import Derived.Test.YtlblodiamcnnpaaVw8
namespace Go.Proofs.Ytlblodiamcnnpaa
open Go.RowKit
set_option linter.unusedVariables false
set_option linter.unusedSimpArgs false
theorem ite_max (x y : Int) : (if y > x then y else x) = max x y := by
  rw [Int.max_def]
  split <;> split <;> omega
@[go_sem high] theorem run_max2 {P : Program} (w : World) (ts : Array TypeId) (t : TypeId) (k k' : IntKind) (x y : Int) :
    (Builtin.max_ ts t #[.int k x, .int k' y]).run P w = .ok (.int k (max x y)) w := by
  simp [Builtin.max_, Builtin.max2, ← ite_max]
@[go_sem high] theorem run_max6 {P : Program} (w : World) (ts : Array TypeId) (t : TypeId) (k : IntKind) (a b c d e f : Int) :
    (Builtin.max_ ts t #[.int k a, .int k b, .int k c, .int k d, .int k e, .int k f]).run P w = .ok (.int k (max (max (max (max (max a b) c) d) e) f)) w := by
  simp [Builtin.max_, Builtin.max2, ← ite_max]
theorem sq_up (D : Int) (h0 : 0 ≤ D) (h1 : D ≤ 9223372036854775807) : ∃ u : Int, sqV D 1 = u ∧ sqO D 1 = true ∧ 0 ≤ u ∧ u ≤ 3037000501 ∧ D ≤ u * u ∧ (u = 0 ∨ u * u < D + 2 * u - 1) := by
  obtain ⟨r2, s2, f2, o2, v2⟩ := sq_rel D 1 h0 h1 (Or.inr (Or.inl rfl))
  have e := Int.toNat_of_nonneg h0
  generalize D.toNat = P at *
  obtain ⟨t1, t2⟩ := s2.2.1 rfl
  refine ⟨r2, v2, o2, by omega, by omega, ?_, ?_⟩
  · rw [← e]; exact_mod_cast t1
  · rcases t2 with h | h
    · left; omega
    · right; rw [← e]
      have : ((r2 * r2 : Nat) : Int) = (r2 : Int) * r2 := by simp
      omega
set_option maxRecDepth 20000 in
set_option maxHeartbeats 4000000 in
theorem law_triangle (a b c x y z : Int) (w : World) (la : -9223372036854775808 ≤ a) (ha : a ≤ 9223372036854775807) (lb : -9223372036854775808 ≤ b) (hb : b ≤ 9223372036854775807) (lc : -9223372036854775808 ≤ c) (hc : c ≤ 9223372036854775807) (lx : -9223372036854775808 ≤ x) (hx : x ≤ 9223372036854775807) (ly : -9223372036854775808 ≤ y) (hy : y ≤ 9223372036854775807) (lz : -9223372036854775808 ≤ z) (hz : z ≤ 9223372036854775807) :
    Calls Try.prog 4 #[.agg #[.int .i64 a, .int .i64 b, .int .i64 c], .agg #[.int .i64 x, .int .i64 y, .int .i64 z]] w fun e w' => e = .returned (.bool true) ∧ Below w.heap.size w w' := by
  have P1 := fun w => Lib.hid (halved_ex a b c w la ha lb hb lc hc)
  have P2 := fun w => Lib.hid (halved_ex x y z w lx hx ly hy lz hz)
  go_enter Try.func4, Try.ntmps4
  go_wp2_with fail
  go_cut [11] (fun s wx => s = .agg #[.int .i64 a, .int .i64 b, .int .i64 c] ∧ Lay w.heap.size (w.heap.size + 2) (vcells w.heap.size (hfI a) (hfI b) (hfI c) ++ vcells (w.heap.size + 1) (hfI x) (hfI y) (hfI z)) w wx)
  case first =>
    go_region_with (first
      | (go_at_call_of 19 a; refine (P1 _).out.mono ?_; rintro e w2 ⟨rfl, rfl⟩)
      | (go_at_call_of 19 x; refine (P2 _).out.mono ?_; rintro e w3 ⟨rfl, rfl⟩))
    all_goals
      go_wp2_with fail
      go_meet
      refine ⟨rfl, ?_⟩
      unfold vcells
      (refine ⟨by simp [List.forall_mem_cons, go_sem], by simp [List.forall_mem_cons] <;> omega, by simp, by (repeat (first | exact Below.refl _ _ | assumption | refine Below.drew ?_ | (refine Below.alloc ?_ (by simp <;> omega) _) | (refine Below.setCell ?_ (by simp <;> omega) _))), by omega⟩)
  case rest =>
    obtain ⟨rfl, hT⟩ := hcut
    unfold vcells at hT
    simp only [List.cons_append, List.nil_append] at hT
    have Ba := hfI_bd a
    obtain ⟨a, ha⟩ : ∃ r, hfI a = r := ⟨_, rfl⟩
    rw [ha] at hT Ba
    have Sa : Sm a := ⟨by omega, by omega⟩
    clear ha
    have Bb := hfI_bd b
    obtain ⟨b, hb⟩ : ∃ r, hfI b = r := ⟨_, rfl⟩
    rw [hb] at hT Bb
    have Sb : Sm b := ⟨by omega, by omega⟩
    clear hb
    have Bc := hfI_bd c
    obtain ⟨c, hc⟩ : ∃ r, hfI c = r := ⟨_, rfl⟩
    rw [hc] at hT Bc
    have Sc : Sm c := ⟨by omega, by omega⟩
    clear hc
    have Bx := hfI_bd x
    obtain ⟨x, hx⟩ : ∃ r, hfI x = r := ⟨_, rfl⟩
    rw [hx] at hT Bx
    have Sx : Sm x := ⟨by omega, by omega⟩
    clear hx
    have By := hfI_bd y
    obtain ⟨y, hy⟩ : ∃ r, hfI y = r := ⟨_, rfl⟩
    rw [hy] at hT By
    have Sy : Sm y := ⟨by omega, by omega⟩
    clear hy
    have Bz := hfI_bd z
    obtain ⟨z, hz⟩ : ∃ r, hfI z = r := ⟨_, rfl⟩
    rw [hz] at hT Bz
    have Sz : Sm z := ⟨by omega, by omega⟩
    clear hz
    obtain ⟨D0, D1⟩ := sq_sum Sa Sb Sc
    obtain ⟨E0, E1⟩ := sq_sum Sx Sy Sz
    have Sax : Sm (a + x) := ⟨by omega, by omega⟩
    have Sby : Sm (b + y) := ⟨by omega, by omega⟩
    have Scz : Sm (c + z) := ⟨by omega, by omega⟩
    obtain ⟨G0, G1⟩ := sq_sum Sax Sby Scz
    obtain ⟨m, e1, e2, m0, m1, m2, m3⟩ := sq_up _ D0 (by omega)
    obtain ⟨n, e3, e4, n0, n1, n2, n3⟩ := sq_up _ E0 (by omega)
    obtain ⟨k, _, e5, e6, _, _, k0, k1, _, _, k2, _, _⟩ := sq_pair _ G0 (by omega)
    have T1 := tri_le m0 n0 m2 n2 k2
    have T2 := sum_ge m3
    obtain ⟨T3, T4, T5, T6, T7, T8⟩ := comp_le m0 m2
    have LA := fun w => Lib.hid (length_any a b c 1 w Sa Sb Sc)
    have LX := fun w => Lib.hid (length_any x y z 1 w Sx Sy Sz)
    have LS := fun w => Lib.hid (length_any (a + x) (b + y) (c + z) 0 w Sax Sby Scz)
    rw [e1, e2] at LA
    rw [e3, e4] at LX
    rw [e5, e6] at LS
    clear e1 e2 e3 e4 e5 e6 D0 D1 E0 E1 G0 G1 m2 m3 n2 n3 k2
    have AD := fun w => Lib.hid (addP_any a b c x y z w (by omega) (by omega) (by omega) (by omega) (by omega) (by omega))
    (have qk9 := Lay.cells hT; simp only [List.forall_mem_cons, List.not_mem_nil, false_implies, implies_true, and_true] at qk9; repeat (obtain ⟨qk8, qk9⟩ := qk9))
    go_wp2_with fail
    refine (LA _).out.mono ?_
    rintro e w1 ⟨rfl, hb1⟩
    have hT := hT.next hb1
    (have qk9 := Lay.cells hT; simp only [List.forall_mem_cons, List.not_mem_nil, false_implies, implies_true, and_true] at qk9; repeat (obtain ⟨qk8, qk9⟩ := qk9))
    go_wp2_with fail
    refine (LX _).out.mono ?_
    rintro e w2 ⟨rfl, hb2⟩
    have hT := hT.next hb2
    (have qk9 := Lay.cells hT; simp only [List.forall_mem_cons, List.not_mem_nil, false_implies, implies_true, and_true] at qk9; repeat (obtain ⟨qk8, qk9⟩ := qk9))
    go_wp2_with fail
    refine (AD _).out.mono ?_
    rintro e w3 ⟨rfl, hb3⟩
    have hT := hT.next hb3
    (have qk9 := Lay.cells hT; simp only [List.forall_mem_cons, List.not_mem_nil, false_implies, implies_true, and_true] at qk9; repeat (obtain ⟨qk8, qk9⟩ := qk9))
    go_wp2_with fail
    refine (LS _).out.mono ?_
    rintro e w3 ⟨rfl, hb3⟩
    have hT := hT.next hb3
    (have qk9 := Lay.cells hT; simp only [List.forall_mem_cons, List.not_mem_nil, false_implies, implies_true, and_true] at qk9; repeat (obtain ⟨qk8, qk9⟩ := qk9))
    go_wp2_with fail
    refine (awake_any _).mono ?_
    rintro e w4 ⟨rfl, hb4⟩
    have hT := hT.next hb4
    have T9 : decide (max a (max (-a) (max b (max (-b) (max c (-c))))) ≤ m) = true := decide_eq_true (by omega)
    (have qk9 := Lay.cells hT; simp only [List.forall_mem_cons, List.not_mem_nil, false_implies, implies_true, and_true] at qk9; repeat (obtain ⟨qk8, qk9⟩ := qk9))
    go_wp2_with fail
    go_ret
    exact ⟨rfl, hT.be⟩
end Go.Proofs.Ytlblodiamcnnpaa
