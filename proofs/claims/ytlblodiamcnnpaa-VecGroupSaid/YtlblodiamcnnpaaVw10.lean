/- Proved here: VecGroup returns true for every argument; no conditions but that integers are ints. -/
import Derived.Test.YtlblodiamcnnpaaVwG
import Derived.Deep.RegionHeld3
namespace Go.Proofs.Ytlblodiamcnnpaa
open Go.RowKit
set_option linter.unusedVariables false
set_option linter.unusedSimpArgs false
theorem Sm_mul {x y : Int} (h : Sm x) (g : Sm y) : -70368744177664 ≤ x * y ∧ x * y ≤ 70368744177664 := h.mul g
theorem wr_in {n : Int} (h1 : -9223372036854775808 ≤ n) (h2 : n ≤ 9223372036854775807) : IntKind.i64.wrap n = n := by rw [IntKind.wrap_i64]; omega
theorem grp_fin {A B C X Y Z : Int} (hA : -70368744177664 ≤ A ∧ A ≤ 70368744177664) (hB : -70368744177664 ≤ B ∧ B ≤ 70368744177664) (hC : -70368744177664 ≤ C ∧ C ≤ 70368744177664) (hX : -70368744177664 ≤ X ∧ X ≤ 70368744177664) (hY : -70368744177664 ≤ Y ∧ Y ≤ 70368744177664) (hZ : -70368744177664 ≤ Z ∧ Z ≤ 70368744177664) :
    (IntKind.i64.wrap (A + B + C + (X + Y + Z)) == IntKind.i64.wrap (IntKind.i64.wrap (IntKind.i64.wrap (A + X) + IntKind.i64.wrap (B + Y)) + IntKind.i64.wrap (C + Z))) = true := by
  rw [wr_in (n := A + X) (by omega) (by omega), wr_in (n := B + Y) (by omega) (by omega), wr_in (n := C + Z) (by omega) (by omega), wr_in (n := A + X + (B + Y)) (by omega) (by omega), wr_in (n := A + X + (B + Y) + (C + Z)) (by omega) (by omega), wr_in (n := A + B + C + (X + Y + Z)) (by omega) (by omega)]
  simp
  omega
theorem Lay.push {B n : Nat} {cs : List (Addr × Value)} {w0 w : World} (h : Lay B n cs w0 w) (a b c : Int) (t : TypeId) : Lay B (w.heap.size + 1) (vcells w.heap.size a b c ++ cs) w0 (w.alloc (.cells #[.int .i64 a, .int .i64 b, .int .i64 c] t)) := by
  have h' := h.next (w' := w.alloc (.cells #[.int .i64 a, .int .i64 b, .int .i64 c] t)) ((Below.refl _ _).alloc (Nat.le_refl _) _)
  have hl := h.lt
  refine ⟨fun p hp => ?_, fun p hp => ?_, by simp, h'.be, Nat.le_trans h.le (Nat.le_trans h.lt (Nat.le_succ _))⟩
  · rcases List.mem_append.1 hp with g | g
    · simp only [vcells, List.mem_cons, List.not_mem_nil, or_false] at g
      rcases g with rfl | rfl | rfl <;> simp [go_sem]
    · exact h'.cells p g
  · rcases List.mem_append.1 hp with g | g
    · simp only [vcells, List.mem_cons, List.not_mem_nil, or_false] at g
      rcases g with rfl | rfl | rfl <;> simp
    · have := h.inn p g
      omega
set_option maxRecDepth 20000 in
set_option maxHeartbeats 4000000 in
theorem law_group (a b c x y z p q r : Int) (w : World) (la : -9223372036854775808 ≤ a) (ha : a ≤ 9223372036854775807) (lb : -9223372036854775808 ≤ b) (hb : b ≤ 9223372036854775807) (lc : -9223372036854775808 ≤ c) (hc : c ≤ 9223372036854775807) (lx : -9223372036854775808 ≤ x) (hx : x ≤ 9223372036854775807) (ly : -9223372036854775808 ≤ y) (hy : y ≤ 9223372036854775807) (lz : -9223372036854775808 ≤ z) (hz : z ≤ 9223372036854775807) (lp : -9223372036854775808 ≤ p) (hp : p ≤ 9223372036854775807) (lq : -9223372036854775808 ≤ q) (hq : q ≤ 9223372036854775807) (lr : -9223372036854775808 ≤ r) (hr : r ≤ 9223372036854775807) :
    Calls Try.prog 9 #[.agg #[.int .i64 a, .int .i64 b, .int .i64 c], .agg #[.int .i64 x, .int .i64 y, .int .i64 z], .agg #[.int .i64 p, .int .i64 q, .int .i64 r]] w fun e w' => e = .returned (.bool true) ∧ Below w.heap.size w w' := by
  have P1 := fun w => Lib.hid (vector_ex a b c w la ha lb hb lc hc)
  have P2 := fun w => Lib.hid (vector_ex x y z w lx hx ly hy lz hz)
  have P3 := fun w => Lib.hid (vector_ex p q r w lp hp lq hq lr hr)
  clear la ha lb hb lc hc lx hx ly hy lz hz lp hp lq hq lr hr
  go_enter Try.func9, Try.ntmps9
  go_wp2_with fail
  go_cut [9] (fun s wx => s = .agg #[.int .i64 a, .int .i64 b, .int .i64 c] ∧ Lay w.heap.size (w.heap.size + 3) (vcells w.heap.size (smI a) (smI b) (smI c) ++ vcells (w.heap.size + 1) (smI x) (smI y) (smI z) ++ vcells (w.heap.size + 1 + 1) (smI p) (smI q) (smI r)) w wx)
  case first =>
    go_region_with (first
      | (go_at_call_of 14 a; refine (P1 _).out.mono ?_; rintro e w2 ⟨rfl, rfl⟩)
      | (go_at_call_of 14 x; refine (P2 _).out.mono ?_; rintro e w3 ⟨rfl, rfl⟩)
      | (go_at_call_of 14 p; refine (P3 _).out.mono ?_; rintro e w3 ⟨rfl, rfl⟩))
    all_goals
      go_wp2_with fail
      go_meet
      refine ⟨rfl, ?_⟩
      unfold vcells
      (refine ⟨by simp [List.forall_mem_cons, go_sem], by simp [List.forall_mem_cons] <;> omega, by simp, by (repeat (first | exact Below.refl _ _ | assumption | refine Below.drew ?_ | (refine Below.alloc ?_ (by simp <;> omega) _) | (refine Below.setCell ?_ (by simp <;> omega) _))), by omega⟩)
  case rest =>
    obtain ⟨rfl, hT⟩ := hcut
    unfold vcells at hT
    simp only [List.cons_append, List.nil_append] at hT
    have Ba := smI_bd a
    obtain ⟨a, ha⟩ : ∃ t0, smI a = t0 := ⟨_, rfl⟩
    rw [ha] at hT Ba
    have Sa : Sm a := ⟨by omega, by omega⟩
    clear ha
    have Bb := smI_bd b
    obtain ⟨b, hb⟩ : ∃ t0, smI b = t0 := ⟨_, rfl⟩
    rw [hb] at hT Bb
    have Sb : Sm b := ⟨by omega, by omega⟩
    clear hb
    have Bc := smI_bd c
    obtain ⟨c, hc⟩ : ∃ t0, smI c = t0 := ⟨_, rfl⟩
    rw [hc] at hT Bc
    have Sc : Sm c := ⟨by omega, by omega⟩
    clear hc
    have Bx := smI_bd x
    obtain ⟨x, hx⟩ : ∃ t0, smI x = t0 := ⟨_, rfl⟩
    rw [hx] at hT Bx
    have Sx : Sm x := ⟨by omega, by omega⟩
    clear hx
    have By := smI_bd y
    obtain ⟨y, hy⟩ : ∃ t0, smI y = t0 := ⟨_, rfl⟩
    rw [hy] at hT By
    have Sy : Sm y := ⟨by omega, by omega⟩
    clear hy
    have Bz := smI_bd z
    obtain ⟨z, hz⟩ : ∃ t0, smI z = t0 := ⟨_, rfl⟩
    rw [hz] at hT Bz
    have Sz : Sm z := ⟨by omega, by omega⟩
    clear hz
    have Bp := smI_bd p
    obtain ⟨p, hp⟩ : ∃ t0, smI p = t0 := ⟨_, rfl⟩
    rw [hp] at hT Bp
    have Sp : Sm p := ⟨by omega, by omega⟩
    clear hp
    have Bq := smI_bd q
    obtain ⟨q, hq⟩ : ∃ t0, smI q = t0 := ⟨_, rfl⟩
    rw [hq] at hT Bq
    have Sq : Sm q := ⟨by omega, by omega⟩
    clear hq
    have Br := smI_bd r
    obtain ⟨r, hr⟩ : ∃ t0, smI r = t0 := ⟨_, rfl⟩
    rw [hr] at hT Br
    have Sr : Sm r := ⟨by omega, by omega⟩
    clear hr
    have A1 := fun w => Lib.hid (addP_any a b c x y z w (by omega) (by omega) (by omega) (by omega) (by omega) (by omega))
    have A2 := fun w => Lib.hid (addP_any x y z a b c w (by omega) (by omega) (by omega) (by omega) (by omega) (by omega))
    have A3 := fun w => Lib.hid (subP_any a b c x y z w (by omega) (by omega) (by omega) (by omega) (by omega) (by omega))
    have A4 := fun w => Lib.hid (subP_any a b c a b c w (by omega) (by omega) (by omega) (by omega) (by omega) (by omega))
    rw [Int.add_comm x a, Int.add_comm y b, Int.add_comm z c] at A2
    rw [Int.sub_self, Int.sub_self, Int.sub_self] at A4
    have D1 := fun w => Lib.hid (dotP_any a b c p q r w Sa Sb Sc Sp Sq Sr)
    have D2 := fun w => Lib.hid (dotP_any x y z p q r w Sx Sy Sz Sp Sq Sr)
    (have qk9 := Lay.cells hT; simp only [List.forall_mem_cons, List.not_mem_nil, false_implies, implies_true, and_true] at qk9; repeat (obtain ⟨qk8, qk9⟩ := qk9))
    go_wp2_with fail
    refine (A1 _).out.mono ?_
    rintro e w1 ⟨rfl, hb1⟩
    have hT := hT.next hb1
    have hsz := hT.lt
    (have qk9 := Lay.cells hT; simp only [List.forall_mem_cons, List.not_mem_nil, false_implies, implies_true, and_true] at qk9; repeat (obtain ⟨qk8, qk9⟩ := qk9))
    go_upto_region 3 with fail
    refine wp_cls (Lay w.heap.size (w1.heap.size + 1) _ w) (hT.push (a + x) (b + y) (c + z) 23) ?_
    obtain ⟨n1, hn1⟩ : ∃ t0, w1.heap.size = t0 := ⟨_, rfl⟩
    rw [hn1]
    clear hT hsz A1
    intro wx hT
    unfold vcells at hT
    simp only [List.cons_append, List.nil_append] at hT
    (have qk9 := Lay.cells hT; simp only [List.forall_mem_cons, List.not_mem_nil, false_implies, implies_true, and_true] at qk9; repeat (obtain ⟨qk8, qk9⟩ := qk9))
    go_wp2_with fail
    refine (A3 _).out.mono ?_
    rintro e w2 ⟨rfl, hb2⟩
    have hT := hT.next hb2
    go_upto_region 4 with fail
    refine wp_cls (Lay w.heap.size (w2.heap.size + 1) _ w) (hT.push (a - x) (b - y) (c - z) 23) ?_
    obtain ⟨n2, hn2⟩ : ∃ t0, w2.heap.size = t0 := ⟨_, rfl⟩
    rw [hn2]
    clear hT A3
    intro wy hT
    unfold vcells at hT
    simp only [List.cons_append, List.nil_append] at hT
    have mp := (Sm_mul Sa Sp)
    have mq := (Sm_mul Sb Sq)
    have mr := (Sm_mul Sc Sr)
    have np := (Sm_mul Sx Sp)
    have nq := (Sm_mul Sy Sq)
    have nr := (Sm_mul Sz Sr)
    have ep : (a + x) * p = a * p + x * p := Int.add_mul _ _ _
    have eq : (b + y) * q = b * q + y * q := Int.add_mul _ _ _
    have er : (c + z) * r = c * r + z * r := Int.add_mul _ _ _
    have E := grp_fin mp mq mr np nq nr
    clear mp mq mr np nq nr
    have f1 : (IntKind.i64.wrap a == a) = true := by rw [IntKind.wrap_i64]; simp; omega
    have f2 : (IntKind.i64.wrap b == b) = true := by rw [IntKind.wrap_i64]; simp; omega
    have f3 : (IntKind.i64.wrap c == c) = true := by rw [IntKind.wrap_i64]; simp; omega
    refine wp_region_grp (Lay w.heap.size (n2 + 1) _ w) (hT.next (Below.refl _ _).drew) (by kernel_rfl) (by kernel_rfl) ?_
    repeat ((refine wpQuiet_step (fun qK9 qH9 => ?_); go_simp; first | (refine qH9 _ ?_; clear qH9 qK9) | (apply Exists.intro; refine ⟨?_, qH9 _ ?_⟩; (first | (intros; rfl) | ((intro wx hC; first | (go_at_call 18; exact Calls.lays (awake_any _) (fun _ => hC.next)) | (go_at_call 20; exact Calls.lays (A2 _).out (fun _ => hC.next)) | (go_at_call 28; exact Calls.lays (A4 _).out (fun _ => hC.next)) | (go_at_call_of 22 a; exact Calls.lays (D1 _).out (fun _ => hC.next)) | (go_at_call 22; exact Calls.lays (D2 _).out (fun _ => hC.next)) | ((have qk9 := Lay.cells hC; simp only [List.forall_mem_cons, List.not_mem_nil, false_implies, implies_true, and_true] at qk9; repeat (obtain ⟨qk8, qk9⟩ := qk9)); go_simp; first | done | rfl)))); clear qH9 qK9)))
    refine wpQuiet_nil ?_
    intro wz hC
    go_wp2_with fail
    go_ret
    exact ⟨rfl, hC.be⟩
end Go.Proofs.Ytlblodiamcnnpaa
