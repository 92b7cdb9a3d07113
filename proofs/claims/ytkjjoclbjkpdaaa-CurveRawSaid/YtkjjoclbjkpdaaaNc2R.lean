/- Proved here: the comparison of two rows of the same spokes, and of the same points; no conditions but that they lie in memory. · which arcs are valid: the conditions; near; Valid of the program says true for them; ranges as stated. -/
import Derived.Test.YtkjjoclbjkpdaaaNb9R
namespace Go.Proofs.Ytkjjoclbjkpdaaa
open Go.RowKit
set_option linter.unusedVariables false
set_option linter.unusedSimpArgs false
theorem Row.point {g L i : Nat} {F : Nat → Nat → Int} {w : World} (h : Row g (L * 3) (L * 3) (fun j => .int .i64 (F (j / 3) (j % 3))) w) (hi : i < L) :
    w.cell? ⟨g, i * 3, none⟩ = some (.int .i64 (F i 0)) ∧ w.cell? ⟨g, i * 3 + 1, none⟩ = some (.int .i64 (F i 1)) ∧ w.cell? ⟨g, i * 3 + 2, none⟩ = some (.int .i64 (F i 2)) := by
  have h0 := h.cell (i * 3) (by omega)
  have h1 := h.cell (i * 3 + 1) (by omega)
  have h2 := h.cell (i * 3 + 2) (by omega)
  simp only [show i * 3 / 3 = i by omega, show i * 3 % 3 = 0 by omega, show (i * 3 + 1) / 3 = i by omega, show (i * 3 + 1) % 3 = 1 by omega, show (i * 3 + 2) / 3 = i by omega, show (i * 3 + 2) % 3 = 2 by omega] at h0 h1 h2
  exact ⟨h0, h1, h2⟩
set_option maxHeartbeats 4000000 in
theorem sameSpokes_any (g1 g2 cap1 cap2 L : Nat) (F : Nat → Nat → Int) (w : World) (hL : L ≤ 100000) (h1 : Row g1 (L * 4) (L * 4) (fun j => .int .i64 (F (j / 4) (j % 4))) w) (h2 : Row g2 (L * 4) (L * 4) (fun j => .int .i64 (F (j / 4) (j % 4))) w) :
    Calls Try.prog 22 #[.slice (some ⟨g1, 0, none⟩) L cap1, .slice (some ⟨g2, 0, none⟩) L cap2] w fun e w' => e = .returned (.bool true) ∧ Below w.heap.size w w' := by
  have hT : (Both (Both (Row g1 (L * 4) (L * 4) (fun j => .int .i64 (F (j / 4) (j % 4)))) (Row g2 (L * 4) (L * 4) (fun j => .int .i64 (F (j / 4) (j % 4))))) (Below w.heap.size w)) w := ⟨⟨h1, h2⟩, Below.refl _ _⟩
  clear h1 h2
  go_enter Try.func22, Try.ntmps22
  go_wp2_with fail
  go_loopw [13] (fun t wr => ∃ i : Nat, i ≤ L ∧ t = .int .i64 (i : Int) ∧ (Both (Both (Row g1 (L * 4) (L * 4) (fun j => .int .i64 (F (j / 4) (j % 4)))) (Row g2 (L * 4) (L * 4) (fun j => .int .i64 (F (j / 4) (j % 4))))) (Below w.heap.size w)) wr) (fun t _ => L - (intOf t).toNat)
  case atStart => exact ⟨0, Nat.zero_le _, rfl, hT⟩
  case round =>
  clear hT
  obtain ⟨i, hin, rfl, hT⟩ := hrel
  by_cases hi : i < L
  · have hlt : (i : Int) < (L : Int) := by omega
    go_upto_region 6 with fail
    (refine wp_region_class (Both (Both (Row g1 (L * 4) (L * 4) (fun j => .int .i64 (F (j / 4) (j % 4)))) (Row g2 (L * 4) (L * 4) (fun j => .int .i64 (F (j / 4) (j % 4))))) (Below w.heap.size w)) ⟨⟨hT.l.l.next (Below.refl _ _).drew, hT.l.r.next (Below.refl _ _).drew⟩, hT.r.drew⟩ (by kernel_rfl) (by kernel_rfl) ?_; repeat (refine wpQuiet_step (fun qK9 qH9 => ?_); go_simp; first | (refine qH9 _ ?_; clear qH9 qK9) | (apply Exists.intro; refine ⟨?_, qH9 _ ?_⟩; (first | (intros; rfl) | ((intro wx hC; (obtain ⟨e0, e1, e2, e3⟩ := hC.l.l.spoke hi); (obtain ⟨d0, d1, d2, d3⟩ := hC.l.r.spoke hi); go_simp; first | done | rfl))); clear qH9 qK9)))
    refine wpQuiet_nil ?_
    clear hT
    intro wy hT
    go_wp2_with fail
    go_roundw
    case rel => exact ⟨i + 1, by omega, by go_num, hT⟩
    case measure => simp [intOf]; omega
  · go_wp2_with fail
    go_ret
    exact ⟨rfl, hT.r⟩
set_option maxHeartbeats 4000000 in
theorem samePoints_any (g1 g2 cap1 cap2 L : Nat) (F : Nat → Nat → Int) (w : World) (hL : L ≤ 100000) (h1 : Row g1 (L * 3) (L * 3) (fun j => .int .i64 (F (j / 3) (j % 3))) w) (h2 : Row g2 (L * 3) (L * 3) (fun j => .int .i64 (F (j / 3) (j % 3))) w) :
    Calls Try.prog 23 #[.slice (some ⟨g1, 0, none⟩) L cap1, .slice (some ⟨g2, 0, none⟩) L cap2] w fun e w' => e = .returned (.bool true) ∧ Below w.heap.size w w' := by
  have hT : (Both (Both (Row g1 (L * 3) (L * 3) (fun j => .int .i64 (F (j / 3) (j % 3)))) (Row g2 (L * 3) (L * 3) (fun j => .int .i64 (F (j / 3) (j % 3))))) (Below w.heap.size w)) w := ⟨⟨h1, h2⟩, Below.refl _ _⟩
  clear h1 h2
  go_enter Try.func23, Try.ntmps23
  go_wp2_with fail
  go_loopw [13] (fun t wr => ∃ i : Nat, i ≤ L ∧ t = .int .i64 (i : Int) ∧ (Both (Both (Row g1 (L * 3) (L * 3) (fun j => .int .i64 (F (j / 3) (j % 3)))) (Row g2 (L * 3) (L * 3) (fun j => .int .i64 (F (j / 3) (j % 3))))) (Below w.heap.size w)) wr) (fun t _ => L - (intOf t).toNat)
  case atStart => exact ⟨0, Nat.zero_le _, rfl, hT⟩
  case round =>
  clear hT
  obtain ⟨i, hin, rfl, hT⟩ := hrel
  by_cases hi : i < L
  · have hlt : (i : Int) < (L : Int) := by omega
    go_upto_region 6 with fail
    (refine wp_region_class (Both (Both (Row g1 (L * 3) (L * 3) (fun j => .int .i64 (F (j / 3) (j % 3)))) (Row g2 (L * 3) (L * 3) (fun j => .int .i64 (F (j / 3) (j % 3))))) (Below w.heap.size w)) ⟨⟨hT.l.l.next (Below.refl _ _).drew, hT.l.r.next (Below.refl _ _).drew⟩, hT.r.drew⟩ (by kernel_rfl) (by kernel_rfl) ?_; repeat (refine wpQuiet_step (fun qK9 qH9 => ?_); go_simp; first | (refine qH9 _ ?_; clear qH9 qK9) | (apply Exists.intro; refine ⟨?_, qH9 _ ?_⟩; (first | (intros; rfl) | ((intro wx hC; (obtain ⟨e0, e1, e2⟩ := hC.l.l.point hi); (obtain ⟨d0, d1, d2⟩ := hC.l.r.point hi); go_simp; first | done | rfl))); clear qH9 qK9)))
    refine wpQuiet_nil ?_
    clear hT
    intro wy hT
    go_wp2_with fail
    go_roundw
    case rel => exact ⟨i + 1, by omega, by go_num, hT⟩
    case measure => simp [intOf]; omega
  · go_wp2_with fail
    go_ret
    exact ⟨rfl, hT.r⟩
end Go.Proofs.Ytkjjoclbjkpdaaa
namespace Go.Proofs.Ytkjjoclbjkpdaaa
open Go.RowKit
set_option linter.unusedVariables false
set_option linter.unusedSimpArgs false
/-- the conditions on an arc, in micrometers -/
structure Itm.Ok (t : Itm) : Prop where
  pos : t.Pos
  kind : t.kind = 3
  dir : t.dir = 1 ∨ t.dir = -1
  x64 : 64 ≤ t.aU * t.aU + t.aW * t.aW
  y64 : 64 ≤ t.bU * t.bU + t.bW * t.bW
  near : (max (t.aU * t.aU + t.aW * t.aW) (t.bU * t.bU + t.bW * t.bW) - min (t.aU * t.aU + t.aW * t.aW) (t.bU * t.bU + t.bW * t.bW) - 16) * (max (t.aU * t.aU + t.aW * t.aW) (t.bU * t.bU + t.bW * t.bW) - min (t.aU * t.aU + t.aW * t.aW) (t.bU * t.bU + t.bW * t.bW) - 16) ≤ 64 * min (t.aU * t.aU + t.aW * t.aW) (t.bU * t.bU + t.bW * t.bW)
  full : t.full = true → t.aU = t.bU ∧ t.aW = t.bW
  part : t.full = false → t.aU * t.bW - t.aW * t.bU ≠ 0 ∨ t.aU * t.bU + t.aW * t.bW < 0
theorem cmpZ_le {P Q : Int} (h : P ≤ Q) : cmpZ P Q ≤ 0 := by unfold cmpZ; split; decide; split; decide; omega
theorem axes_any (k : Int) (w : World) (hk : PlK k) : Calls Try.prog 43 #[.int .i64 k] w fun e w' => ∃ a b c : Int, e = .returned (.tuple #[.int .i64 a, .int .i64 b, .int .i64 c, .bool true]) ∧ w = w' := by
  rcases hk with rfl | rfl | rfl
  · exact (axes_17 w).mono fun e w' h => ⟨_, _, _, h⟩
  · exact (axes_18 w).mono fun e w' h => ⟨_, _, _, h⟩
  · exact (axes_19 w).mono fun e w' h => ⟨_, _, _, h⟩
set_option maxHeartbeats 4000000 in
theorem nearP_true (p q : Int) (w : World) (hp : 0 ≤ p ∧ p ≤ 17592186044416) (hq : 0 ≤ q ∧ q ≤ 17592186044416) (h : (max p q - min p q - 16) * (max p q - min p q - 16) ≤ 64 * min p q) :
    Calls Try.prog 44 #[.int .i64 p, .int .i64 q] w fun e w' => e = .returned (.bool true) ∧ Below w.heap.size w w' := by
  obtain ⟨p1, p2⟩ := hp
  obtain ⟨q1, q2⟩ := hq
  have m1 : 0 ≤ min p q ∧ min p q ≤ 17592186044416 := by omega
  have m2 : 0 ≤ max p q ∧ max p q ≤ 17592186044416 := by omega
  obtain ⟨m3, m4⟩ := m1
  obtain ⟨m5, m6⟩ := m2
  have CM := fun w => Lib.hid (cmp_any (max p q - min p q - 16) (max p q - min p q - 16) 64 (min p q) w (by omega) (by omega) (by omega) (by omega) (by decide) (by decide) (by omega) (by omega))
  have hz := cmpZ_le h
  clear h
  generalize cmpZ ((max p q - min p q - 16) * (max p q - min p q - 16)) (64 * min p q) = Z at *
  by_cases hk : max p q - min p q - 16 ≤ 0
  · have hd : decide (max p q - min p q - 16 ≤ 0) = true := decide_eq_true hk
    go_enter Try.func44, Try.ntmps44
    go_wp2_with fail
    go_ret
    exact ⟨rfl, Below.refl _ _⟩
  · have hd : decide (max p q - min p q - 16 ≤ 0) = false := decide_eq_false hk
    go_enter Try.func44, Try.ntmps44
    go_wp2_with fail
    refine (CM _).out.mono ?_
    rintro e w1 ⟨rfl, hb⟩
    go_wp2_with fail
    go_ret
    exact ⟨by first | rfl | (simp; omega), hb⟩
end Go.Proofs.Ytkjjoclbjkpdaaa
