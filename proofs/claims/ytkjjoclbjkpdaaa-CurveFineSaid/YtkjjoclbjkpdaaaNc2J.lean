/- Proved here: the comparison of two rows of the same spokes, and of the same points; no conditions but that they lie in memory. · which arcs are valid: the conditions; near; Valid of the program says true for them; ranges as stated. -/
import Derived.Test.YtkjjoclbjkpdaaaNb9J
namespace Go.Proofs.Ytkjjoclbjkpdaaa
open Go.RowKit
set_option linter.unusedVariables false
set_option linter.unusedSimpArgs false
theorem Row.point {g L i : Nat} {F : Nat → Nat → Int} {w : World} (h : Row g (L * 3) (L * 3) (fun j => .int .i64 (F (j / 3) (j % 3))) w) (hi : i < L) :
    w.cell? ⟨g, i * 3, none⟩ = some (.int .i64 (F i 0)) ∧ w.cell? ⟨g, i * 3 + 1, none⟩ = some (.int .i64 (F i 1)) ∧ w.cell? ⟨g, i * 3 + 2, none⟩ = some (.int .i64 (F i 2)) := by
  have h0 := h.cell (i * 3) (by omega)
  have h1 := h.cell (i * 3 + 1) (by omega)
  have h2 := h.cell (i * 3 + 2) (by omega)
  simp only [show i * 3 / 3 = i by omega, show i * 3 % 3 = 0 by omega, show (i * 3 + 1) / 3 = i by omega, show (i * 3 + 1) % 3 = 1 by omega, show (i * 3 + 2) / 3 = i by omega, show (i * 3 + 2) % 3 = 2 by omega] at h0 h1 h2
  exact ⟨h0, h1, h2⟩
end Go.Proofs.Ytkjjoclbjkpdaaa
namespace Go.Proofs.Ytkjjoclbjkpdaaa
open Go.RowKit
set_option linter.unusedVariables false
set_option linter.unusedSimpArgs false
/-- the conditions on an arc, in micrometers -/
structure Itm.Ok (t : Itm) : Prop where
  pos : t.Pos
  kind : t.kind = 3
  dir : t.dir = 1 ∨ t.dir = -1
  x64 : 64 ≤ t.aU * t.aU + t.aW * t.aW
  y64 : 64 ≤ t.bU * t.bU + t.bW * t.bW
  near : (max (t.aU * t.aU + t.aW * t.aW) (t.bU * t.bU + t.bW * t.bW) - min (t.aU * t.aU + t.aW * t.aW) (t.bU * t.bU + t.bW * t.bW) - 16) * (max (t.aU * t.aU + t.aW * t.aW) (t.bU * t.bU + t.bW * t.bW) - min (t.aU * t.aU + t.aW * t.aW) (t.bU * t.bU + t.bW * t.bW) - 16) ≤ 64 * min (t.aU * t.aU + t.aW * t.aW) (t.bU * t.bU + t.bW * t.bW)
  full : t.full = true → t.aU = t.bU ∧ t.aW = t.bW
  part : t.full = false → t.aU * t.bW - t.aW * t.bU ≠ 0 ∨ t.aU * t.bU + t.aW * t.bW < 0
theorem cmpZ_le {P Q : Int} (h : P ≤ Q) : cmpZ P Q ≤ 0 := by unfold cmpZ; split; decide; split; decide; omega
theorem axes_any (k : Int) (w : World) (hk : PlK k) : Calls Try.prog 43 #[.int .i64 k] w fun e w' => ∃ a b c : Int, e = .returned (.tuple #[.int .i64 a, .int .i64 b, .int .i64 c, .bool true]) ∧ w = w' := by
  rcases hk with rfl | rfl | rfl
  · exact (axes_17 w).mono fun e w' h => ⟨_, _, _, h⟩
  · exact (axes_18 w).mono fun e w' h => ⟨_, _, _, h⟩
  · exact (axes_19 w).mono fun e w' h => ⟨_, _, _, h⟩
set_option maxHeartbeats 4000000 in
theorem nearP_true (p q : Int) (w : World) (hp : 0 ≤ p ∧ p ≤ 17592186044416) (hq : 0 ≤ q ∧ q ≤ 17592186044416) (h : (max p q - min p q - 16) * (max p q - min p q - 16) ≤ 64 * min p q) :
    Calls Try.prog 44 #[.int .i64 p, .int .i64 q] w fun e w' => e = .returned (.bool true) ∧ Below w.heap.size w w' := by
  obtain ⟨p1, p2⟩ := hp
  obtain ⟨q1, q2⟩ := hq
  have m1 : 0 ≤ min p q ∧ min p q ≤ 17592186044416 := by omega
  have m2 : 0 ≤ max p q ∧ max p q ≤ 17592186044416 := by omega
  obtain ⟨m3, m4⟩ := m1
  obtain ⟨m5, m6⟩ := m2
  have CM := fun w => Lib.hid (cmp_any (max p q - min p q - 16) (max p q - min p q - 16) 64 (min p q) w (by omega) (by omega) (by omega) (by omega) (by decide) (by decide) (by omega) (by omega))
  have hz := cmpZ_le h
  clear h
  generalize cmpZ ((max p q - min p q - 16) * (max p q - min p q - 16)) (64 * min p q) = Z at *
  by_cases hk : max p q - min p q - 16 ≤ 0
  · have hd : decide (max p q - min p q - 16 ≤ 0) = true := decide_eq_true hk
    go_enter Try.func44, Try.ntmps44
    go_wp2_with fail
    go_ret
    exact ⟨rfl, Below.refl _ _⟩
  · have hd : decide (max p q - min p q - 16 ≤ 0) = false := decide_eq_false hk
    go_enter Try.func44, Try.ntmps44
    go_wp2_with fail
    refine (CM _).out.mono ?_
    rintro e w1 ⟨rfl, hb⟩
    go_wp2_with fail
    go_ret
    exact ⟨by first | rfl | (simp; omega), hb⟩
end Go.Proofs.Ytkjjoclbjkpdaaa
