/- Proved here: the comparison of two rows of the same points; no conditions but that they lie in memory. -/
import Derived.Test.YtdjopepipcnmdaaBk5
namespace Go.Proofs.Ytdjopepipcnmdaa
open Go.RowKit
set_option linter.unusedVariables false
set_option linter.unusedSimpArgs false
/-- the three cells of the i-th point -/
theorem Row.point {g L i : Nat} {F : Nat → Nat → Int} {w : World} (h : Row g (3 * L) (3 * L) (fun j => .int .i64 (F (j / 3) (j % 3))) w) (hi : i < L) :
    w.cell? ⟨g, i * 3, none⟩ = some (.int .i64 (F i 0)) ∧ w.cell? ⟨g, i * 3 + 1, none⟩ = some (.int .i64 (F i 1)) ∧ w.cell? ⟨g, i * 3 + 2, none⟩ = some (.int .i64 (F i 2)) := by
  have h0 := h.cell (i * 3) (by omega)
  have h1 := h.cell (i * 3 + 1) (by omega)
  have h2 := h.cell (i * 3 + 2) (by omega)
  simp only [show i * 3 / 3 = i by omega, show i * 3 % 3 = 0 by omega, show (i * 3 + 1) / 3 = i by omega, show (i * 3 + 1) % 3 = 1 by omega, show (i * 3 + 2) / 3 = i by omega, show (i * 3 + 2) % 3 = 2 by omega] at h0 h1 h2
  exact ⟨h0, h1, h2⟩
set_option maxHeartbeats 2000000 in
theorem same_any (g1 g2 cap1 cap2 L : Nat) (F : Nat → Nat → Int) (w : World) (hL : L ≤ 1000) (h1 : Row g1 (3 * L) (3 * L) (fun j => .int .i64 (F (j / 3) (j % 3))) w) (h2 : Row g2 (3 * L) (3 * L) (fun j => .int .i64 (F (j / 3) (j % 3))) w) :
    Calls Try.prog 22 #[.slice (some ⟨g1, 0, none⟩) L cap1, .slice (some ⟨g2, 0, none⟩) L cap2] w fun e w' => e = .returned (.bool true) ∧ Below w.heap.size w w' := by
  have hT : (Both (Both (Row g1 (3 * L) (3 * L) (fun j => .int .i64 (F (j / 3) (j % 3)))) (Row g2 (3 * L) (3 * L) (fun j => .int .i64 (F (j / 3) (j % 3))))) (Below w.heap.size w)) w := ⟨⟨h1, h2⟩, Below.refl _ _⟩
  clear h1 h2
  go_enter Try.func22, Try.ntmps22
  go_wp2_with fail
  go_loopw [13] (fun t wr => ∃ i : Nat, i ≤ L ∧ t = .int .i64 (i : Int) ∧ (Both (Both (Row g1 (3 * L) (3 * L) (fun j => .int .i64 (F (j / 3) (j % 3)))) (Row g2 (3 * L) (3 * L) (fun j => .int .i64 (F (j / 3) (j % 3))))) (Below w.heap.size w)) wr) (fun t _ => L - (intOf t).toNat)
  case atStart => exact ⟨0, Nat.zero_le _, rfl, hT⟩
  case round =>
  clear hT
  obtain ⟨i, hin, rfl, hT⟩ := hrel
  by_cases hi : i < L
  · have hlt : (i : Int) < (L : Int) := by omega
    go_upto_region 6 with fail
    (refine wp_region_class (Both (Both (Row g1 (3 * L) (3 * L) (fun j => .int .i64 (F (j / 3) (j % 3)))) (Row g2 (3 * L) (3 * L) (fun j => .int .i64 (F (j / 3) (j % 3))))) (Below w.heap.size w)) ⟨⟨hT.l.l.next (Below.refl _ _).drew, hT.l.r.next (Below.refl _ _).drew⟩, hT.r.drew⟩ (by kernel_rfl) (by kernel_rfl) ?_; repeat (refine wpQuiet_step (fun qK9 qH9 => ?_); go_simp; first | (refine qH9 _ ?_; clear qH9 qK9) | (apply Exists.intro; refine ⟨?_, qH9 _ ?_⟩; (first | (intros; rfl) | ((intro wx hC; (obtain ⟨e0, e1, e2⟩ := hC.l.l.point hi); (obtain ⟨d0, d1, d2⟩ := hC.l.r.point hi); go_simp; first | done | rfl))); clear qH9 qK9)))
    refine wpQuiet_nil ?_
    clear hT
    intro wy hT
    go_wp2_with fail
    go_roundw
    case rel => exact ⟨i + 1, by omega, by go_num, hT⟩
    case measure => simp [intOf]; omega
  · go_wp2_with fail
    go_ret
    exact ⟨rfl, hT.r⟩
end Go.Proofs.Ytdjopepipcnmdaa
