/- Proved here: the points of a corner, of both, by one name; ranges as stated. -/
import Derived.Test.YtdjopepipcnmdaaBk4
namespace Go.Proofs.Ytdjopepipcnmdaa
open Go.RowKit
set_option linter.unusedVariables false
set_option linter.unusedSimpArgs false
def crN (a0 a1 a2 c0 c1 c2 b0 b1 b2 d : Int) : Nat := (pcV (bnE a0 a1 a2 c0 c1 c2 b0 b1 b2 d)).toNat
def crF (a0 a1 a2 c0 c1 c2 b0 b1 b2 d : Int) : Nat → Nat → Int := coF (crN a0 a1 a2 c0 c1 c2 b0 b1 b2 d) (c0 + nrI (a0 - c0) d (sqD a0 a1 a2 c0 c1 c2)) (c1 + nrI (a1 - c1) d (sqD a0 a1 a2 c0 c1 c2)) (c2 + nrI (a2 - c2) d (sqD a0 a1 a2 c0 c1 c2)) c0 c1 c2 (c0 + nrI (b0 - c0) d (sqD b0 b1 b2 c0 c1 c2)) (c1 + nrI (b1 - c1) d (sqD b0 b1 b2 c0 c1 c2)) (c2 + nrI (b2 - c2) d (sqD b0 b1 b2 c0 c1 c2))
theorem pcV_cases (D : Int) : pcV D = 2 ∨ pcV D = 4 ∨ pcV D = 8 ∨ pcV D = 16 ∨ pcV D = 32 ∨ pcV D = 64 := by
  unfold pcV; (repeat' split) <;> omega
theorem crN_cases (a0 a1 a2 c0 c1 c2 b0 b1 b2 d : Int) : crN a0 a1 a2 c0 c1 c2 b0 b1 b2 d = 2 ∨ crN a0 a1 a2 c0 c1 c2 b0 b1 b2 d = 4 ∨ crN a0 a1 a2 c0 c1 c2 b0 b1 b2 d = 8 ∨ crN a0 a1 a2 c0 c1 c2 b0 b1 b2 d = 16 ∨ crN a0 a1 a2 c0 c1 c2 b0 b1 b2 d = 32 ∨ crN a0 a1 a2 c0 c1 c2 b0 b1 b2 d = 64 := by
  unfold crN
  rcases pcV_cases (bnE a0 a1 a2 c0 c1 c2 b0 b1 b2 d) with h | h | h | h | h | h <;> rw [h] <;> decide
theorem crN_cast (a0 a1 a2 c0 c1 c2 b0 b1 b2 d : Int) : ((crN a0 a1 a2 c0 c1 c2 b0 b1 b2 d : Nat) : Int) = pcV (bnE a0 a1 a2 c0 c1 c2 b0 b1 b2 d) := by
  unfold crN
  have := pcV_cases (bnE a0 a1 a2 c0 c1 c2 b0 b1 b2 d)
  omega
/-- what the points of a corner are -/
inductive Cnr (a0 a1 a2 c0 c1 c2 b0 b1 b2 tol r : Int) (L : Nat) (F : Nat → Nat → Int) : Prop where
  | none : r = 0 → L = 1 → F = (fun _ k => cp c0 c1 c2 k) → Cnr a0 a1 a2 c0 c1 c2 b0 b1 b2 tol r L F
  | some : sameB a0 a1 a2 c0 c1 c2 = false → sameB b0 b1 b2 c0 c1 c2 = false → r ≠ 0 → r = rcI a0 a1 a2 c0 c1 c2 b0 b1 b2 tol → L = crN a0 a1 a2 c0 c1 c2 b0 b1 b2 r + 1 → F = crF a0 a1 a2 c0 c1 c2 b0 b1 b2 r → Cnr a0 a1 a2 c0 c1 c2 b0 b1 b2 tol r L F
def rchV (a0 a1 a2 c0 c1 c2 b0 b1 b2 tol : Int) : Int := if sameB a0 a1 a2 c0 c1 c2 || sameB b0 b1 b2 c0 c1 c2 then 0 else rcI a0 a1 a2 c0 c1 c2 b0 b1 b2 tol
theorem nr_x {a c d N : Int} (hd0 : 0 ≤ d) (hd : d ≤ 33554432) (hx : -67108864 ≤ a - c ∧ a - c ≤ 67108864) (hn : 1 ≤ N) (hN : (a - c) * (a - c) ≤ N) : -33554432 ≤ nrI (a - c) d N ∧ nrI (a - c) d N ≤ 33554432 := by
  have := nrI_bd2 (x := a - c) (r := d) (n := N) hx.1 hx.2 hd0 hd hn hN
  omega
set_option maxHeartbeats 1000000 in
theorem corner_any (a0 a1 a2 c0 c1 c2 b0 b1 b2 tol : Int) (ha : Pk a0 a1 a2) (hc : Pk c0 c1 c2) (hb : Pk b0 b1 b2) (ht : 0 ≤ tol) (ht2 : tol ≤ 16000) :
    ∃ (r : Int) (L : Nat) (F : Nat → Nat → Int), r = rchV a0 a1 a2 c0 c1 c2 b0 b1 b2 tol ∧ Cnr a0 a1 a2 c0 c1 c2 b0 b1 b2 tol r L F ∧
      (∀ w, Hid (Calls Try.prog 18 #[.agg #[.int .i64 a0, .int .i64 a1, .int .i64 a2], .agg #[.int .i64 c0, .int .i64 c1, .int .i64 c2], .agg #[.int .i64 b0, .int .i64 b1, .int .i64 b2], .int .i64 tol] w fun e w' => e = .returned (.int .i64 r) ∧ Below w.heap.size w w')) ∧
      (∀ w, Hid (Calls Try.prog 23 #[.agg #[.int .i64 a0, .int .i64 a1, .int .i64 a2], .agg #[.int .i64 c0, .int .i64 c1, .int .i64 c2], .agg #[.int .i64 b0, .int .i64 b1, .int .i64 b2], .int .i64 tol] w (PostPts L F w))) ∧
      (∀ w, Hid (Calls Try.prog 24 #[.agg #[.int .i64 a0, .int .i64 a1, .int .i64 a2], .agg #[.int .i64 c0, .int .i64 c1, .int .i64 c2], .agg #[.int .i64 b0, .int .i64 b1, .int .i64 b2], .int .i64 tol] w (PostPts L F w))) := by
  obtain ⟨r, RP, RR, hr⟩ := reach_any a0 a1 a2 c0 c1 c2 b0 b1 b2 tol ha hc hb ht ht2
  by_cases h0 : r = 0
  · subst h0
    exact ⟨0, 1, _, hr, .none rfl rfl rfl, RP, fun w => cornerP_none a0 a1 a2 c0 c1 c2 b0 b1 b2 tol w RP, fun w => cornerR_none a0 a1 a2 c0 c1 c2 b0 b1 b2 tol w RR⟩
  · have hr' := hr
    cases sa : sameB a0 a1 a2 c0 c1 c2
    rotate_left
    · rw [sa] at hr; exact absurd hr h0
    cases sb : sameB b0 b1 b2 c0 c1 c2
    rotate_left
    · rw [sa, sb] at hr; exact absurd hr h0
    rw [sa, sb, if_neg (by decide)] at hr
    have hf := rcI_facts (hr ▸ h0)
    rw [← hr] at hf
    obtain ⟨h16, hmax, _, _⟩ := hf
    have na := sameB_f sa
    have nb := sameB_f sb
    have TA : ∀ w, Hid (Calls Try.prog 14 _ w _) := fun w => towardP_main c0 c1 c2 a0 a1 a2 r _ _ _ w hc ha sa na (by omega) hmax rfl rfl rfl
    have TB : ∀ w, Hid (Calls Try.prog 14 _ w _) := fun w => towardP_main c0 c1 c2 b0 b1 b2 r _ _ _ w hc hb sb nb (by omega) hmax rfl rfl rfl
    have UA : ∀ w, Hid (Calls Try.prog 15 _ w _) := fun w => towardR_main c0 c1 c2 a0 a1 a2 r _ _ _ w hc ha na (by omega) hmax rfl rfl rfl
    have UB : ∀ w, Hid (Calls Try.prog 15 _ w _) := fun w => towardR_main c0 c1 c2 b0 b1 b2 r _ _ _ w hc hb nb (by omega) hmax rfl rfl rfl
    obtain ⟨x1, x2, x3, x4, x5, x6⟩ := hc
    obtain ⟨y1, y2, y3, y4, y5, y6⟩ := ha
    obtain ⟨z1, z2, z3, z4, z5, z6⟩ := hb
    have qa0 := sq_nn (a0 - c0)
    have qa1 := sq_nn (a1 - c1)
    have qa2 := sq_nn (a2 - c2)
    have qb0 := sq_nn (b0 - c0)
    have qb1 := sq_nn (b1 - c1)
    have qb2 := sq_nn (b2 - c2)
    have A0 := nr_x (a := a0) (c := c0) (N := sqD a0 a1 a2 c0 c1 c2) (show 0 ≤ r by omega) hmax (by omega) na (by unfold sqD; omega)
    have A1 := nr_x (a := a1) (c := c1) (N := sqD a0 a1 a2 c0 c1 c2) (show 0 ≤ r by omega) hmax (by omega) na (by unfold sqD; omega)
    have A2 := nr_x (a := a2) (c := c2) (N := sqD a0 a1 a2 c0 c1 c2) (show 0 ≤ r by omega) hmax (by omega) na (by unfold sqD; omega)
    have B0 := nr_x (a := b0) (c := c0) (N := sqD b0 b1 b2 c0 c1 c2) (show 0 ≤ r by omega) hmax (by omega) nb (by unfold sqD; omega)
    have B1 := nr_x (a := b1) (c := c1) (N := sqD b0 b1 b2 c0 c1 c2) (show 0 ≤ r by omega) hmax (by omega) nb (by unfold sqD; omega)
    have B2 := nr_x (a := b2) (c := c2) (N := sqD b0 b1 b2 c0 c1 c2) (show 0 ≤ r by omega) hmax (by omega) nb (by unfold sqD; omega)
    have hn := crN_cases a0 a1 a2 c0 c1 c2 b0 b1 b2 r
    have hcast := crN_cast a0 a1 a2 c0 c1 c2 b0 b1 b2 r
    refine ⟨r, _, _, hr', .some sa sb h0 hr rfl rfl, RP, fun w => ?_, fun w => ?_⟩
    · refine cornerP_walk a0 a1 a2 c0 c1 c2 b0 b1 b2 tol r _ _ _ _ _ _ _ w (by omega) (by omega) ⟨x1, x2⟩ (by omega) (by omega) ⟨x3, x4⟩ (by omega) (by omega) ⟨x5, x6⟩ (by omega) (by omega) (by simpa using h0) RP TA TB fun w => ?_
      rw [hcast]
      exact piecesP_any (c0 + nrI (a0 - c0) r (sqD a0 a1 a2 c0 c1 c2)) (c1 + nrI (a1 - c1) r (sqD a0 a1 a2 c0 c1 c2)) (c2 + nrI (a2 - c2) r (sqD a0 a1 a2 c0 c1 c2)) c0 c1 c2 (c0 + nrI (b0 - c0) r (sqD b0 b1 b2 c0 c1 c2)) (c1 + nrI (b1 - c1) r (sqD b0 b1 b2 c0 c1 c2)) (c2 + nrI (b2 - c2) r (sqD b0 b1 b2 c0 c1 c2)) w (by omega) (by omega) ⟨x1, x2⟩ (by omega) (by omega) (by omega) (by omega) ⟨x3, x4⟩ (by omega) (by omega) (by omega) (by omega) ⟨x5, x6⟩ (by omega) (by omega)
    · refine cornerR_walk a0 a1 a2 c0 c1 c2 b0 b1 b2 tol r _ _ _ _ _ _ _ w (by omega) (by omega) ⟨x1, x2⟩ (by omega) (by omega) ⟨x3, x4⟩ (by omega) (by omega) ⟨x5, x6⟩ (by omega) (by omega) (by simpa using h0) RR UA UB fun w => ?_
      rw [hcast]
      exact piecesR_any (c0 + nrI (a0 - c0) r (sqD a0 a1 a2 c0 c1 c2)) (c1 + nrI (a1 - c1) r (sqD a0 a1 a2 c0 c1 c2)) (c2 + nrI (a2 - c2) r (sqD a0 a1 a2 c0 c1 c2)) c0 c1 c2 (c0 + nrI (b0 - c0) r (sqD b0 b1 b2 c0 c1 c2)) (c1 + nrI (b1 - c1) r (sqD b0 b1 b2 c0 c1 c2)) (c2 + nrI (b2 - c2) r (sqD b0 b1 b2 c0 c1 c2)) w (by omega) (by omega) (by omega) (by omega) (by omega) (by omega) (by omega) (by omega) (by omega) (by omega) (by omega) (by omega) (by omega) (by omega) (by omega)
end Go.Proofs.Ytdjopepipcnmdaa
