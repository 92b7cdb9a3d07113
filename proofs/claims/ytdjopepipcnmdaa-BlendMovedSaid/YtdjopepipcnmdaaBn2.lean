/- Proved here: plain facts of the blend of a corner that is moved; the sum of two points of the reference at all arguments. -/
import Derived.Test.YtdjopepipcnmdaaBm3
import Derived.Test.YtdjopepipcnmdaaRi
namespace Go.Proofs.Ytdjopepipcnmdaa
open Go.RowKit
set_option linter.unusedVariables false
set_option linter.unusedSimpArgs false
theorem sub_mov (a c d : Int) : a + d - (c + d) = a - c := by omega
theorem sqD_mov (a0 a1 a2 c0 c1 c2 d0 d1 d2 : Int) : sqD (a0 + d0) (a1 + d1) (a2 + d2) (c0 + d0) (c1 + d1) (c2 + d2) = sqD a0 a1 a2 c0 c1 c2 := by
  unfold sqD; rw [sub_mov, sub_mov, sub_mov]
theorem bnE_mov (a0 a1 a2 c0 c1 c2 b0 b1 b2 d0 d1 d2 e : Int) : bnE (a0 + d0) (a1 + d1) (a2 + d2) (c0 + d0) (c1 + d1) (c2 + d2) (b0 + d0) (b1 + d1) (b2 + d2) e = bnE a0 a1 a2 c0 c1 c2 b0 b1 b2 e := by
  rw [bnE_sum (a0 + d0) (a1 + d1) (a2 + d2) (c0 + d0) (c1 + d1) (c2 + d2) (b0 + d0) (b1 + d1) (b2 + d2) e _ _ _ _ _ _ rfl rfl rfl rfl rfl rfl, bnE_sum a0 a1 a2 c0 c1 c2 b0 b1 b2 e _ _ _ _ _ _ rfl rfl rfl rfl rfl rfl]
  simp only [sub_mov, sqD_mov]
theorem moI_mov (a0 a1 a2 c0 c1 c2 b0 b1 b2 d0 d1 d2 : Int) : moI (a0 + d0) (a1 + d1) (a2 + d2) (c0 + d0) (c1 + d1) (c2 + d2) (b0 + d0) (b1 + d1) (b2 + d2) = moI a0 a1 a2 c0 c1 c2 b0 b1 b2 := by
  unfold moI; rw [sqD_mov, sqD_mov]
theorem pmB_mov (mo tol a0 a1 a2 c0 c1 c2 b0 b1 b2 d0 d1 d2 e : Int) : pmB mo tol (a0 + d0) (a1 + d1) (a2 + d2) (c0 + d0) (c1 + d1) (c2 + d2) (b0 + d0) (b1 + d1) (b2 + d2) e = pmB mo tol a0 a1 a2 c0 c1 c2 b0 b1 b2 e := by
  unfold pmB; rw [bnE_mov]
theorem rcG_mov (mo tol a0 a1 a2 c0 c1 c2 b0 b1 b2 d0 d1 d2 : Int) : ∀ (k : Nat) (e : Int), rcG mo tol (a0 + d0) (a1 + d1) (a2 + d2) (c0 + d0) (c1 + d1) (c2 + d2) (b0 + d0) (b1 + d1) (b2 + d2) k e = rcG mo tol a0 a1 a2 c0 c1 c2 b0 b1 b2 k e
  | 0, e => rfl
  | k + 1, e => by unfold rcG; rw [pmB_mov, rcG_mov mo tol a0 a1 a2 c0 c1 c2 b0 b1 b2 d0 d1 d2 k, rcG_mov mo tol a0 a1 a2 c0 c1 c2 b0 b1 b2 d0 d1 d2 k]
theorem rcI_mov (a0 a1 a2 c0 c1 c2 b0 b1 b2 d0 d1 d2 tol : Int) : rcI (a0 + d0) (a1 + d1) (a2 + d2) (c0 + d0) (c1 + d1) (c2 + d2) (b0 + d0) (b1 + d1) (b2 + d2) tol = rcI a0 a1 a2 c0 c1 c2 b0 b1 b2 tol := by
  unfold rcI; rw [moI_mov, rcG_mov]
theorem eq_mov (a c d : Int) : (a + d == c + d) = (a == c) := by
  by_cases h : a = c
  · subst h; simp
  · have : a + d ≠ c + d := by omega
    rw [beq_eq_false_iff_ne.2 this, beq_eq_false_iff_ne.2 h]
theorem sameB_mov (a0 a1 a2 c0 c1 c2 d0 d1 d2 : Int) : sameB (a0 + d0) (a1 + d1) (a2 + d2) (c0 + d0) (c1 + d1) (c2 + d2) = sameB a0 a1 a2 c0 c1 c2 := by
  unfold sameB; rw [eq_mov, eq_mov, eq_mov]
theorem rchV_mov (a0 a1 a2 c0 c1 c2 b0 b1 b2 d0 d1 d2 tol : Int) : rchV (a0 + d0) (a1 + d1) (a2 + d2) (c0 + d0) (c1 + d1) (c2 + d2) (b0 + d0) (b1 + d1) (b2 + d2) tol = rchV a0 a1 a2 c0 c1 c2 b0 b1 b2 tol := by
  unfold rchV; rw [sameB_mov, sameB_mov, rcI_mov]
/-- the points of the moved corner -/
theorem cnr_mov {a0 a1 a2 c0 c1 c2 b0 b1 b2 d0 d1 d2 tol r s : Int} {L M : Nat} {F G : Nat → Nat → Int} (ha : Pk a0 a1 a2) (hc : Pk c0 c1 c2) (hb : Pk b0 b1 b2) (ha' : Pk (a0 + d0) (a1 + d1) (a2 + d2)) (hc' : Pk (c0 + d0) (c1 + d1) (c2 + d2)) (hb' : Pk (b0 + d0) (b1 + d1) (b2 + d2))
    (hr : r = rchV a0 a1 a2 c0 c1 c2 b0 b1 b2 tol) (hs : s = rchV (a0 + d0) (a1 + d1) (a2 + d2) (c0 + d0) (c1 + d1) (c2 + d2) (b0 + d0) (b1 + d1) (b2 + d2) tol)
    (h : Cnr a0 a1 a2 c0 c1 c2 b0 b1 b2 tol r L F) (k : Cnr (a0 + d0) (a1 + d1) (a2 + d2) (c0 + d0) (c1 + d1) (c2 + d2) (b0 + d0) (b1 + d1) (b2 + d2) tol s M G) : L = M ∧ 1 ≤ L ∧ L ≤ 65 ∧ ∀ i : Nat, i < L → (F i 0 + d0 = G i 0 ∧ F i 1 + d1 = G i 1 ∧ F i 2 + d2 = G i 2) ∧ Pk (F i 0) (F i 1) (F i 2) := by
  have hrs : r = s := by rw [hr, hs, rchV_mov]
  subst hrs
  rcases h.cut ha hc hb with ⟨h0, h1, h2⟩ | ⟨n, X0, X1, X2, Y0, Y1, Y2, hk⟩
  · rcases k.cut ha' hc' hb' with ⟨g0, g1, g2⟩ | ⟨m, U0, U1, U2, V0, V1, V2, hm⟩
    · refine ⟨by omega, by omega, by omega, fun i _ => ?_⟩
      rw [(h2 i).1, (h2 i).2.1, (h2 i).2.2, (g2 i).1, (g2 i).2.1, (g2 i).2.2]
      exact ⟨⟨rfl, rfl, rfl⟩, hc⟩
    · have := hm.armA.d0; omega
  · rcases k.cut ha' hc' hb' with ⟨g0, g1, g2⟩ | ⟨m, U0, U1, U2, V0, V1, V2, hm⟩
    · have := hk.armA.d0; omega
    · have e0 := hk.armA.e0
      have e1 := hk.armA.e1
      have e2 := hk.armA.e2
      have f0 := hk.armB.e0
      have f1 := hk.armB.e1
      have f2 := hk.armB.e2
      have p0 := hm.armA.e0
      have p1 := hm.armA.e1
      have p2 := hm.armA.e2
      have q0 := hm.armB.e0
      have q1 := hm.armB.e1
      have q2 := hm.armB.e2
      rw [sub_mov, sqD_mov] at p0 p1 p2 q0 q1 q2
      rw [← e0] at p0
      rw [← e1] at p1
      rw [← e2] at p2
      rw [← f0] at q0
      rw [← f1] at q1
      rw [← f2] at q2
      subst p0 p1 p2 q0 q1 q2
      have hn : n = m := by
        have := hk.pcs
        have g := hm.pcs
        omega
      subst hn
      have l1 := hk.len
      have l2 := hm.len
      have num := hk.num
      refine ⟨by omega, by omega, by omega, fun i hi => ⟨?_, hk.hull ha hc hb hi⟩⟩
      rw [hk.f0, hk.f1, hk.f2, hm.f0, hm.f1, hm.f2]
      exact ⟨by omega, by omega, by omega⟩
set_option maxHeartbeats 2000000 in
theorem addW_any (a0 a1 a2 b0 b1 b2 : Int) (w : World) :
    Calls Try.prog 28 #[.agg #[.int .i64 a0, .int .i64 a1, .int .i64 a2], .agg #[.int .i64 b0, .int .i64 b1, .int .i64 b2]] w fun e w' => e = .returned (.agg #[.int .i64 (wrap64 (a0 + b0)), .int .i64 (wrap64 (a1 + b1)), .int .i64 (wrap64 (a2 + b2))]) ∧ Below w.heap.size w w' := by
  go_enter Try.func28, Try.ntmps28
  go_wp2_with fail
  refine bodyPost_ret (v := .agg #[.int .i64 (wrap64 (a0 + b0)), .int .i64 (wrap64 (a1 + b1)), .int .i64 (wrap64 (a2 + b2))]) (by simp [results, Try.results28, go_sem]) rfl ⟨rfl, ?_⟩
  (repeat (first | exact Below.refl _ _ | assumption | refine Below.drew ?_ | (refine Below.alloc ?_ (by simp <;> omega) _) | (refine Below.setCell ?_ (by simp <;> omega) _)))
end Go.Proofs.Ytdjopepipcnmdaa