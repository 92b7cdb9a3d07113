/- Proved here: spokes as data; the middle of two spokes keeps the bounds that its ends have; Middle of both gives it; ranges as stated. · which pieces of an arc are settled, of the program and of the reference; ranges as stated. · a row of cells that the call itself has made, and what becomes of it behind calls and stores; the post of a function that returns a row of points; no conditions. · a region that draws its order, by an invariant over what has been carried out; frames that agree but in some slots; no conditions. -/
import Derived.Test.YtkjjoclbjkpdaaaKn3R
import Derived.BigQuiet
import Derived.Laws.OwnMore
import Derived.OwnWalk
import Derived.WalkKit
import Derived.ProofKit
import Derived.Orders
import Derived.Below
namespace Go.Proofs.Ytkjjoclbjkpdaaa
open Go.RowKit
set_option linter.unusedVariables false
set_option linter.unusedSimpArgs false
structure Spk where
  u : Int
  w : Int
  r : Int
  h : Int
def mdS (dir : Int) (full : Bool) (a b : Spk) : Spk :=
  ⟨nrI (mdU a.u a.w b.u b.w dir full) ((a.r + b.r + 1) / 2) (mdU a.u a.w b.u b.w dir full * mdU a.u a.w b.u b.w dir full + mdW a.u a.w b.u b.w dir full * mdW a.u a.w b.u b.w dir full),
   nrI (mdW a.u a.w b.u b.w dir full) ((a.r + b.r + 1) / 2) (mdU a.u a.w b.u b.w dir full * mdU a.u a.w b.u b.w dir full + mdW a.u a.w b.u b.w dir full * mdW a.u a.w b.u b.w dir full),
   (a.r + b.r + 1) / 2, (a.h + b.h + 1) / 2⟩
/-- the spoke ends on its circle, its radius and its height lie in given bounds -/
structure Gd (lo hi hl hh : Int) (s : Spk) : Prop where
  r0 : lo ≤ s.r
  r1 : s.r ≤ hi
  h0 : hl ≤ s.h
  h1 : s.h ≤ hh
  n0 : (s.r - 1) * (s.r - 1) ≤ s.u * s.u + s.w * s.w
  n1 : s.u * s.u + s.w * s.w ≤ (s.r + 1) * (s.r + 1)
/-- bounds for which all is specified -/
structure Bnd (lo hi hl hh : Int) : Prop where
  lo : 128 ≤ lo
  hi : hi ≤ 47453133
  hl : -47453134 ≤ hl
  hh : hh ≤ 47453134
theorem Gd.sp {lo hi hl hh : Int} {s : Spk} (g : Gd lo hi hl hh s) (b : Bnd lo hi hl hh) : Sp s.u s.w s.r s.h := by
  obtain ⟨b1, b2, b3, b4⟩ := b
  obtain ⟨g1, g2, g3, g4, g5, g6⟩ := g
  have q1 := sq_nn s.u
  have q2 := sq_nn s.w
  have w1 := abs_le_of (x := s.u) (m := s.r + 1) (by omega) (by omega)
  have w2 := abs_le_of (x := s.w) (m := s.r + 1) (by omega) (by omega)
  exact ⟨by omega, by omega, by omega, by omega, by omega, by omega, by omega, by omega⟩
theorem Gd.wide {lo hi hl hh lo' hi' hl' hh' : Int} {s : Spk} (g : Gd lo hi hl hh s) (h1 : lo' ≤ lo) (h2 : hi ≤ hi') (h3 : hl' ≤ hl) (h4 : hh ≤ hh') : Gd lo' hi' hl' hh' s :=
  ⟨by have := g.r0; omega, by have := g.r1; omega, by have := g.h0; omega, by have := g.h1; omega, g.n0, g.n1⟩
/-- the direction of a middle is not zero -/
theorem md_ne {lo hi hl hh : Int} {a b : Spk} {dir : Int} (full : Bool) (ga : Gd lo hi hl hh a) (gb : Gd lo hi hl hh b) (bn : Bnd lo hi hl hh) (hd : dir = 1 ∨ dir = -1) : ¬ (mdU a.u a.w b.u b.w dir full = 0 ∧ mdW a.u a.w b.u b.w dir full = 0) := by
  rintro ⟨h1, h2⟩
  have k := ga.n0
  have l := ga.r0
  have m := bn.lo
  have k1 : 127 * 127 ≤ (a.r - 1) * (a.r - 1) := Int.mul_le_mul (by omega) (by omega) (by decide) (by omega)
  have q1 := sq_nn a.u
  have q2 := sq_nn a.w
  unfold mdU at h1
  unfold mdW at h2
  cases full
  · simp only [Bool.false_eq_true, if_false] at h1 h2
    by_cases hD : a.u * b.u + a.w * b.w ≤ 0
    · rw [if_pos hD] at h1 h2
      have e1 : b.w = a.w := by rcases hd with rfl | rfl <;> omega
      have e2 : a.u = b.u := by rcases hd with rfl | rfl <;> omega
      rw [e1, ← e2] at hD
      omega
    · rw [if_neg hD] at h1 h2
      have e1 : b.u = -a.u := by split at h1 <;> omega
      have e2 : b.w = -a.w := by split at h2 <;> omega
      rw [e1, e2, Int.mul_neg, Int.mul_neg] at hD
      omega
  · simp only [if_true] at h1 h2
    have e1 : a.u = 0 := by omega
    have e2 : a.w = 0 := by omega
    rw [e1, e2] at k
    omega
theorem mdS_gd {lo hi hl hh : Int} {a b : Spk} {dir : Int} (full : Bool) (ga : Gd lo hi hl hh a) (gb : Gd lo hi hl hh b) (bn : Bnd lo hi hl hh) (hd : dir = 1 ∨ dir = -1) : Gd lo hi hl hh (mdS dir full a b) := by
  have sa := ga.sp bn
  have sb := gb.sp bn
  have bu := mdU_bd (full := full) sa sb hd
  have bv := mdW_bd (full := full) sa sb hd
  have hz := md_ne full ga gb bn hd
  have np := sum_pos hz (sq_nn _) (sq_nn _)
  obtain ⟨a1, a2, a3, a4, a5, a6⟩ := ga
  obtain ⟨b1, b2, b3, b4, b5, b6⟩ := gb
  have hb1 := bn.lo
  have hb2 := bn.hi
  have nl := near_len2 (mdU a.u a.w b.u b.w dir full) (mdW a.u a.w b.u b.w dir full) ((a.r + b.r + 1) / 2) _ (by omega) (by omega) (by omega) (by omega) np rfl
  exact ⟨by show lo ≤ (a.r + b.r + 1) / 2; omega, by show (a.r + b.r + 1) / 2 ≤ hi; omega, by show hl ≤ (a.h + b.h + 1) / 2; omega, by show (a.h + b.h + 1) / 2 ≤ hh; omega, nl.1, nl.2⟩
theorem mid_gd (dir : Int) (full : Bool) (a b : Spk) {lo hi hl hh : Int} (ga : Gd lo hi hl hh a) (gb : Gd lo hi hl hh b) (bn : Bnd lo hi hl hh) (hd : dir = 1 ∨ dir = -1) :
    (∀ w, Hid (Calls Try.prog 26 #[.agg #[.int .i64 a.u, .int .i64 a.w, .int .i64 a.r, .int .i64 a.h], .agg #[.int .i64 b.u, .int .i64 b.w, .int .i64 b.r, .int .i64 b.h], .int .i64 dir, .bool full] w fun e w' => e = .returned (.tuple #[.agg #[.int .i64 (mdS dir full a b).u, .int .i64 (mdS dir full a b).w, .int .i64 (mdS dir full a b).r, .int .i64 (mdS dir full a b).h], .bool true]) ∧ Below w.heap.size w w')) ∧
    (∀ w, Hid (Calls Try.prog 59 #[.agg #[.int .i64 a.u, .int .i64 a.w, .int .i64 a.r, .int .i64 a.h], .agg #[.int .i64 b.u, .int .i64 b.w, .int .i64 b.r, .int .i64 b.h], .int .i64 dir, .bool full] w fun e w' => e = .returned (.tuple #[.agg #[.int .i64 (mdS dir full a b).u, .int .i64 (mdS dir full a b).w, .int .i64 (mdS dir full a b).r, .int .i64 (mdS dir full a b).h], .bool true]) ∧ Below w.heap.size w w')) := by
  obtain ⟨m0, m1, m2, m3, ok, hm, hP, hR⟩ := mid_any a.u a.w a.r a.h b.u b.w b.r b.h dir full (ga.sp bn) (gb.sp bn)
  have hok : ok = true := hm.is.2 ⟨hd, md_ne full ga gb bn hd⟩
  obtain ⟨e2, e3, e0, e1⟩ := hm.yes hok
  subst hok e0 e1 e2 e3
  exact ⟨hP, hR⟩
/-- a piece that is not cut any more -/
def stl (dir : Int) (full : Bool) (a b : Spk) : Bool := !full && (decide (0 < (a.u * b.w - a.w * b.u) * dir) && decide ((a.u - b.u) * (a.u - b.u) + (a.w - b.w) * (a.w - b.w) ≤ 8 * min a.r b.r * 4 - 64))
/-- the spokes behind a up to b; k: how many halvings are left -/
def pcs (dir : Int) : Nat → Bool → Spk → Spk → List Spk
  | 0, _, _, b => [b]
  | k + 1, full, a, b => if stl dir full a b then [b] else pcs dir k false a (mdS dir full a b) ++ pcs dir k false (mdS dir full a b) b
theorem pcs_len (dir : Int) : ∀ (k : Nat) (full : Bool) (a b : Spk), 1 ≤ (pcs dir k full a b).length ∧ (pcs dir k full a b).length ≤ 2 ^ k
  | 0, full, a, b => by unfold pcs; simp
  | k + 1, full, a, b => by
    have hp := Nat.pow_pos (n := k) (show 0 < 2 by decide)
    have e : 2 ^ (k + 1) = 2 * 2 ^ k := by rw [Nat.pow_succ]; omega
    unfold pcs
    split
    · simp; omega
    · have h1 := pcs_len dir k false a (mdS dir full a b)
      have h2 := pcs_len dir k false (mdS dir full a b) b
      rw [List.length_append]; omega
theorem pcs_gd {lo hi hl hh : Int} {dir : Int} (bn : Bnd lo hi hl hh) (hd : dir = 1 ∨ dir = -1) : ∀ (k : Nat) (full : Bool) (a b : Spk), Gd lo hi hl hh a → Gd lo hi hl hh b → ∀ s ∈ pcs dir k full a b, Gd lo hi hl hh s
  | 0, full, a, b, ga, gb => by unfold pcs; simp; exact gb
  | k + 1, full, a, b, ga, gb => by
    have gm := mdS_gd full ga gb bn hd
    unfold pcs
    split
    · simp; exact gb
    · intro s hs
      rcases List.mem_append.1 hs with h | h
      · exact pcs_gd bn hd k false a _ ga gm s h
      · exact pcs_gd bn hd k false _ b gm gb s h
end Go.Proofs.Ytkjjoclbjkpdaaa
namespace Go.Proofs.Ytkjjoclbjkpdaaa
open Go.RowKit
set_option linter.unusedVariables false
set_option linter.unusedSimpArgs false

set_option maxHeartbeats 4000000 in
theorem settledR_any (aU aW aR aH bU bW bR bH dir : Int) (full : Bool) (w : World) (sa : Sp aU aW aR aH) (sb : Sp bU bW bR bH) (hd : dir = 1 ∨ dir = -1) :
    Calls Try.prog 58 #[.agg #[.int .i64 aU, .int .i64 aW, .int .i64 aR, .int .i64 aH], .agg #[.int .i64 bU, .int .i64 bW, .int .i64 bR, .int .i64 bH], .int .i64 dir, .bool full] w fun e w' => e = .returned (.bool (stl dir full ⟨aU, aW, aR, aH⟩ ⟨bU, bW, bR, bH⟩)) ∧ Below w.heap.size w w' := by
  obtain ⟨sa1, sa2, sa3, sa4, sa5, sa6, sa7, sa8⟩ := sa
  obtain ⟨sb1, sb2, sb3, sb4, sb5, sb6, sb7, sb8⟩ := sb
  have CR := fun w => Lib.hid (crossR_any aU aW aR aH bU bW bR bH w ⟨⟨by omega, by omega⟩, by omega, by omega⟩ ⟨⟨by omega, by omega⟩, by omega, by omega⟩)
  have FL := fun w => Lib.hid (flatR_any (min aR bR) ((aU - bU) * (aU - bU) + (aW - bW) * (aW - bW)) w (by omega) (by omega))
  have q0 := sq_bdK (x := aU - bU) (by omega) (by omega)
  have q1 := sq_bdK (x := aW - bW) (by omega) (by omega)
  have m0 := mul_bdK (x := aU) (y := bW) (by omega) (by omega) (by omega) (by omega)
  have m1 := mul_bdK (x := aW) (y := bU) (by omega) (by omega) (by omega) (by omega)
  obtain ⟨q2, q3⟩ := q0
  obtain ⟨q4, q5⟩ := q1
  have hx := dir_mul2 hd (x := aU * bW - aW * bU) (by omega) (by omega)
  obtain ⟨hx1, hx2⟩ := hx
  have WU := Lib.hid (wr_in (n := aU - bU) (by omega) (by omega))
  have WW := Lib.hid (wr_in (n := aW - bW) (by omega) (by omega))
  have WUU := Lib.hid (wr_in (n := (aU - bU) * (aU - bU)) (by omega) (by omega))
  have WWW := Lib.hid (wr_in (n := (aW - bW) * (aW - bW)) (by omega) (by omega))
  have WS := Lib.hid (wr_in (n := (aU - bU) * (aU - bU) + (aW - bW) * (aW - bW)) (by omega) (by omega))
  have WX := Lib.hid (wr_in (n := (aU * bW - aW * bU) * dir) (by omega) (by omega))
  have HS : Hid (stl dir full ⟨aU, aW, aR, aH⟩ ⟨bU, bW, bR, bH⟩ = (!full && (decide (0 < (aU * bW - aW * bU) * dir) && decide ((aU - bU) * (aU - bU) + (aW - bW) * (aW - bW) ≤ 8 * min aR bR * 4 - 64)))) := rfl
  generalize stl dir full ⟨aU, aW, aR, aH⟩ ⟨bU, bW, bR, bH⟩ = G at *
  clear m0 m1
  obtain ⟨X, hX⟩ : ∃ X, aU * bW - aW * bU = X := ⟨_, rfl⟩
  rw [hX] at CR HS hx1 hx2
  clear hX WX
  have hT : Lf w.heap.size (w.heap.size + 1 + 1) [(⟨w.heap.size, 0, none⟩, .int .i64 aU), (⟨w.heap.size, 1, none⟩, .int .i64 aW), (⟨w.heap.size, 2, none⟩, .int .i64 aR), (⟨w.heap.size, 3, none⟩, .int .i64 aH), (⟨w.heap.size + 1, 0, none⟩, .int .i64 bU), (⟨w.heap.size + 1, 1, none⟩, .int .i64 bW), (⟨w.heap.size + 1, 2, none⟩, .int .i64 bR), (⟨w.heap.size + 1, 3, none⟩, .int .i64 bH)] w ((w.alloc (.cells #[.int .i64 aU, .int .i64 aW, .int .i64 aR, .int .i64 aH] 34)).alloc (.cells #[.int .i64 bU, .int .i64 bW, .int .i64 bR, .int .i64 bH] 34)) := ⟨by simp [List.forall_mem_cons, go_sem], by simp [List.forall_mem_cons, go_sem], by simp [List.forall_mem_cons] <;> omega, by simp, by (repeat (first | exact Below.refl _ _ | assumption | refine Below.drew ?_ | (refine Below.alloc ?_ (by simp <;> omega) _) | (refine Below.setCell ?_ (by simp <;> omega) _))), by omega⟩
  cases full
  · by_cases hc : 0 < X * dir
    · have HG : Hid (G = decide ((aU - bU) * (aU - bU) + (aW - bW) * (aW - bW) ≤ 8 * min aR bR * 4 - 64)) := by show G = _; rw [HS.out, decide_eq_true hc]; rfl
      obtain ⟨k, hk⟩ : ∃ k : Bool, decide ((aU - bU) * (aU - bU) + (aW - bW) * (aW - bW) ≤ 8 * min aR bR * 4 - 64) = k := ⟨_, rfl⟩
      rw [hk] at HG FL
      clear hk HS
      go_enter Try.func58, Try.ntmps58
      go_wp2_with fail
      refine (CR _).out.mono ?_
      rintro e w1 ⟨rfl, hb1⟩
      have hT := hT.next hb1
      have kc := hT.cells
      have kf := hT.frz
      simp only [List.forall_mem_cons, List.not_mem_nil, false_implies, implies_true, and_true] at kc kf
      obtain ⟨yc0, yc1, yc2, yc3, yc4, yc5, yc6, yc7⟩ := kc
      obtain ⟨yf0, yf1, yf2, yf3, yf4, yf5, yf6, yf7⟩ := kf
      go_wp2_with fail
      refine (FL _).out.mono ?_
      rintro e w2 ⟨rfl, rfl⟩
      go_wp2_with fail
      go_ret
      exact ⟨by rw [HG.out]; rfl, hT.be⟩
    · have HG : Hid (G = false) := by show G = _; rw [HS.out, decide_eq_false hc]; rfl
      clear HS
      go_enter Try.func58, Try.ntmps58
      go_wp2_with fail
      refine (CR _).out.mono ?_
      rintro e w1 ⟨rfl, hb1⟩
      have hT := hT.next hb1
      go_wp2_with fail
      go_ret
      exact ⟨by rw [HG.out]; rfl, hT.be⟩
  · have HG : Hid (G = false) := by show G = _; rw [HS.out]; rfl
    clear HS
    go_enter Try.func58, Try.ntmps58
    go_wp2_with fail
    go_ret
    exact ⟨by rw [HG.out]; rfl, hT.be⟩
set_option maxHeartbeats 4000000 in
theorem settledP_any (cb : Nat) (aU aW aR aH bU bW bR bH dir : Int) (full : Bool) (w : World) (sa : Sp aU aW aR aH) (sb : Sp bU bW bR bH) (hd : dir = 1 ∨ dir = -1) (hcb : w.cell? ⟨cb, 0, none⟩ = some (.int .i64 dir)) (hfb : w.frozen? ⟨cb, 0, none⟩ = false) (hcl : cb < w.heap.size) :
    Calls Try.prog 56 #[.pointer (some ⟨cb, 0, none⟩), .agg #[.int .i64 aU, .int .i64 aW, .int .i64 aR, .int .i64 aH], .agg #[.int .i64 bU, .int .i64 bW, .int .i64 bR, .int .i64 bH], .bool full] w fun e w' => e = .returned (.bool (stl dir full ⟨aU, aW, aR, aH⟩ ⟨bU, bW, bR, bH⟩)) ∧ Below w.heap.size w w' := by
  obtain ⟨sa1, sa2, sa3, sa4, sa5, sa6, sa7, sa8⟩ := sa
  obtain ⟨sb1, sb2, sb3, sb4, sb5, sb6, sb7, sb8⟩ := sb
  have CR := fun w => Lib.hid (crossP_any aU aW aR aH bU bW bR bH w ⟨⟨by omega, by omega⟩, by omega, by omega⟩ ⟨⟨by omega, by omega⟩, by omega, by omega⟩)
  have FL := fun w => Lib.hid (flatP_any (min aR bR) ((aU - bU) * (aU - bU) + (aW - bW) * (aW - bW)) w (by omega) (by omega))
  have q0 := sq_bdK (x := aU - bU) (by omega) (by omega)
  have q1 := sq_bdK (x := aW - bW) (by omega) (by omega)
  have m0 := mul_bdK (x := aU) (y := bW) (by omega) (by omega) (by omega) (by omega)
  have m1 := mul_bdK (x := aW) (y := bU) (by omega) (by omega) (by omega) (by omega)
  obtain ⟨q2, q3⟩ := q0
  obtain ⟨q4, q5⟩ := q1
  have hx := dir_mul2 hd (x := aU * bW - aW * bU) (by omega) (by omega)
  obtain ⟨hx1, hx2⟩ := hx
  have WU := Lib.hid (wr_in (n := aU - bU) (by omega) (by omega))
  have WW := Lib.hid (wr_in (n := aW - bW) (by omega) (by omega))
  have WUU := Lib.hid (wr_in (n := (aU - bU) * (aU - bU)) (by omega) (by omega))
  have WWW := Lib.hid (wr_in (n := (aW - bW) * (aW - bW)) (by omega) (by omega))
  have WS := Lib.hid (wr_in (n := (aU - bU) * (aU - bU) + (aW - bW) * (aW - bW)) (by omega) (by omega))
  have WX := Lib.hid (wr_in (n := (aU * bW - aW * bU) * dir) (by omega) (by omega))
  have HS : Hid (stl dir full ⟨aU, aW, aR, aH⟩ ⟨bU, bW, bR, bH⟩ = (!full && (decide (0 < (aU * bW - aW * bU) * dir) && decide ((aU - bU) * (aU - bU) + (aW - bW) * (aW - bW) ≤ 8 * min aR bR * 4 - 64)))) := rfl
  generalize stl dir full ⟨aU, aW, aR, aH⟩ ⟨bU, bW, bR, bH⟩ = G at *
  clear m0 m1
  obtain ⟨X, hX⟩ : ∃ X, aU * bW - aW * bU = X := ⟨_, rfl⟩
  rw [hX] at CR HS hx1 hx2 WX
  clear hX
  have hcl2 : cb < w.heap.size + 1 := by omega
  have hT : Lf w.heap.size (w.heap.size + 1 + 1) [(⟨cb, 0, none⟩, .int .i64 dir), (⟨w.heap.size, 0, none⟩, .int .i64 aU), (⟨w.heap.size, 1, none⟩, .int .i64 aW), (⟨w.heap.size, 2, none⟩, .int .i64 aR), (⟨w.heap.size, 3, none⟩, .int .i64 aH), (⟨w.heap.size + 1, 0, none⟩, .int .i64 bU), (⟨w.heap.size + 1, 1, none⟩, .int .i64 bW), (⟨w.heap.size + 1, 2, none⟩, .int .i64 bR), (⟨w.heap.size + 1, 3, none⟩, .int .i64 bH)] w ((w.alloc (.cells #[.int .i64 aU, .int .i64 aW, .int .i64 aR, .int .i64 aH] 34)).alloc (.cells #[.int .i64 bU, .int .i64 bW, .int .i64 bR, .int .i64 bH] 34)) := ⟨by simp [List.forall_mem_cons, go_sem, hcb, hcl, hcl2], by simp [List.forall_mem_cons, go_sem, hfb, hcl, hcl2], by simp [List.forall_mem_cons] <;> omega, by simp, by (repeat (first | exact Below.refl _ _ | assumption | refine Below.drew ?_ | (refine Below.alloc ?_ (by simp <;> omega) _) | (refine Below.setCell ?_ (by simp <;> omega) _))), by omega⟩
  clear hcb hfb hcl hcl2
  cases full
  · by_cases hc : 0 < X * dir
    · have HG : Hid (G = decide ((aU - bU) * (aU - bU) + (aW - bW) * (aW - bW) ≤ 8 * min aR bR * 4 - 64)) := by show G = _; rw [HS.out, decide_eq_true hc]; rfl
      have hdc : decide (0 < X * dir) = true := decide_eq_true hc
      obtain ⟨k, hk⟩ : ∃ k : Bool, decide ((aU - bU) * (aU - bU) + (aW - bW) * (aW - bW) ≤ 8 * min aR bR * 4 - 64) = k := ⟨_, rfl⟩
      rw [hk] at HG FL
      clear hk HS
      go_enter Try.func56, Try.ntmps56
      go_upto_region 1 with fail
      (refine wp_region_class (Lf w.heap.size (w.heap.size + 1 + 1) [(⟨cb, 0, none⟩, .int .i64 dir), (⟨w.heap.size, 0, none⟩, .int .i64 aU), (⟨w.heap.size, 1, none⟩, .int .i64 aW), (⟨w.heap.size, 2, none⟩, .int .i64 aR), (⟨w.heap.size, 3, none⟩, .int .i64 aH), (⟨w.heap.size + 1, 0, none⟩, .int .i64 bU), (⟨w.heap.size + 1, 1, none⟩, .int .i64 bW), (⟨w.heap.size + 1, 2, none⟩, .int .i64 bR), (⟨w.heap.size + 1, 3, none⟩, .int .i64 bH)] w) (hT.next (Below.refl _ _).drew) (by kernel_rfl) (by kernel_rfl) ?_; repeat (refine wpQuiet_step (fun qK9 qH9 => ?_); go_simp; first | (refine qH9 _ ?_; clear qH9 qK9) | (apply Exists.intro; refine ⟨?_, qH9 _ ?_⟩; (first | (intros; rfl) | ((intro wx hC; ((have qk9 := (hC).cells; simp only [List.forall_mem_cons, List.not_mem_nil, false_implies, implies_true, and_true] at qk9; repeat (obtain ⟨qk8, qk9⟩ := qk9)); go_simp; first | done | rfl)))); clear qH9 qK9)))
      refine wpQuiet_nil ?_
      clear hT
      intro wy hT
      rewrite [WU.out, WW.out]
      go_upto_region 2 with fail
      have hw1 := WUU.out
      have hw2 := WWW.out
      have hw3 := WS.out
      have hw4 := WX.out
      (refine wp_region_class (Lf w.heap.size (w.heap.size + 1 + 1) [(⟨cb, 0, none⟩, .int .i64 dir), (⟨w.heap.size, 0, none⟩, .int .i64 aU), (⟨w.heap.size, 1, none⟩, .int .i64 aW), (⟨w.heap.size, 2, none⟩, .int .i64 aR), (⟨w.heap.size, 3, none⟩, .int .i64 aH), (⟨w.heap.size + 1, 0, none⟩, .int .i64 bU), (⟨w.heap.size + 1, 1, none⟩, .int .i64 bW), (⟨w.heap.size + 1, 2, none⟩, .int .i64 bR), (⟨w.heap.size + 1, 3, none⟩, .int .i64 bH)] w) (hT.next (Below.refl _ _).drew) (by kernel_rfl) (by kernel_rfl) ?_; repeat (first | go_big_quiet_skip | (refine wpQuiet_step (fun qK9 qH9 => ?_); go_simp; first | (refine qH9 _ ?_; clear qH9 qK9) | (apply Exists.intro; refine ⟨?_, qH9 _ ?_⟩; (first | (intros; rfl) | (first | (intro wx hC; ((have qk9 := (hC).cells; simp only [List.forall_mem_cons, List.not_mem_nil, false_implies, implies_true, and_true] at qk9; repeat (obtain ⟨qk8, qk9⟩ := qk9)); go_simp; first | done | rfl)) | (intro wx hC; with_reducible exact Calls.lays (CR wx).out (fun _ => hC.next)) | (intro wx hC; with_reducible exact Calls.layq (FL wx).out hC))); clear qH9 qK9))))
      refine wpQuiet_nil ?_
      clear hT hw1 hw2 hw3 hw4
      intro wz hT
      go_wp2_with fail
      go_ret
      exact ⟨by rw [HG.out]; rfl, hT.be⟩
    · have HG : Hid (G = false) := by show G = _; rw [HS.out, decide_eq_false hc]; rfl
      have hdc : decide (0 < X * dir) = false := decide_eq_false hc
      clear HS
      go_enter Try.func56, Try.ntmps56
      go_upto_region 1 with fail
      (refine wp_region_class (Lf w.heap.size (w.heap.size + 1 + 1) [(⟨cb, 0, none⟩, .int .i64 dir), (⟨w.heap.size, 0, none⟩, .int .i64 aU), (⟨w.heap.size, 1, none⟩, .int .i64 aW), (⟨w.heap.size, 2, none⟩, .int .i64 aR), (⟨w.heap.size, 3, none⟩, .int .i64 aH), (⟨w.heap.size + 1, 0, none⟩, .int .i64 bU), (⟨w.heap.size + 1, 1, none⟩, .int .i64 bW), (⟨w.heap.size + 1, 2, none⟩, .int .i64 bR), (⟨w.heap.size + 1, 3, none⟩, .int .i64 bH)] w) (hT.next (Below.refl _ _).drew) (by kernel_rfl) (by kernel_rfl) ?_; repeat (refine wpQuiet_step (fun qK9 qH9 => ?_); go_simp; first | (refine qH9 _ ?_; clear qH9 qK9) | (apply Exists.intro; refine ⟨?_, qH9 _ ?_⟩; (first | (intros; rfl) | ((intro wx hC; ((have qk9 := (hC).cells; simp only [List.forall_mem_cons, List.not_mem_nil, false_implies, implies_true, and_true] at qk9; repeat (obtain ⟨qk8, qk9⟩ := qk9)); go_simp; first | done | rfl)))); clear qH9 qK9)))
      refine wpQuiet_nil ?_
      clear hT
      intro wy hT
      rewrite [WU.out, WW.out]
      go_upto_region 2 with fail
      have hw1 := WUU.out
      have hw2 := WWW.out
      have hw3 := WS.out
      have hw4 := WX.out
      (refine wp_region_class (Lf w.heap.size (w.heap.size + 1 + 1) [(⟨cb, 0, none⟩, .int .i64 dir), (⟨w.heap.size, 0, none⟩, .int .i64 aU), (⟨w.heap.size, 1, none⟩, .int .i64 aW), (⟨w.heap.size, 2, none⟩, .int .i64 aR), (⟨w.heap.size, 3, none⟩, .int .i64 aH), (⟨w.heap.size + 1, 0, none⟩, .int .i64 bU), (⟨w.heap.size + 1, 1, none⟩, .int .i64 bW), (⟨w.heap.size + 1, 2, none⟩, .int .i64 bR), (⟨w.heap.size + 1, 3, none⟩, .int .i64 bH)] w) (hT.next (Below.refl _ _).drew) (by kernel_rfl) (by kernel_rfl) ?_; repeat (first | go_big_quiet_skip | (refine wpQuiet_step (fun qK9 qH9 => ?_); go_simp; first | (refine qH9 _ ?_; clear qH9 qK9) | (apply Exists.intro; refine ⟨?_, qH9 _ ?_⟩; (first | (intros; rfl) | (first | (intro wx hC; ((have qk9 := (hC).cells; simp only [List.forall_mem_cons, List.not_mem_nil, false_implies, implies_true, and_true] at qk9; repeat (obtain ⟨qk8, qk9⟩ := qk9)); go_simp; first | done | rfl)) | (intro wx hC; with_reducible exact Calls.lays (CR wx).out (fun _ => hC.next)) | (intro wx hC; with_reducible exact Calls.layq (FL wx).out hC))); clear qH9 qK9))))
      refine wpQuiet_nil ?_
      clear hT hw1 hw2 hw3 hw4
      intro wz hT
      go_wp2_with fail
      go_ret
      exact ⟨by rw [HG.out]; rfl, hT.be⟩
  · have HG : Hid (G = false) := by show G = _; rw [HS.out]; rfl
    clear HS
    go_enter Try.func56, Try.ntmps56
    go_upto_region 1 with fail
    (refine wp_region_class (Lf w.heap.size (w.heap.size + 1 + 1) [(⟨cb, 0, none⟩, .int .i64 dir), (⟨w.heap.size, 0, none⟩, .int .i64 aU), (⟨w.heap.size, 1, none⟩, .int .i64 aW), (⟨w.heap.size, 2, none⟩, .int .i64 aR), (⟨w.heap.size, 3, none⟩, .int .i64 aH), (⟨w.heap.size + 1, 0, none⟩, .int .i64 bU), (⟨w.heap.size + 1, 1, none⟩, .int .i64 bW), (⟨w.heap.size + 1, 2, none⟩, .int .i64 bR), (⟨w.heap.size + 1, 3, none⟩, .int .i64 bH)] w) (hT.next (Below.refl _ _).drew) (by kernel_rfl) (by kernel_rfl) ?_; repeat (refine wpQuiet_step (fun qK9 qH9 => ?_); go_simp; first | (refine qH9 _ ?_; clear qH9 qK9) | (apply Exists.intro; refine ⟨?_, qH9 _ ?_⟩; (first | (intros; rfl) | ((intro wx hC; ((have qk9 := (hC).cells; simp only [List.forall_mem_cons, List.not_mem_nil, false_implies, implies_true, and_true] at qk9; repeat (obtain ⟨qk8, qk9⟩ := qk9)); go_simp; first | done | rfl)))); clear qH9 qK9)))
    refine wpQuiet_nil ?_
    clear hT
    intro wy hT
    rewrite [WU.out, WW.out]
    go_upto_region 2 with fail
    have hw1 := WUU.out
    have hw2 := WWW.out
    have hw3 := WS.out
    have hw4 := WX.out
    (refine wp_region_class (Lf w.heap.size (w.heap.size + 1 + 1) [(⟨cb, 0, none⟩, .int .i64 dir), (⟨w.heap.size, 0, none⟩, .int .i64 aU), (⟨w.heap.size, 1, none⟩, .int .i64 aW), (⟨w.heap.size, 2, none⟩, .int .i64 aR), (⟨w.heap.size, 3, none⟩, .int .i64 aH), (⟨w.heap.size + 1, 0, none⟩, .int .i64 bU), (⟨w.heap.size + 1, 1, none⟩, .int .i64 bW), (⟨w.heap.size + 1, 2, none⟩, .int .i64 bR), (⟨w.heap.size + 1, 3, none⟩, .int .i64 bH)] w) (hT.next (Below.refl _ _).drew) (by kernel_rfl) (by kernel_rfl) ?_; repeat (first | go_big_quiet_skip | (refine wpQuiet_step (fun qK9 qH9 => ?_); go_simp; first | (refine qH9 _ ?_; clear qH9 qK9) | (apply Exists.intro; refine ⟨?_, qH9 _ ?_⟩; (first | (intros; rfl) | (first | (intro wx hC; ((have qk9 := (hC).cells; simp only [List.forall_mem_cons, List.not_mem_nil, false_implies, implies_true, and_true] at qk9; repeat (obtain ⟨qk8, qk9⟩ := qk9)); go_simp; first | done | rfl)) | (intro wx hC; with_reducible exact Calls.lays (CR wx).out (fun _ => hC.next)) | (intro wx hC; with_reducible exact Calls.layq (FL wx).out hC))); clear qH9 qK9))))
    refine wpQuiet_nil ?_
    clear hT hw1 hw2 hw3 hw4
    intro wz hT
    go_wp2_with fail
    go_ret
    exact ⟨by rw [HG.out]; rfl, hT.be⟩
end Go.Proofs.Ytkjjoclbjkpdaaa
namespace Go.Proofs.Ytkjjoclbjkpdaaa
open Go.RowKit
set_option linter.unusedVariables false
set_option linter.unusedSimpArgs false
/-- the block g has m cells that may be written, of which the first i hold what G says -/
structure Row (g m i : Nat) (G : Nat → Value) (w : World) : Prop where
  cell : ∀ j, j < i → w.cell? ⟨g, j, none⟩ = some (G j)
  ex : ∀ j, j < m → ∃ v, w.cell? ⟨g, j, none⟩ = some v
  frz : ∀ j, j < m → w.frozen? ⟨g, j, none⟩ = false
  lt : g < w.heap.size
theorem Row.next {g m i : Nat} {G : Nat → Value} {w w' : World} (h : Row g m i G w) (hb : Below w.heap.size w w') : Row g m i G w' :=
  ⟨fun j hj => (hb.cell (p := ⟨g, j, none⟩) h.lt).trans (h.cell j hj), fun j hj => (h.ex j hj).imp fun v hv => (hb.cell (p := ⟨g, j, none⟩) h.lt).trans hv,
   fun j hj => (hb.frozen (p := ⟨g, j, none⟩) h.lt).trans (h.frz j hj), Nat.lt_of_lt_of_le h.lt hb.size⟩
theorem Row.put {g m i : Nat} {G : Nat → Value} {w : World} (h : Row g m i G w) (o : Nat) (v : Value) (ho : i ≤ o) (hm : o < m) : Row g m i G (w.setCell ⟨g, o, none⟩ v) := by
  refine ⟨fun j hj => ?_, fun j hj => ?_, fun j hj => by simpa [go_sem] using h.frz j hj, by simpa using h.lt⟩
  · exact (World.cell?_setCell_other w ⟨g, o, none⟩ ⟨g, j, none⟩ v (fun e => by simp at e <;> omega)).trans (h.cell j hj)
  · by_cases e : j = o
    · subst e
      obtain ⟨u, hu⟩ := h.ex j hj
      exact ⟨v, World.cell?_setCell_same _ _ _ hu⟩
    · obtain ⟨u, hu⟩ := h.ex j hj
      exact ⟨u, (World.cell?_setCell_other w ⟨g, o, none⟩ ⟨g, j, none⟩ v (fun e' => by simp at e' <;> omega)).trans hu⟩
theorem Row.at {g m i : Nat} {G : Nat → Value} {w : World} (h : Row g m i G w) (o : Nat) (v : Value) (hm : o < m) : (w.setCell ⟨g, o, none⟩ v).cell? ⟨g, o, none⟩ = some v := by
  obtain ⟨u, hu⟩ := h.ex o hm
  exact World.cell?_setCell_same _ _ _ hu
theorem Row.past {g m i : Nat} {G : Nat → Value} {w : World} (h : Row g m i G w) (o j : Nat) (u v : Value) (hne : o ≠ j) (hu : w.cell? ⟨g, j, none⟩ = some u) : (w.setCell ⟨g, o, none⟩ v).cell? ⟨g, j, none⟩ = some u :=
  (World.cell?_setCell_other w ⟨g, o, none⟩ ⟨g, j, none⟩ v (fun e => by simp at e <;> omega)).trans hu
theorem Row.step {g m i : Nat} {G : Nat → Value} {w : World} (h : Row g m i G w) (v : Value) (hm : i < m) (hv : G i = v) : Row g m (i + 1) G (w.setCell ⟨g, i, none⟩ v) := by
  have p := h.put i v (Nat.le_refl _) hm
  refine ⟨fun j hj => ?_, p.ex, p.frz, p.lt⟩
  by_cases e : j = i
  · subst e; rw [hv]; exact h.at j v hm
  · exact p.cell j (by omega)
theorem Row.cast {g m i k : Nat} {G : Nat → Value} {w : World} (h : Row g m i G w) (e : i = k) : Row g m k G w := e ▸ h
theorem Lf.far {B n : Nat} {cs : List (Addr × Value)} {w0 w : World} (h : Lf B n cs w0 w) (g o : Nat) (v : Value) (hg : n ≤ g) : Lf B n cs w0 (w.setCell ⟨g, o, none⟩ v) :=
  ⟨fun p hp => (World.cell?_setCell_other w ⟨g, o, none⟩ p.1 v (fun e => by have := h.inn p hp; rw [← e] at this; simp at this; omega)).trans (h.cells p hp), fun p hp => by simpa [go_sem] using h.frz p hp, h.inn, by simpa using h.lt,
   h.be.setCell (Nat.le_trans h.le hg) v, h.le⟩
def cp (x0 x1 x2 : Int) (k : Nat) : Int := if k = 0 then x0 else if k = 1 then x1 else x2
/-- one round of the inner loop: the k-th component of the i-th point is next -/
structure Inn (g m i k : Nat) (G : Nat → Value) (c0 c1 c2 : Int) (w : World) : Prop where
  row : Row g m (i * 3 + k) G w
  z0 : k = 0 → w.cell? ⟨g, i * 3, none⟩ = some (.int .i64 c0)
  z1 : k ≤ 1 → w.cell? ⟨g, i * 3 + 1, none⟩ = some (.int .i64 c1)
  z2 : k ≤ 2 → w.cell? ⟨g, i * 3 + 2, none⟩ = some (.int .i64 c2)
theorem Inn.next {g m i k : Nat} {G : Nat → Value} {c0 c1 c2 : Int} {w w' : World} (h : Inn g m i k G c0 c1 c2 w) (hb : Below w.heap.size w w') : Inn g m i k G c0 c1 c2 w' :=
  ⟨h.row.next hb, fun e => (hb.cell (p := ⟨g, _, none⟩) h.row.lt).trans (h.z0 e), fun e => (hb.cell (p := ⟨g, _, none⟩) h.row.lt).trans (h.z1 e), fun e => (hb.cell (p := ⟨g, _, none⟩) h.row.lt).trans (h.z2 e)⟩
theorem Inn.start {g m i : Nat} {G : Nat → Value} {w : World} (h : Row g m (i * 3) G w) (c0 c1 c2 : Int) (hm : i * 3 + 2 < m) :
    Inn g m i 0 G c0 c1 c2 (((w.setCell ⟨g, i * 3, none⟩ (.int .i64 c0)).setCell ⟨g, i * 3 + 1, none⟩ (.int .i64 c1)).setCell ⟨g, i * 3 + 2, none⟩ (.int .i64 c2)) := by
  have h1 := h.put (i * 3) (.int .i64 c0) (Nat.le_refl _) (by omega)
  have h2 := h1.put (i * 3 + 1) (.int .i64 c1) (by omega) (by omega)
  have h3 := h2.put (i * 3 + 2) (.int .i64 c2) (by omega) (by omega)
  exact ⟨h3, fun _ => h2.past _ _ _ _ (by omega) (h1.past _ _ _ _ (by omega) (h.at _ _ (by omega))), fun _ => h2.past _ _ _ _ (by omega) (h1.at _ _ (by omega)), fun _ => h2.at _ _ (by omega)⟩
theorem Row.made {w : World} {B e : Nat} {L cap : Nat} {g : Nat} {xs : List Value} (h : w.ownsRow B e 3 (.slice (some ⟨g, 0, none⟩) L cap) L xs) (G : Nat → Value) : Row g (3 * L) 0 G w := by
  have hl := h.lt g rfl
  refine ⟨fun j hj => absurd hj (by omega), fun j hj => ?_, fun j _ => h.frozenAt j, hl.2⟩
  rw [h.cellAt j (by omega)]
  have : j < xs.length := by rw [h.1]; omega
  exact ⟨xs[j], List.getElem?_eq_getElem this⟩
structure Both (C D : World → Prop) (w : World) : Prop where
  l : C w
  r : D w
end Go.Proofs.Ytkjjoclbjkpdaaa
namespace Go.Proofs.Ytkjjoclbjkpdaaa
open Go.RowKit
set_option linter.unusedVariables false
set_option linter.unusedSimpArgs false
theorem ready_all {l : List Oper} {listed : Array Bool} (hz : listed.size = l.length) (hord : ∀ (i : Nat) (o : Oper), l[i]? = some o → ∀ e ∈ o.after, Region.binds .any e = true → e.on < i)
    (hr : Region.ready .any l.toArray listed = []) : ∀ i, i < l.length → listed.getD i false = true := by
  intro i
  induction i using Nat.strongRecOn with
  | _ i ih =>
    intro hi
    cases hb : listed.getD i false
    · exfalso
      have ho : l[i]? = some l[i] := List.getElem?_eq_getElem hi
      have : i ∈ Region.ready .any l.toArray listed := by
        refine mem_ready.2 ⟨?_, l[i], by simp [ho], fun e he hb => ih e.on (hord i _ ho e he hb) (Nat.lt_trans (hord i _ ho e he hb) hi)⟩
        simp [Array.getD, hz, hi] at hb ⊢
        exact hb
      rw [hr] at this
      cases this
    · rfl
theorem getD_or (listed : Array Bool) (i : Nat) (hi : i < listed.size) : (fun k => (listed.setIfInBounds i true).getD k false) = fun k => k == i || listed.getD k false := by
  funext k
  simp only [Array.getD_eq_getD_getElem?, Array.getElem?_setIfInBounds]
  by_cases h : k = i
  · subst h; simp [hi]
  · rw [if_neg (fun e => h e.symm)]; simp [h]
theorem count_or (listed : Array Bool) (i : Nat) (hi : i < listed.size) (hf : listed.getD i true = false) : (listed.setIfInBounds i true).toList.count true = listed.toList.count true + 1 := by
  simp [Array.getD, hi] at hf
  rw [Array.toList_setIfInBounds, List.count_set (by simpa using hi)]
  simp [hf]
theorem wpAny_inv {P : Program} {l : List Oper} {Q : Exit → Act → World → Prop} (I : (Nat → Bool) → Act → World → Prop)
    (hord : ∀ (i : Nat) (o : Oper), l[i]? = some o → ∀ e ∈ o.after, Region.binds .any e = true → e.on < i) (hgd : ∀ (i : Nat) (o : Oper), l[i]? = some o → o.guard = none)
    (hs : ∀ (i : Nat) (o : Oper), l[i]? = some o → ∀ (L : Nat → Bool) a w, I L a w → L i = false → (∀ e ∈ o.after, Region.binds .any e = true → L e.on = true) → ∀ K : Act → World → Prop, (∀ a' w', I (fun k => k == i || L k) a' w' → K a' w') → o.wp P a w K Q)
    (hQ : ∀ L a w, I L a w → (∀ i, i < l.length → L i = true) → Q .normal a w) :
    ∀ (fuel : Nat) (listed : Array Bool) (a : Act) (w : World), listed.size = l.length → listed.toList.count true + fuel = l.length → I (fun k => listed.getD k false) a w → wpAny P .any l.toArray Q fuel listed a w
  | 0, listed, a, w, hz, hc, hI => by
    have hall : ∀ b ∈ listed.toList, true = b := List.count_eq_length.1 (by simpa [hz] using hc)
    have hl : ∀ i, i < l.length → listed.getD i false = true := fun i hi => by
      have := hall (listed[i]'(by omega)) (by simp)
      simp [Array.getD, hz, hi, ← this]
    refine ⟨List.eq_nil_iff_forall_not_mem.2 fun i hi => ?_, hQ _ a w hI hl⟩
    obtain ⟨h0, o, ho, _⟩ := mem_ready.1 hi
    have hlt : i < l.length := by have := (Array.getElem?_eq_some_iff.1 ho).1; simpa using this
    have := hl i hlt
    simp [Array.getD, hz, hlt] at h0 this
    rw [h0] at this; cases this
  | fuel + 1, listed, a, w, hz, hc, hI => by
    refine ⟨fun hr => hQ _ a w hI (ready_all hz hord hr), fun i hi => ?_⟩
    obtain ⟨h0, o, ho, hall⟩ := mem_ready.1 hi
    have hlt : i < l.length := by have := (Array.getElem?_eq_some_iff.1 ho).1; simpa using this
    have ho' : l[i]? = some o := by simpa using ho
    have hd : listed.getD i false = false := by simpa [Array.getD, hz, hlt] using h0
    unfold wpOp
    simp only [ho]
    have hw : Region.wanted o (yielded l.toArray a.tmps) = true := by simp [Region.wanted, hgd i o ho']
    rw [if_pos hw]
    refine .inl (hs i o ho' _ a w hI hd hall _ fun a' w' hI' => ?_)
    refine wpAny_inv I hord hgd hs hQ fuel _ a' w' (by simpa using hz) ?_ ?_
    · rw [count_or listed i (by omega) h0]; omega
    · rw [getD_or listed i (by omega)]; exact hI'
theorem lex_ok {l : List Oper} (h : (l.zipIdx.all fun p => p.1.guard.isNone && p.1.after.all fun e => !Region.binds .any e || decide (e.on < p.2)) = true) :
    (∀ (i : Nat) (o : Oper), l[i]? = some o → ∀ e ∈ o.after, Region.binds .any e = true → e.on < i) ∧ ∀ (i : Nat) (o : Oper), l[i]? = some o → o.guard = none := by
  have k : ∀ (i : Nat) (o : Oper), l[i]? = some o → o.guard.isNone = true ∧ o.after.all (fun e => !Region.binds .any e || decide (e.on < i)) = true := by
    intro i o ho
    have hm : (o, i) ∈ l.zipIdx := by
      rw [List.mem_iff_getElem?]
      exact ⟨i, by rw [List.getElem?_zipIdx, ho]; simp⟩
    have := List.all_eq_true.1 h _ hm
    simpa using this
  refine ⟨fun i o ho e he hb => ?_, fun i o ho => ?_⟩
  · have := (k i o ho).2
    rw [Array.all_eq_true_iff_forall_mem] at this
    have := this e he
    rw [hb] at this
    exact of_decide_eq_true (by simpa using this)
  · exact Option.isNone_iff_eq_none.1 (k i o ho).1
/-- a region that draws its order: an invariant that each operation hands on serves every order -/
theorem wp_region_inv {P : Program} {id : Nat} {l : List Oper} {Q : Exit → Act → World → Prop} {a : Act} {w : World} (I : (Nat → Bool) → Act → World → Prop) (hm : P.follows .mixedOrders = true)
    (hlex : (l.zipIdx.all fun p => p.1.guard.isNone && p.1.after.all fun e => !Region.binds .any e || decide (e.on < p.2)) = true)
    (h0 : I (fun _ => false) a w.drew)
    (hs : ∀ (i : Nat) (o : Oper), l[i]? = some o → ∀ (L : Nat → Bool) a w, I L a w → L i = false → (∀ e ∈ o.after, Region.binds .any e = true → L e.on = true) → ∀ K : Act → World → Prop, (∀ a' w', I (fun k => k == i || L k) a' w' → K a' w') → o.wp P a w K Q)
    (hQ : ∀ L a w, I L a w → (∀ i, i < l.length → L i = true) → Q .normal a w) : (Code.region id l.toArray true).wp P Q a w := by
  refine wp_region_any hm (wpAny_inv I (lex_ok hlex).1 (lex_ok hlex).2 hs hQ _ _ a _ (by simp) (by simp [List.count_replicate]) ?_)
  have e : (fun k => (Array.replicate l.length false).getD k false) = fun _ => false := by
    funext k; simp [Array.getD]
  show I (fun k => (Array.replicate l.toArray.size false).getD k false) a w.drew
  rw [show l.toArray.size = l.length by simp, e]
  exact h0
/-- frames that agree but in the slots of a list -/
structure OffOf (D : List Nat) (A a : Act) : Prop where
  defers : a.defers = A.defers
  size : a.tmps.size = A.tmps.size
  off : ∀ d, d ∉ D → a.tmps[d]? = A.tmps[d]?
theorem OffOf.refl (D : List Nat) (A : Act) : OffOf D A A := ⟨rfl, rfl, fun _ _ => rfl⟩
theorem OffOf.put {D : List Nat} {A a : Act} (h : OffOf D A a) {d : Nat} (hd : d ∈ D) (v : Value) : OffOf D A (a.put (some d) v) :=
  ⟨h.defers, by simp [Act.put, h.size], fun k hk => by
    have : d ≠ k := fun e => hk (e ▸ hd)
    simp [Act.put, Array.getElem?_setIfInBounds, this, h.off k hk]⟩
theorem OffOf.eval {D : List Nat} {A a : Act} (h : OffOf D A a) {t : Nat} (ht : t ∉ D) : a.eval (.tmp t) = A.eval (.tmp t) := by
  have := h.off t ht
  simp only [Act.eval, Array.getD_eq_getD_getElem?, this]
theorem eval_of {a : Act} {t : Nat} {v : Value} (h : a.tmps[t]? = some v) : a.eval (.tmp t) = v := by
  simp only [Act.eval, Array.getD_eq_getD_getElem?, h]; rfl
theorem put_at {a : Act} {d : Nat} (v : Value) (h : d < a.tmps.size) : (a.put (some d) v).tmps[d]? = some v := by
  simp [Act.put, h]
theorem put_ne {a : Act} {d t : Nat} {u : Value} (v : Value) (hne : d ≠ t) (h : a.tmps[t]? = some u) : (a.put (some d) v).tmps[t]? = some u := by
  simp [Act.put, Array.getElem?_setIfInBounds, hne, h]
theorem foldl_puts (f : Nat → Value) : ∀ (D : List Nat) (A : Act), (D.foldl (fun x d => x.put (some d) (f d)) A).defers = A.defers ∧ (D.foldl (fun x d => x.put (some d) (f d)) A).tmps.size = A.tmps.size ∧
    (∀ k, k ∉ D → (D.foldl (fun x d => x.put (some d) (f d)) A).tmps[k]? = A.tmps[k]?) ∧ ∀ k, k ∈ D → k < A.tmps.size → (D.foldl (fun x d => x.put (some d) (f d)) A).tmps[k]? = some (f k)
  | [], A => ⟨rfl, rfl, fun _ _ => rfl, fun _ h => nomatch h⟩
  | d :: D, A => by
    obtain ⟨h1, h2, h3, h4⟩ := foldl_puts f D (A.put (some d) (f d))
    refine ⟨h1, by simpa [Act.put] using h2, fun k hk => ?_, fun k hk hs => ?_⟩
    · rw [List.mem_cons, not_or] at hk
      show (D.foldl _ (A.put (some d) (f d))).tmps[k]? = _
      rw [h3 k hk.2]
      simp only [Act.put, Array.getElem?_setIfInBounds]
      rw [if_neg (fun e => hk.1 e.symm)]
    · show (D.foldl _ (A.put (some d) (f d))).tmps[k]? = _
      by_cases hm : k ∈ D
      · exact h4 k hm (by simpa [Act.put] using hs)
      · rw [h3 k hm]
        rcases List.mem_cons.1 hk with rfl | h
        · exact put_at _ hs
        · exact absurd h hm
/-- a frame out of what is known of its slots -/
theorem OffOf.rebuild {D : List Nat} {A a : Act} (h : OffOf D A a) (f : Nat → Value) (hf : ∀ d ∈ D, a.tmps[d]? = some (f d)) : a = D.foldl (fun x d => x.put (some d) (f d)) A := by
  obtain ⟨h1, h2, h3, h4⟩ := foldl_puts f D A
  have ht : a.tmps = (D.foldl (fun x d => x.put (some d) (f d)) A).tmps := by
    refine Array.ext_getElem? fun k => ?_
    by_cases hk : k ∈ D
    · have hs : k < a.tmps.size := (Array.getElem?_eq_some_iff.1 (hf k hk)).1
      rw [hf k hk, h4 k hk (by have := h.size; omega)]
    · rw [h.off k hk, h3 k hk]
  cases a
  cases hb : D.foldl (fun x d => x.put (some d) (f d)) A
  rw [hb] at ht h1
  simp at ht h1
  have := h.defers
  simp at this
  rw [ht, this, h1]
theorem Row.fresh (w : World) (v0 v1 v2 : Value) (T : TypeId) (G : Nat → Value) : Row w.heap.size 3 0 G (w.alloc (.cells #[v0, v1, v2] T)) := by
  have k : ∀ j, j < 3 → j = 0 ∨ j = 1 ∨ j = 2 := by omega
  refine ⟨fun j hj => absurd hj (by omega), fun j hj => ?_, fun j hj => ?_, by simp⟩ <;> rcases k j hj with rfl | rfl | rfl <;> simp [go_sem]
theorem Row.other {g g' m i : Nat} {G : Nat → Value} {w : World} (h : Row g m i G w) (hne : g ≠ g') (o : Nat) (v : Value) : Row g m i G (w.setCell ⟨g', o, none⟩ v) :=
  ⟨fun j hj => (World.cell?_setCell_other w ⟨g', o, none⟩ ⟨g, j, none⟩ v (fun e => hne (congrArg Addr.block e).symm)).trans (h.cell j hj),
   fun j hj => (h.ex j hj).imp fun u hu => (World.cell?_setCell_other w ⟨g', o, none⟩ ⟨g, j, none⟩ v (fun e => hne (congrArg Addr.block e).symm)).trans hu,
   fun j hj => by simpa [go_sem] using h.frz j hj, by simpa using h.lt⟩
end Go.Proofs.Ytkjjoclbjkpdaaa
