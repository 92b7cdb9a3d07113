/- Proved here: every piece of an arc whose ends do not lie within a quarter turn is settled after 16 halvings; no program in sight. -/
import Derived.Test.YtkjjoclbjkpdaaaFa2J
namespace Go.Proofs.Ytkjjoclbjkpdaaa
open Go.RowKit
set_option linter.unusedVariables false
set_option linter.unusedSimpArgs false
theorem lo_sq {lo : Int} (h : 128 ≤ lo) : 11 * lo ≤ (lo - 1) * (lo - 1) := by
  have h2 : 128 * lo ≤ lo * lo := Int.mul_le_mul_of_nonneg_right h (by omega)
  have e : (lo - 1) * (lo - 1) = lo * lo - 2 * lo + 1 := by grind
  omega
theorem Pc.step {lo hi hl hh dir : Int} {a b : Spk} (h : Pc lo hi hl hh dir a b) :
    (dt a b ≤ 0 → 11 * lo ≤ crs a (mdS dir false a b) * dir ∧ 11 * lo ≤ crs (mdS dir false a b) b * dir) ∧
    (11 * lo ≤ crs a b * dir → 0 < crs a (mdS dir false a b) * dir ∧ 0 < dt a (mdS dir false a b) ∧ 0 < crs (mdS dir false a b) b * dir ∧ 0 < dt (mdS dir false a b) b) := by
  have b0 := h.bn.lo
  have b1 := h.bn.hi
  have sa := h.ga.sp h.bn
  have sb := h.gb.sp h.bn
  obtain ⟨a1, a2, a3, a4, -, -, -, -⟩ := sa
  obtain ⟨b1', b2, b3, b4, -, -, -, -⟩ := sb
  obtain ⟨za, zb, zc, zd⟩ := h.ga.sz h.bn h.hh'
  obtain ⟨ya, yb, yc, yd⟩ := h.gb.sz h.bn h.hh'
  have hls := lo_sq b0
  have eS : ds a b = nn a + nn b - 2 * dt a b := by unfold ds nn dt; grind
  have eP : (a.u + b.u) * (a.u + b.u) + (a.w + b.w) * (a.w + b.w) = nn a + nn b + 2 * dt a b := by unfold nn dt; grind
  have qS : 0 ≤ ds a b := by unfold ds; have := sq_nn (a.u - b.u); have := sq_nn (a.w - b.w); omega
  have qP : 0 ≤ (a.u + b.u) * (a.u + b.u) + (a.w + b.w) * (a.w + b.w) := by have := sq_nn (a.u + b.u); have := sq_nn (a.w + b.w); omega
  by_cases hD : dt a b ≤ 0
  · have hD2 : a.u * b.u + a.w * b.w ≤ 0 := hD
    have hu : mdU a.u a.w b.u b.w dir false = dir * (b.w - a.w) := by unfold mdU; rw [if_neg (by decide), if_pos hD2]
    have hw : mdW a.u a.w b.u b.w dir false = dir * (a.u - b.u) := by unfold mdW; rw [if_neg (by decide), if_pos hD2]
    have eN : dir * (b.w - a.w) * (dir * (b.w - a.w)) + dir * (a.u - b.u) * (dir * (a.u - b.u)) = ds a b := by unfold ds; rcases h.hd with rfl | rfl <;> grind
    have K := h.along (mdS dir false a b) (dir * (b.w - a.w)) (dir * (a.u - b.u)) (by omega) (by rcases h.hd with rfl | rfl <;> omega) (by rcases h.hd with rfl | rfl <;> omega) (by omega) (by unfold mdS; rw [hu, hw]) (by unfold mdS; rw [hu, hw])
    generalize mdS dir false a b = m at *
    have e1 : a.u * dir * m.w - a.w * dir * m.u = crs a m * dir := by unfold crs; grind
    have e2 : -b.u * dir * m.w - -b.w * dir * m.u = crs m b * dir := by unfold crs; grind
    have e3 : a.w * m.w - -a.u * m.u = dt a m := by unfold dt; grind
    have e4 : b.w * m.w - -b.u * m.u = dt m b := by unfold dt; grind
    have f1 : a.u * dir * (dir * (a.u - b.u)) - a.w * dir * (dir * (b.w - a.w)) = nn a - dt a b := by unfold nn dt; rcases h.hd with rfl | rfl <;> grind
    have f2 : -b.u * dir * (dir * (a.u - b.u)) - -b.w * dir * (dir * (b.w - a.w)) = nn b - dt a b := by unfold nn dt; rcases h.hd with rfl | rfl <;> grind
    have f3 : a.w * (dir * (a.u - b.u)) - -a.u * (dir * (b.w - a.w)) = crs a b * dir := by unfold crs; grind
    have f4 : b.w * (dir * (a.u - b.u)) - -b.u * (dir * (b.w - a.w)) = crs a b * dir := by unfold crs; grind
    have k1 := K (a.u * dir) (a.w * dir) (by rcases h.hd with rfl | rfl <;> omega) (by rcases h.hd with rfl | rfl <;> omega)
    have k2 := K (-b.u * dir) (-b.w * dir) (by rcases h.hd with rfl | rfl <;> omega) (by rcases h.hd with rfl | rfl <;> omega)
    have k3 := K a.w (-a.u) (by omega) (by omega)
    have k4 := K b.w (-b.u) (by omega) (by omega)
    rw [e1, f1] at k1
    rw [e2, f2] at k2
    rw [e3, f3] at k3
    rw [e4, f4] at k4
    exact ⟨fun _ => ⟨k1.2 (by omega), k2.2 (by omega)⟩, fun hX => ⟨k1.1 (by omega), k3.1 hX, k2.1 (by omega), k4.1 hX⟩⟩
  · refine ⟨fun g => absurd g hD, fun hX => ?_⟩
    have hD2 : ¬ a.u * b.u + a.w * b.w ≤ 0 := hD
    have hX' : ¬ (a.u * b.w - a.w * b.u) * dir ≤ 0 := by unfold crs at hX; omega
    have hu : mdU a.u a.w b.u b.w dir false = a.u + b.u := by unfold mdU; rw [if_neg (by decide), if_neg hD2, if_neg hX']
    have hw : mdW a.u a.w b.u b.w dir false = a.w + b.w := by unfold mdW; rw [if_neg (by decide), if_neg hD2, if_neg hX']
    have K := h.along (mdS dir false a b) (a.u + b.u) (a.w + b.w) (by omega) (by omega) (by omega) (by omega) (by unfold mdS; rw [hu, hw]) (by unfold mdS; rw [hu, hw])
    generalize mdS dir false a b = m at *
    have e1 : a.u * dir * m.w - a.w * dir * m.u = crs a m * dir := by unfold crs; grind
    have e2 : -b.u * dir * m.w - -b.w * dir * m.u = crs m b * dir := by unfold crs; grind
    have e3 : a.w * m.w - -a.u * m.u = dt a m := by unfold dt; grind
    have e4 : b.w * m.w - -b.u * m.u = dt m b := by unfold dt; grind
    have f1 : a.u * dir * (a.w + b.w) - a.w * dir * (a.u + b.u) = crs a b * dir := by unfold crs; grind
    have f2 : -b.u * dir * (a.w + b.w) - -b.w * dir * (a.u + b.u) = crs a b * dir := by unfold crs; grind
    have f3 : a.w * (a.w + b.w) - -a.u * (a.u + b.u) = nn a + dt a b := by unfold nn dt; grind
    have f4 : b.w * (a.w + b.w) - -b.u * (a.u + b.u) = nn b + dt a b := by unfold nn dt; grind
    have k1 := K (a.u * dir) (a.w * dir) (by rcases h.hd with rfl | rfl <;> omega) (by rcases h.hd with rfl | rfl <;> omega)
    have k2 := K (-b.u * dir) (-b.w * dir) (by rcases h.hd with rfl | rfl <;> omega) (by rcases h.hd with rfl | rfl <;> omega)
    have k3 := K a.w (-a.u) (by omega) (by omega)
    have k4 := K b.w (-b.u) (by omega) (by omega)
    rw [e1, f1] at k1
    rw [e2, f2] at k2
    rw [e3, f3] at k3
    rw [e4, f4] at k4
    exact ⟨k1.1 hX, k3.1 (by omega), k2.1 hX, k4.1 (by omega)⟩
/-- a full circle: the middle lies opposite -/
theorem Pc.stepF {lo hi hl hh dir : Int} {a b : Spk} (h : Pc lo hi hl hh dir a b) (hu : a.u = b.u) (hw : a.w = b.w) : dt a (mdS dir true a b) ≤ 0 ∧ dt (mdS dir true a b) b ≤ 0 := by
  have b0 := h.bn.lo
  have b1 := h.bn.hi
  have sa := h.ga.sp h.bn
  obtain ⟨a1, a2, a3, a4, -, -, -, -⟩ := sa
  obtain ⟨za, zb, zc, zd⟩ := h.ga.sz h.bn h.hh'
  have hls := lo_sq b0
  have eN : -a.u * -a.u + -a.w * -a.w = nn a := by unfold nn; grind
  have eu : mdU a.u a.w b.u b.w dir true = -a.u := rfl
  have ew : mdW a.u a.w b.u b.w dir true = -a.w := rfl
  have K := h.along (mdS dir true a b) (-a.u) (-a.w) (by omega) (by omega) (by omega) (by omega) (by unfold mdS; rw [eu, ew]) (by unfold mdS; rw [eu, ew])
  generalize mdS dir true a b = m at *
  have k3 := K (-a.w) a.u (by omega) (by omega)
  have e3 : -a.w * m.w - a.u * m.u = -dt a m := by unfold dt; grind
  have f3 : -a.w * -a.w - a.u * -a.u = nn a := by unfold nn; grind
  have e4 : dt m b = dt a m := by unfold dt; rw [← hu, ← hw]; grind
  rw [e3, f3] at k3
  have := k3.1 (by omega)
  exact ⟨by omega, by omega⟩
/-- every two neighbours are settled -/
def Chn (dir : Int) : Spk → List Spk → Prop
  | _, [] => True
  | a, b :: l => stl dir false a b = true ∧ Chn dir b l
theorem Chn.append {dir : Int} : ∀ {a m : Spk} {l1 l2 : List Spk}, Chn dir a l1 → l1.getLast? = some m → Chn dir m l2 → Chn dir a (l1 ++ l2)
  | a, m, [b], l2, h, e, k => by
    have : b = m := by simpa using e
    subst this
    exact ⟨h.1, k⟩
  | a, m, b :: c :: l, l2, h, e, k => ⟨h.1, Chn.append (l1 := c :: l) h.2 (by rw [List.getLast?_cons_cons] at e; exact e) k⟩
theorem chn_cut {dir : Int} {k : Nat} {a b : Spk} (h1 : stl dir false a b = false → Chn dir a (pcs dir k false a (mdS dir false a b)) ∧ Chn dir (mdS dir false a b) (pcs dir k false (mdS dir false a b) b)) : Chn dir a (pcs dir (k + 1) false a b) := by
  unfold pcs
  split
  · rename_i hs; exact ⟨hs, trivial⟩
  · rename_i hs
    obtain ⟨h2, h3⟩ := h1 (by simpa using hs)
    exact h2.append (pcs_last dir k false a _) h3
/-- how long an acute piece may be that k halvings settle -/
def tk (lo : Int) (k : Nat) : Int := 3 ^ k * (12 * lo) + (12 * lo + 843)
theorem acute_fin {lo hi hl hh dir : Int} : ∀ (k : Nat) (a b : Spk), Pc lo hi hl hh dir a b → a.r - b.r ≤ 16 → b.r - a.r ≤ 16 → 0 < dt a b → 0 < crs a b * dir → ds a b ≤ tk lo k → Chn dir a (pcs dir k false a b)
  | 0, a, b, h, d1, d2, hD, hX, hT => by
    have b0 := h.bn.lo
    have ga0 := h.ga.r0
    have gb0 := h.gb.r0
    refine ⟨?_, trivial⟩
    have e : tk lo 0 = 24 * lo + 843 := by unfold tk; omega
    unfold stl
    simp only [Bool.not_false, Bool.true_and, Bool.and_eq_true, decide_eq_true_eq]
    exact ⟨hX, by show ds a b ≤ _; omega⟩
  | k + 1, a, b, h, d1, d2, hD, hX, hT => by
    refine chn_cut fun hs => ?_
    have b0 := h.bn.lo
    have b1 := h.bn.hi
    have ga0 := h.ga.r0
    have gb0 := h.gb.r0
    have ga1 := h.ga.r1
    have gb1 := h.gb.r1
    have hh1 := h.hh'
    have sa := h.ga.sp h.bn
    have sb := h.gb.sp h.bn
    have ra := h.ga.rd h.bn
    have rb := h.gb.rd h.bn
    have hS : 32 * min a.r b.r - 64 < (a.u - b.u) * (a.u - b.u) + (a.w - b.w) * (a.w - b.w) := by
      refine Classical.byContradiction fun hc => ?_
      have : stl dir false a b = true := by
        unfold stl
        simp only [Bool.not_false, Bool.true_and, Bool.and_eq_true, decide_eq_true_eq]
        exact ⟨hX, by omega⟩
      rw [hs] at this
      cases this
    have hm := mdS_gd false h.ga h.gb h.bn h.hd
    have hP := h.mid false
    have mr : (mdS dir false a b).r = (a.r + b.r + 1) / 2 := rfl
    have hMid : Mid a.u a.w a.r a.h b.u b.w b.r b.h dir false (mdS dir false a b).u (mdS dir false a b).w (mdS dir false a b).r (mdS dir false a b).h true :=
      ⟨(fun e => nomatch e), fun _ => ⟨rfl, rfl, rfl, rfl⟩, ⟨fun _ => ⟨h.hd, md_ne false h.ga h.gb h.bn h.hd⟩, fun _ => rfl⟩⟩
    have hc : 0 < crs a (mdS dir false a b) * dir ∧ 0 < crs (mdS dir false a b) b * dir := by
      rcases h.hd with rfl | rfl
      · have := between_p a.u a.w a.r a.h b.u b.w b.r b.h _ _ _ _ true sa sb ra rb d1 d2 (by unfold crs at hX; omega) hS hMid
        unfold crs
        omega
      · have := between_m a.u a.w a.r a.h b.u b.w b.r b.h _ _ _ _ true sa sb ra rb d1 d2 (by unfold crs at hX; omega) hS hMid
        unfold crs
        omega
    have hD' : ¬ a.u * b.u + a.w * b.w ≤ 0 := by unfold dt at hD; omega
    have hX' : ¬ (a.u * b.w - a.w * b.u) * dir ≤ 0 := by unfold crs at hX; omega
    have hu : mdU a.u a.w b.u b.w dir false = a.u + b.u := by unfold mdU; rw [if_neg (by decide), if_neg hD', if_neg hX']
    have hw : mdW a.u a.w b.u b.w dir false = a.w + b.w := by unfold mdW; rw [if_neg (by decide), if_neg hD', if_neg hX']
    have eu : (mdS dir false a b).u = nrI (a.u + b.u) ((a.r + b.r + 1) / 2) ((a.u + b.u) * (a.u + b.u) + (a.w + b.w) * (a.w + b.w)) := by unfold mdS; rw [hu, hw]
    have ew : (mdS dir false a b).w = nrI (a.w + b.w) ((a.r + b.r + 1) / 2) ((a.u + b.u) * (a.u + b.u) + (a.w + b.w) * (a.w + b.w)) := by unfold mdS; rw [hu, hw]
    have hn1 := hm.n1
    have hn0 := hm.n0
    have hr0 := hm.r0
    rw [mr] at hn1 hn0 hr0
    have A1 := half_acute a.u a.w b.u b.w a.r b.r ra rb d1 d2 (by omega) (by omega) ⟨sa.u1, sa.u2⟩ ⟨sa.w1, sa.w2⟩ ⟨sb.u1, sb.u2⟩ ⟨sb.w1, sb.w2⟩ (by unfold dt at hD; omega) _ _ _ rfl eu ew hn1
    have A2 := half_acute b.u b.w a.u a.w b.r a.r rb ra d2 d1 (by omega) (by omega) ⟨sb.u1, sb.u2⟩ ⟨sb.w1, sb.w2⟩ ⟨sa.u1, sa.u2⟩ ⟨sa.w1, sa.w2⟩ (by unfold dt at hD; rw [Int.mul_comm b.u, Int.mul_comm b.w]; omega) ((a.r + b.r + 1) / 2) _ _ (by rw [Int.add_comm b.r]) (by rw [Int.add_comm b.u, Int.add_comm b.w]; exact eu) (by rw [Int.add_comm b.u, Int.add_comm b.w]; exact ew) hn1
    obtain ⟨za, zb, zc, zd⟩ := h.ga.sz h.bn h.hh'
    obtain ⟨ya, yb, yc, yd⟩ := h.gb.sz h.bn h.hh'
    obtain ⟨xa, xb, xc, xd⟩ := hm.sz h.bn h.hh'
    generalize mdS dir false a b = m at *
    have e1 : (b.u - m.u) * (b.u - m.u) + (b.w - m.w) * (b.w - m.w) = ds m b := by unfold ds; grind
    have e2 : (b.u - a.u) * (b.u - a.u) + (b.w - a.w) * (b.w - a.w) = ds a b := by unfold ds; grind
    have g1 : 3 * ds a m ≤ ds a b + 3 * (8 * ((a.r + b.r + 1) / 2) + 50) := A1
    have g2 : 3 * ds m b ≤ ds a b + 3 * (8 * ((a.r + b.r + 1) / 2) + 50) := by rw [← e1, ← e2]; exact A2
    have et : tk lo (k + 1) + 3 * (8 * lo + 562) = 3 * tk lo k := by unfold tk; rw [Int.pow_succ]; grind
    have eS : ds a b = nn a + nn b - 2 * dt a b := by unfold ds nn dt; grind
    have eA : ds a m = nn a + nn m - 2 * dt a m := by unfold ds nn dt; grind
    have eB : ds m b = nn m + nn b - 2 * dt m b := by unfold ds nn dt; grind
    have hl2 : 128 * lo ≤ lo * lo := Int.mul_le_mul_of_nonneg_right b0 (by omega)
    have e3 : (lo - 1) * (lo - 1) = lo * lo - 2 * lo + 1 := by grind
    have nm : nn m = m.u * m.u + m.w * m.w := rfl
    -- na, nb, nm differ by little
    have da : nn a ≤ nn m + 39 * lo + 5000 := by
      have := h.ga.n1
      have m1 := sq_le_of (x := a.r + 1) (m := (a.r + b.r + 1) / 2 + 9) (by omega) (by omega)
      have e4 : ((a.r + b.r + 1) / 2 + 9) * ((a.r + b.r + 1) / 2 + 9) - ((a.r + b.r + 1) / 2 - 1) * ((a.r + b.r + 1) / 2 - 1) = 20 * ((a.r + b.r + 1) / 2) + 80 := by generalize (a.r + b.r + 1) / 2 = R; grind
      show a.u * a.u + a.w * a.w ≤ _
      omega
    have db : nn b ≤ nn m + 39 * lo + 5000 := by
      have := h.gb.n1
      have m1 := sq_le_of (x := b.r + 1) (m := (a.r + b.r + 1) / 2 + 9) (by omega) (by omega)
      have e4 : ((a.r + b.r + 1) / 2 + 9) * ((a.r + b.r + 1) / 2 + 9) - ((a.r + b.r + 1) / 2 - 1) * ((a.r + b.r + 1) / 2 - 1) = 20 * ((a.r + b.r + 1) / 2) + 80 := by generalize (a.r + b.r + 1) / 2 = R; grind
      show b.u * b.u + b.w * b.w ≤ _
      omega
    exact ⟨acute_fin k a m hP.1 (by omega) (by omega) (by omega) hc.1 (by omega), acute_fin k m b hP.2 (by omega) (by omega) (by omega) hc.2 (by omega)⟩
end Go.Proofs.Ytkjjoclbjkpdaaa
