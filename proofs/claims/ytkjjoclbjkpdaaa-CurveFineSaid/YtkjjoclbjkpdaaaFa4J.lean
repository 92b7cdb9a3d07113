/- Proved here: every piece of an arc of cncmill is settled after 16 halvings; no program in sight. -/
import Derived.Test.YtkjjoclbjkpdaaaFa3J
import Derived.Test.YtkjjoclbjkpdaaaPh1J
namespace Go.Proofs.Ytkjjoclbjkpdaaa
open Go.RowKit
set_option linter.unusedVariables false
set_option linter.unusedSimpArgs false
theorem Pc.ds_le {lo hi hl hh dir : Int} {a b : Spk} (h : Pc lo hi hl hh dir a b) (hD : 0 < dt a b) : ds a b ≤ 2 * ((lo + 65) * (lo + 65)) := by
  obtain ⟨za, zb, zc, zd⟩ := h.ga.sz h.bn h.hh'
  obtain ⟨ya, yb, yc, yd⟩ := h.gb.sz h.bn h.hh'
  have eS : ds a b = nn a + nn b - 2 * dt a b := by unfold ds nn dt; grind
  omega
theorem fin2 {lo hi hl hh dir : Int} {k : Nat} {a b : Spk} (h : Pc lo hi hl hh dir a b) (d1 : a.r - b.r ≤ 32) (d2 : b.r - a.r ≤ 32) (hX : 11 * lo ≤ crs a b * dir) (hT : 2 * ((lo + 65) * (lo + 65)) ≤ tk lo k) : Chn dir a (pcs dir (k + 1) false a b) := by
  refine chn_cut fun _ => ?_
  obtain ⟨c1, e1, c2, e2⟩ := h.step.2 hX
  have hP := h.mid false
  have mr : (mdS dir false a b).r = (a.r + b.r + 1) / 2 := rfl
  exact ⟨acute_fin k _ _ hP.1 (by omega) (by omega) e1 c1 (Int.le_trans (hP.1.ds_le e1) hT), acute_fin k _ _ hP.2 (by omega) (by omega) e2 c2 (Int.le_trans (hP.2.ds_le e2) hT)⟩
theorem fin1 {lo hi hl hh dir : Int} {k : Nat} {a b : Spk} (h : Pc lo hi hl hh dir a b) (hD : dt a b ≤ 0) (hT : 2 * ((lo + 65) * (lo + 65)) ≤ tk lo k) : Chn dir a (pcs dir (k + 2) false a b) := by
  refine chn_cut fun _ => ?_
  obtain ⟨c1, c2⟩ := h.step.1 hD
  have hP := h.mid false
  have mr : (mdS dir false a b).r = (a.r + b.r + 1) / 2 := rfl
  have hh' := h.hh'
  have ga0 := h.ga.r0
  have ga1 := h.ga.r1
  have gb0 := h.gb.r0
  have gb1 := h.gb.r1
  exact ⟨fin2 hP.1 (by omega) (by omega) c1 hT, fin2 hP.2 (by omega) (by omega) c2 hT⟩
theorem finF {lo hi hl hh dir : Int} {k : Nat} {a b : Spk} (h : Pc lo hi hl hh dir a b) (hu : a.u = b.u) (hw : a.w = b.w) (hT : 2 * ((lo + 65) * (lo + 65)) ≤ tk lo k) : Chn dir a (pcs dir (k + 3) true a b) ∧ 4 ≤ (pcs dir (k + 3) true a b).length := by
  obtain ⟨e1, e2⟩ := h.stepF hu hw
  have hP := h.mid true
  have es : pcs dir (k + 3) true a b = pcs dir (k + 2) false a (mdS dir true a b) ++ pcs dir (k + 2) false (mdS dir true a b) b := rfl
  rw [es]
  refine ⟨(fin1 hP.1 e1 hT).append (pcs_last dir _ false a _) (fin1 hP.2 e2 hT), ?_⟩
  have two : ∀ {x y : Spk}, Pc lo hi hl hh dir x y → dt x y ≤ 0 → 2 ≤ (pcs dir (k + 2) false x y).length := by
    intro x y hp hd
    have b0 := hp.bn.lo
    have hh' := hp.hh'
    have g1 := hp.ga.r1
    obtain ⟨za, zb, zc, zd⟩ := hp.ga.sz hp.bn hp.hh'
    obtain ⟨ya, yb, yc, yd⟩ := hp.gb.sz hp.bn hp.hh'
    have eS : ds x y = nn x + nn y - 2 * dt x y := by unfold ds nn dt; grind
    have hl2 : 128 * lo ≤ lo * lo := Int.mul_le_mul_of_nonneg_right b0 (by omega)
    have e3 : (lo - 1) * (lo - 1) = lo * lo - 2 * lo + 1 := by grind
    have hs : stl dir false x y = false := by
      cases hh2 : stl dir false x y with
      | false => rfl
      | true =>
        exfalso
        unfold stl at hh2
        simp only [Bool.not_false, Bool.true_and, Bool.and_eq_true, decide_eq_true_eq] at hh2
        have : ds x y ≤ 8 * min x.r y.r * 4 - 64 := hh2.2
        omega
    unfold pcs
    rw [hs]
    have l1 := pcs_len dir (k + 1) false x (mdS dir false x y)
    have l2 := pcs_len dir (k + 1) false (mdS dir false x y) y
    simp only [Bool.false_eq_true, if_false, List.length_append]
    omega
  have := two hP.1 e1
  have := two hP.2 e2
  rw [List.length_append]
  omega
theorem tk_big {lo : Int} (h0 : 128 ≤ lo) (h1 : lo ≤ 400000) : ∀ j : Nat, 2 * ((lo + 65) * (lo + 65)) ≤ tk lo (13 + j) := by
  intro j
  have h2 : lo * lo ≤ 400000 * lo := Int.mul_le_mul_of_nonneg_right h1 (by omega)
  have e : (lo + 65) * (lo + 65) = lo * lo + 130 * lo + 4225 := by grind
  have hp : (1594323 : Int) ≤ 3 ^ (13 + j) := by
    rw [Int.pow_add]
    have : (1 : Int) ≤ 3 ^ j := by
      induction j with
      | zero => decide
      | succ j ih => rw [Int.pow_succ]; omega
    have e3 : (3 : Int) ^ 13 = 1594323 := by decide
    rw [e3]
    omega
  have := Int.mul_le_mul_of_nonneg_right hp (show 0 ≤ 12 * lo by omega)
  unfold tk
  omega
theorem tu_dot (r s k q : Int) (hr : 0 ≤ r) (hs : 0 ≤ s) (hq : q = 1 ∨ q = 2 ∨ q = 3) : tuX r k * tuX s (k + q) + tuY r k * tuY s (k + q) ≤ 0 := by
  have hp : 0 ≤ r * s := Int.mul_nonneg hr hs
  have h : k % 4 = 0 ∨ k % 4 = 1 ∨ k % 4 = 2 ∨ k % 4 = 3 := by omega
  unfold tuX tuY
  rcases hq with rfl | rfl | rfl <;> rcases h with h | h | h | h
  all_goals
    have h4 : (k + 1) % 4 = (k % 4 + 1) % 4 := by omega
    have h5 : (k + 2) % 4 = (k % 4 + 2) % 4 := by omega
    have h6 : (k + 3) % 4 = (k % 4 + 3) % 4 := by omega
    simp [h, h4, h5, h6, Int.mul_neg, Int.neg_mul] <;> omega
theorem Chn.at {dir : Int} : ∀ {a : Spk} {l : List Spk}, Chn dir a l → ∀ (i : Nat) (h : i < l.length), stl dir false ((a :: l)[i]'(by simp; omega)) l[i] = true
  | a, b :: l, h, 0, hi => h.1
  | a, b :: l, h, i + 1, hi => Chn.at (l := l) h.2 i (by simpa using hi)
theorem fine_facts {t : Itm} {m r s k q : Int} (hM : t.Made m r s k q) (hm : m ≤ 24000) : Chn t.dir t.A (pcs t.dir 16 t.full t.A t.B) ∧ (t.full = true → 4 ≤ (pcs t.dir 16 t.full t.A t.B).length) := by
  have hA := hM.arc (by omega)
  have ga := hA.ga
  have gb := hA.gb
  have bn := hA.bnd
  have r0 := hM.r0
  have r1 := hM.r1
  have s0 := hM.s0
  have s1 := hM.s1
  have eA : t.A.r = r * 16 := by
    show rad (t.aU * 16 * (t.aU * 16) + t.aW * 16 * (t.aW * 16)) = _
    rw [show t.aU * 16 * (t.aU * 16) + t.aW * 16 * (t.aW * 16) = (t.aU * t.aU + t.aW * t.aW) * 256 by grind, hM.x, show r * r * 256 = r * 16 * (r * 16) by grind]
    exact rad_sq r (by omega) (by omega)
  have eB : t.B.r = s * 16 := by
    show rad (t.bU * 16 * (t.bU * 16) + t.bW * 16 * (t.bW * 16)) = _
    rw [show t.bU * 16 * (t.bU * 16) + t.bW * 16 * (t.bW * 16) = (t.bU * t.bU + t.bW * t.bW) * 256 by grind, hM.y, show s * s * 256 = s * 16 * (s * 16) by grind]
    exact rad_sq s (by omega) (by omega)
  have h : Pc (r * 16) (r * 16 + 64) (-33554432) 33554432 t.dir t.A t.B :=
    ⟨⟨by omega, by omega, by omega, by omega⟩, hM.dir, ⟨by omega, by omega, ga.h0, ga.h1, ga.n0, ga.n1⟩, ⟨by omega, by omega, gb.h0, gb.h1, gb.n0, gb.n1⟩, Int.le_refl _⟩
  by_cases hq : q = 0
  · have hf : t.full = true := by rw [hM.full, hq]; rfl
    have hs := hM.same hq
    have e1 : t.A.u = t.B.u := by
      show t.aU * 16 = t.bU * 16
      rw [hM.aU, hM.bU, hq, hs, Int.add_zero]
    have e2 : t.A.w = t.B.w := by
      show t.aW * 16 = t.bW * 16
      rw [hM.aW, hM.bW, hq, hs, Int.add_zero]
    rw [hf]
    have := finF (k := 13) h e1 e2 (tk_big (by omega) (by omega) 0)
    exact ⟨this.1, fun _ => this.2⟩
  · have hf : t.full = false := by rw [hM.full]; simp [hq]
    rw [hf]
    refine ⟨fin1 (k := 14) h ?_ (tk_big (by omega) (by omega) 1), fun e => nomatch e⟩
    have hd := tu_dot r s k q (by omega) (by omega) (by have := hM.q0; have := hM.q1; omega)
    rw [← hM.aU, ← hM.aW, ← hM.bU, ← hM.bW] at hd
    show t.aU * 16 * (t.bU * 16) + t.aW * 16 * (t.bW * 16) ≤ 0
    have e : t.aU * 16 * (t.bU * 16) + t.aW * 16 * (t.bW * 16) = 256 * (t.aU * t.bU + t.aW * t.bW) := by grind
    omega
/-- every two neighbours among the spokes of an arc of cncmill -/
theorem fine_at {t : Itm} {m r s k q : Int} (hM : t.Made m r s k q) (hm : m ≤ 24000) : (t.full = true → 4 ≤ t.spokes.length) ∧ ∀ i, 1 ≤ i → i < t.spokes.length →
    0 < (spF t.spokes (i - 1) 0 * spF t.spokes i 1 - spF t.spokes (i - 1) 1 * spF t.spokes i 0) * t.dir ∧
    (spF t.spokes (i - 1) 0 - spF t.spokes i 0) * (spF t.spokes (i - 1) 0 - spF t.spokes i 0) + (spF t.spokes (i - 1) 1 - spF t.spokes i 1) * (spF t.spokes (i - 1) 1 - spF t.spokes i 1) ≤ 8 * min (spF t.spokes (i - 1) 2) (spF t.spokes i 2) * 4 - 64 := by
  obtain ⟨hC, hL⟩ := fine_facts hM hm
  refine ⟨fun e => ?_, fun i h1 h2 => ?_⟩
  · have := hL e
    unfold Itm.spokes
    rw [List.length_cons]
    omega
  · have h3 : i - 1 < t.spokes.length := by omega
    rw [spF_get h2, spF_get h2, spF_get h2, spF_get h3, spF_get h3, spF_get h3]
    obtain ⟨j, rfl⟩ : ∃ j, i = j + 1 := ⟨i - 1, by omega⟩
    have hj : j < (pcs t.dir 16 t.full t.A t.B).length := by unfold Itm.spokes at h2; simpa using h2
    have := hC.at j hj
    unfold stl at this
    simp only [Bool.not_false, Bool.true_and, Bool.and_eq_true, decide_eq_true_eq] at this
    exact this
end Go.Proofs.Ytkjjoclbjkpdaaa
