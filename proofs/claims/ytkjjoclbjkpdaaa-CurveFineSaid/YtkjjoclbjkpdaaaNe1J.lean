/- Proved here: arcs with ends on the axes meet all conditions; no program in sight. -/
import Derived.Test.YtkjjoclbjkpdaaaNd2J
namespace Go.Proofs.Ytkjjoclbjkpdaaa
open Go.RowKit
set_option linter.unusedVariables false
set_option linter.unusedSimpArgs false
/-- an arc as cncmill makes it -/
structure Itm.Made (t : Itm) (m : Int) (r s k q : Int) : Prop where
  kind : t.kind = 3
  dir : t.dir = 1 ∨ t.dir = -1
  pos : t.Pos
  r0 : 8 ≤ r
  r1 : r ≤ m
  s0 : r ≤ s
  s1 : s ≤ r + 4
  k0 : 0 ≤ k
  k1 : k ≤ 3
  q0 : 0 ≤ q
  q1 : q ≤ 3
  same : q = 0 → s = r
  full : t.full = decide (q = 0)
  aU : t.aU = tuX r k
  aW : t.aW = tuY r k
  bU : t.bU = tuX s (k + q)
  bW : t.bW = tuY s (k + q)
theorem tu_sq (r k : Int) (h0 : 0 ≤ k) : tuX r k * tuX r k + tuY r k * tuY r k = r * r := by
  unfold tuX tuY
  have : k % 4 = 0 ∨ k % 4 = 1 ∨ k % 4 = 2 ∨ k % 4 = 3 := by omega
  rcases this with h | h | h | h <;> simp [h, Int.neg_mul_neg]
theorem rad_sq (r : Int) (h0 : 0 ≤ r) (h1 : r ≤ 1000000) : rad (r * 16 * (r * 16)) = r * 16 := by
  obtain ⟨n, rfl⟩ := Int.eq_ofNat_of_zero_le h0
  have e : ((n : Int) * 16 * ((n : Int) * 16)) = ((n * 16 * (n * 16) : Nat) : Int) := by rw [Int.natCast_mul, Int.natCast_mul]; rfl
  have hb : n * 16 ≤ 16000000 := by omega
  have hb2 := Nat.mul_le_mul hb hb
  rw [e, rad_near _ (by omega)]
  have s := rtN_spec (n * 16 * (n * 16)) (by omega)
  have hr : rtN (n * 16 * (n * 16)) = n * 16 := by
    generalize n * 16 = m at *
    have h1 : rtN (m * m) ≤ m := Nat.le_of_not_lt fun hc => by have := Nat.mul_lt_mul_of_lt_of_lt hc hc; omega
    have h2 : m ≤ rtN (m * m) := Nat.le_of_not_lt fun hc => by have := sq_mono (show rtN (m * m) + 1 ≤ m from hc); omega
    omega
  rw [hr, if_neg (by have : n * 16 * (n * 16 + 1) = n * 16 * (n * 16) + n * 16 := Nat.mul_succ _ _
                     omega)]
  omega
theorem Itm.Made.x {t : Itm} {m r s k q : Int} (h : t.Made m r s k q) : t.aU * t.aU + t.aW * t.aW = r * r := by rw [h.aU, h.aW]; exact tu_sq r k h.k0
theorem Itm.Made.y {t : Itm} {m r s k q : Int} (h : t.Made m r s k q) : t.bU * t.bU + t.bW * t.bW = s * s := by rw [h.bU, h.bW]; exact tu_sq s (k + q) (by have := h.k0; have := h.q0; omega)
theorem sq_ge {r : Int} (h : 8 ≤ r) : 64 ≤ r * r := Int.mul_le_mul (a := 8) (b := 8) h h (by decide) (by omega)
theorem near_made {r s : Int} (h0 : 8 ≤ r) (h1 : r ≤ s) (h2 : s ≤ r + 4) : (max (r * r) (s * s) - min (r * r) (s * s) - 16) * (max (r * r) (s * s) - min (r * r) (s * s) - 16) ≤ 64 * min (r * r) (s * s) := by
  have a : r * r ≤ s * s := Int.mul_le_mul h1 h1 (by omega) (by omega)
  have b : s * s ≤ (r + 4) * (r + 4) := Int.mul_le_mul h2 h2 (by omega) (by omega)
  rw [Int.max_eq_right a, Int.min_eq_left a]
  have c : (r + 4) * (r + 4) = r * r + 8 * r + 16 := by grind
  obtain ⟨d, hd⟩ : ∃ d, s * s - r * r - 16 = d := ⟨_, rfl⟩
  rw [hd]
  have d1 : d ≤ 8 * r := by omega
  have d2 : -(8 * r) ≤ d := by omega
  have e : (d * d).natAbs ≤ (8 * r).natAbs * (8 * r).natAbs := by rw [Int.natAbs_mul]; exact Nat.mul_le_mul (by omega) (by omega)
  have f : (8 * r) * (8 * r) = 64 * (r * r) := by grind
  have g : ((8 * r).natAbs * (8 * r).natAbs : Nat) = (8 * r * (8 * r)).natAbs := (Int.natAbs_mul _ _).symm
  rw [g, f] at e
  have := sq_nn r
  omega
theorem Itm.Made.ok {t : Itm} {m r s k q : Int} (h : t.Made m r s k q) : t.Ok := by
  have hs := h.s0
  have hr := h.r0
  refine ⟨h.pos, h.kind, h.dir, by rw [h.x]; exact sq_ge hr, by rw [h.y]; exact sq_ge (by omega), by rw [h.x, h.y]; exact near_made hr hs h.s1, fun hf => ?_, fun hf => ?_⟩
  · rw [h.full] at hf
    have hq : q = 0 := of_decide_eq_true hf
    rw [h.aU, h.aW, h.bU, h.bW, h.same hq, hq, Int.add_zero]; exact ⟨rfl, rfl⟩
  · rw [h.full] at hf
    have hq : q ≠ 0 := of_decide_eq_false hf
    rw [h.aU, h.aW, h.bU, h.bW]
    have hp : 0 < r * s := Int.mul_pos (by omega) (by omega)
    have k0 := h.k0; have k1 := h.k1; have q0 := h.q0; have q1 := h.q1
    have hk : k = 0 ∨ k = 1 ∨ k = 2 ∨ k = 3 := by omega
    have hq' : q = 1 ∨ q = 2 ∨ q = 3 := by omega
    unfold tuX tuY
    rcases hk with rfl | rfl | rfl | rfl <;> rcases hq' with rfl | rfl | rfl <;> simp [Int.mul_neg, Int.neg_mul] <;> omega
theorem Itm.Made.arc {t : Itm} {m r s k q : Int} (h : t.Made m r s k q) (hm : m ≤ 100000) : t.Arc 128 (16 * m + 64) (-33554432) 33554432 := by
  have x := h.x
  have y := h.y
  have r0 := h.r0; have r1 := h.r1; have s0 := h.s0; have s1 := h.s1
  have b := h.pos.bd
  have eA : t.aU * 16 * (t.aU * 16) + t.aW * 16 * (t.aW * 16) = r * 16 * (r * 16) := by rw [sc256, x]; grind
  have eB : t.bU * 16 * (t.bU * 16) + t.bW * 16 * (t.bW * 16) = s * 16 * (s * 16) := by rw [sc256, y]; grind
  have rA := rad_sq r (by omega) (by omega)
  have rB := rad_sq s (by omega) (by omega)
  refine ⟨h.pos, h.kind, h.dir, ⟨by omega, by omega, by omega, by omega⟩, ?_, ?_⟩
  · unfold Itm.A
    rw [eA, rA]
    refine ⟨by show 128 ≤ r * 16; omega, by show r * 16 ≤ _; omega, by show _ ≤ t.aH * 16; omega, by show t.aH * 16 ≤ _; omega, ?_, ?_⟩
    · show (r * 16 - 1) * (r * 16 - 1) ≤ t.aU * 16 * (t.aU * 16) + t.aW * 16 * (t.aW * 16)
      rw [eA]; have : (r * 16 - 1) * (r * 16 - 1) = r * 16 * (r * 16) - 32 * r + 1 := by grind
      omega
    · show t.aU * 16 * (t.aU * 16) + t.aW * 16 * (t.aW * 16) ≤ (r * 16 + 1) * (r * 16 + 1)
      rw [eA]; have : (r * 16 + 1) * (r * 16 + 1) = r * 16 * (r * 16) + 32 * r + 1 := by grind
      omega
  · unfold Itm.B
    rw [eB, rB]
    refine ⟨by show 128 ≤ s * 16; omega, by show s * 16 ≤ _; omega, by show _ ≤ t.bH * 16; omega, by show t.bH * 16 ≤ _; omega, ?_, ?_⟩
    · show (s * 16 - 1) * (s * 16 - 1) ≤ t.bU * 16 * (t.bU * 16) + t.bW * 16 * (t.bW * 16)
      rw [eB]; have : (s * 16 - 1) * (s * 16 - 1) = s * 16 * (s * 16) - 32 * s + 1 := by grind
      omega
    · show t.bU * 16 * (t.bU * 16) + t.bW * 16 * (t.bW * 16) ≤ (s * 16 + 1) * (s * 16 + 1)
      rw [eB]; have : (s * 16 + 1) * (s * 16 + 1) = s * 16 * (s * 16) + 32 * s + 1 := by grind
      omega
end Go.Proofs.Ytkjjoclbjkpdaaa
