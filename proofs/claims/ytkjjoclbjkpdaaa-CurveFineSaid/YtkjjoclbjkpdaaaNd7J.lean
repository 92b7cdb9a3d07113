/- Proved here: an arc that cncmill makes from a source: the item and what stays; ranges as stated. -/
import Derived.Test.YtkjjoclbjkpdaaaNd6J
namespace Go.Proofs.Ytkjjoclbjkpdaaa
open Go.RowKit
set_option linter.unusedVariables false
set_option linter.unusedSimpArgs false
structure A1 (b0 sb : Nat) (x y z : Int) (w0 : World) (A : Act) (L : Nat → Bool) (a : Act) (w : World) : Prop where
  off : OffOf [20, 21, 22, 23, 24, 25, 26, 27, 28, 29, 30, 7] A a
  ac : Ac b0 sb w0 w
  bx : Lf b0 (w0.heap.size + 2) [(⟨w0.heap.size, 0, none⟩, .int .i64 x), (⟨w0.heap.size, 1, none⟩, .int .i64 y), (⟨w0.heap.size, 2, none⟩, .int .i64 z)] w0 w
  rt : Th (w0.heap.size + 1) w
  hs : sb < w0.heap.size
  hb : b0 ≤ sb
  d12_11 : L 12 = true → L 11 = true
  k0 : L 0 = true → a.tmps[20]? = some (.agg #[.int .i64 x, .int .i64 y, .int .i64 z])
  k1 : L 1 = true → ∃ (h : Nat), a.tmps[21]? = some (.slice (some ⟨h, 0, none⟩) 3 3) ∧ Lit h sb [17, 18, 19] w
  k2 : L 2 = true → a.tmps[22]? = some (.pointer (some ⟨sb, 0, none⟩))
  k3 : L 3 = true → ∃ (r : Int), a.tmps[23]? = some (.int .i64 (r)) ∧ 0 ≤ r ∧ r < 3
  k4 : L 4 = true → ∃ (h : Nat) (r : Nat), a.tmps[24]? = some (.pointer (some ⟨h, r, none⟩)) ∧ Lit h sb [17, 18, 19] w ∧ r < 3
  k5 : L 5 = true → ∃ (p : Int), a.tmps[25]? = some (.int .i64 (p)) ∧ PlK p
  k6 : L 6 = true → a.tmps[26]? = some (.pointer (some ⟨sb, 0, none⟩))
  k7 : L 7 = true → ∃ (r : Int), a.tmps[27]? = some (.int .i64 (r)) ∧ 0 ≤ r ∧ r < 2
  k8 : L 8 = true → ∃ (r : Int), a.tmps[28]? = some (.int .i64 (r)) ∧ (r = 0 ∨ r = 2)
  k9 : L 9 = true → ∃ (d : Int), a.tmps[29]? = some (.int .i64 (d)) ∧ (d = 1 ∨ d = -1)
  k10 : L 10 = true → ∃ (p : Int) (d : Int), a.tmps[30]? = some (.agg (itL (⟨3, 0, x, y, z, 0, 0, 0, p, 0, 0, 0, d, false, 0, false, 0, 0, 0, 0, 0, false⟩ : Itm)).toArray) ∧ PlK p ∧ (d = 1 ∨ d = -1)
  k11 : L 11 = true → L 12 = false → ∃ (g : Nat), a.tmps[7]? = some (.pointer (some ⟨g, 0, none⟩)) ∧ Nw g sb (w0.heap.size + 2) 22 w
  k12 : L 12 = true → ∃ (g : Nat) (p : Int) (d : Int), a.tmps[7]? = some (.pointer (some ⟨g, 0, none⟩)) ∧ It (⟨3, 0, x, y, z, 0, 0, 0, p, 0, 0, 0, d, false, 0, false, 0, 0, 0, 0, 0, false⟩ : Itm) g sb w ∧ PlK p ∧ (d = 1 ∨ d = -1) ∧ (w0.heap.size + 2) ≤ g
theorem tuX_bd (r k : Int) (h : 0 ≤ r) : -r ≤ tuX r k ∧ tuX r k ≤ r := by unfold tuX; split; omega; split <;> omega
theorem tuY_bd (r k : Int) (h : 0 ≤ r) : -r ≤ tuY r k ∧ tuY r k ≤ r := by unfold tuY; split; omega; split <;> omega
theorem tuX_quo (r k : Int) (h : 0 < r) : (tuX r k).tdiv r = tuX 1 k := by
  unfold tuX
  split
  · exact Int.tdiv_self (by omega)
  · split
    · rw [Int.neg_tdiv, Int.tdiv_self (by omega)]
    · exact Int.zero_tdiv _
theorem tuY_quo (r k : Int) (h : 0 < r) : (tuY r k).tdiv r = tuY 1 k := by
  unfold tuY
  split
  · exact Int.tdiv_self (by omega)
  · split
    · rw [Int.neg_tdiv, Int.tdiv_self (by omega)]
    · exact Int.zero_tdiv _
structure A8 (b0 sb : Nat) (t : Itm) (g g2 rb : Nat) (xs : List Int) (c f cu fu rr : Int) (w0 : World) (A : Act) (L : Nat → Bool) (a : Act) (w : World) : Prop where
  off : OffOf [84, 85, 86, 87, 88, 89, 90, 91, 92, 93, 94, 95, 96, 97, 98, 99, 16, 17] A a
  ac : Ac b0 sb w0 w
  it : It t g sb w
  rt : Th rb w
  ct : Lit g2 sb xs w
  hr : rb ≠ sb
  d16_7 : L 16 = true → L 7 = true
  d7_0 : L 7 = true → L 0 = true
  d7_6 : L 7 = true → L 6 = true
  d6_3 : L 6 = true → L 3 = true
  d3_1 : L 3 = true → L 1 = true
  d17_15 : L 17 = true → L 15 = true
  d15_8 : L 15 = true → L 8 = true
  d15_14 : L 15 = true → L 14 = true
  d14_11 : L 14 = true → L 11 = true
  d11_9 : L 11 = true → L 9 = true
  k0 : L 0 = true → a.tmps[84]? = some (.int .i64 (c))
  k1 : L 1 = true → a.tmps[85]? = some (.int .i64 (c))
  k2 : L 2 = true → a.tmps[86]? = some (.int .i64 (rr))
  k3 : L 3 = true → a.tmps[87]? = some (.int .i64 (cu))
  k4 : L 4 = true → a.tmps[88]? = some (.pointer (some ⟨sb, 0, none⟩))
  k5 : L 5 = true → ∃ (n : Int), a.tmps[89]? = some (.int .i64 (n)) ∧ 0 ≤ n ∧ n < 5
  k6 : L 6 = true → ∃ (n : Int), a.tmps[90]? = some (.int .i64 (cu * n)) ∧ 0 ≤ n ∧ n < 5
  k7 : L 7 = true → ∃ (n : Int), a.tmps[91]? = some (.int .i64 (c + cu * n)) ∧ 0 ≤ n ∧ n < 5
  k8 : L 8 = true → a.tmps[92]? = some (.int .i64 (f))
  k9 : L 9 = true → a.tmps[93]? = some (.int .i64 (f))
  k10 : L 10 = true → a.tmps[94]? = some (.int .i64 (rr))
  k11 : L 11 = true → a.tmps[95]? = some (.int .i64 (fu))
  k12 : L 12 = true → a.tmps[96]? = some (.pointer (some ⟨sb, 0, none⟩))
  k13 : L 13 = true → ∃ (n : Int), a.tmps[97]? = some (.int .i64 (n)) ∧ 0 ≤ n ∧ n < 5
  k14 : L 14 = true → ∃ (n : Int), a.tmps[98]? = some (.int .i64 (fu * n)) ∧ 0 ≤ n ∧ n < 5
  k15 : L 15 = true → ∃ (n : Int), a.tmps[99]? = some (.int .i64 (f + fu * n)) ∧ 0 ≤ n ∧ n < 5
  k16 : L 16 = true → ∃ (n : Int), a.tmps[16]? = some (.int .i64 (c + cu * n)) ∧ 0 ≤ n ∧ n < 5
  k17 : L 17 = true → ∃ (n : Int), a.tmps[17]? = some (.int .i64 (f + fu * n)) ∧ 0 ≤ n ∧ n < 5
  s16 : L 16 = false → a.tmps[16]? = some (.int .i64 (c))
  s17 : L 17 = false → a.tmps[17]? = some (.int .i64 (f))
theorem mul_bd (n c : Int) (h1 : -1 ≤ c) (h2 : c ≤ 1) (h3 : 0 ≤ n) (h4 : n < 5) : -4 ≤ c * n ∧ c * n ≤ 4 := by
  have : c = -1 ∨ c = 0 ∨ c = 1 := by omega
  rcases this with rfl | rfl | rfl <;> omega
theorem tu_add (r k x y : Int) : tuX r k + tuX 1 k * x = tuX (r + if k % 2 = 0 then x else y) k ∧ tuY r k + tuY 1 k * y = tuY (r + if k % 2 = 0 then x else y) k := by
  unfold tuX tuY
  have h : k % 4 = 0 ∨ k % 4 = 1 ∨ k % 4 = 2 ∨ k % 4 = 3 := by omega
  rcases h with h | h | h | h
  · rw [if_pos (show k % 2 = 0 by omega)]; simp [h]
  · rw [if_neg (show ¬ k % 2 = 0 by omega)]; simp [h]
  · rw [if_pos (show k % 2 = 0 by omega)]; simp [h]; omega
  · rw [if_neg (show ¬ k % 2 = 0 by omega)]; simp [h]; omega
structure A9 (b0 sb : Nat) (t : Itm) (g g2 rb : Nat) (xs : List Int) (U W H ta tb c2 f2 : Int) (w0 : World) (A : Act) (L : Nat → Bool) (a : Act) (w : World) : Prop where
  off : OffOf [100, 101, 102, 103, 104, 105, 106, 107, 108, 109, 110, 111, 112, 113, 114, 115, 116, 117, 118, 119, 19] A a
  ac : Ac b0 sb w0 w
  it : It t g sb w
  rt : Th rb w
  ct : Lit g2 sb xs w
  hr : rb ≠ sb
  d21_20 : L 21 = true → L 20 = true
  k0 : L 0 = true → a.tmps[100]? = some (.int .i64 (U))
  k1 : L 1 = true → a.tmps[101]? = some (.int .i64 (ta))
  k2 : L 2 = true → a.tmps[102]? = some (.int .i64 (U - ta))
  k3 : L 3 = true → a.tmps[103]? = some (.int .i64 (c2))
  k4 : L 4 = true → a.tmps[104]? = some (.int .i64 (U - ta + c2))
  k5 : L 5 = true → a.tmps[105]? = some (.int .i64 (W))
  k6 : L 6 = true → a.tmps[106]? = some (.int .i64 (tb))
  k7 : L 7 = true → a.tmps[107]? = some (.int .i64 (W - tb))
  k8 : L 8 = true → a.tmps[108]? = some (.int .i64 (f2))
  k9 : L 9 = true → a.tmps[109]? = some (.int .i64 (W - tb + f2))
  k10 : L 10 = true → a.tmps[110]? = some (.int .i64 (H))
  k11 : L 11 = true → ∃ (h : Nat), a.tmps[111]? = some (.slice (some ⟨h, 0, none⟩) 4 4) ∧ Lit h sb [0, 0, 7, -12] w
  k12 : L 12 = true → a.tmps[112]? = some (.pointer (some ⟨sb, 0, none⟩))
  k13 : L 13 = true → ∃ (n : Int), a.tmps[113]? = some (.int .i64 (n)) ∧ 0 ≤ n ∧ n < 4
  k14 : L 14 = true → ∃ (h : Nat) (n : Nat), a.tmps[114]? = some (.pointer (some ⟨h, n, none⟩)) ∧ Lit h sb [0, 0, 7, -12] w ∧ n < 4
  k15 : L 15 = true → ∃ (o : Int), a.tmps[115]? = some (.int .i64 (o)) ∧ (o = 0 ∨ o = 7 ∨ o = -12)
  k16 : L 16 = true → ∃ (o : Int), a.tmps[116]? = some (.int .i64 (H + o)) ∧ (o = 0 ∨ o = 7 ∨ o = -12)
  k17 : L 17 = true → a.tmps[117]? = some (.pointer (some ⟨g, 8, none⟩))
  k18 : L 18 = true → a.tmps[118]? = some (.int .i64 (t.plane))
  k19 : L 19 = true → ∃ (o : Int), a.tmps[119]? = some (.agg #[.int .i64 (spX t.plane (U - ta + c2) (W - tb + f2) (H + o)), .int .i64 (spY t.plane (U - ta + c2) (W - tb + f2) (H + o)), .int .i64 (spZ t.plane (U - ta + c2) (W - tb + f2) (H + o))]) ∧ (o = 0 ∨ o = 7 ∨ o = -12)
  k20 : L 20 = true → L 21 = false → ∃ (k : Nat), a.tmps[19]? = some (.pointer (some ⟨k, 0, none⟩)) ∧ Nw k sb (g2 + 1) 3 w
  k21 : L 21 = true → ∃ (k : Nat) (o : Int), a.tmps[19]? = some (.pointer (some ⟨k, 0, none⟩)) ∧ Lit k sb [spX t.plane (U - ta + c2) (W - tb + f2) (H + o), spY t.plane (U - ta + c2) (W - tb + f2) (H + o), spZ t.plane (U - ta + c2) (W - tb + f2) (H + o)] w ∧ (o = 0 ∨ o = 7 ∨ o = -12) ∧ g2 < k
structure A10 (b0 sb : Nat) (t0 t1 t2 t3 : Itm) (g g2 g3 rb : Nat) (X Y Z X3 Y3 Z3 q : Int) (fq : Bool) (w0 : World) (A : Act) (L : Nat → Bool) (a : Act) (w : World) : Prop where
  off : OffOf [120, 121, 122, 123, 124, 125, 126, 127, 128, 129, 130, 131, 132, 133, 134, 135, 136, 137, 138] A a
  ac : Ac b0 sb w0 w
  rt : Th rb w
  ct : Lit g2 sb [X, Y, Z] w
  et : Lit g3 sb [X3, Y3, Z3] w
  hr : rb ≠ sb
  d19_17 : L 19 = true → L 17 = true
  d21_19 : L 21 = true → L 19 = true
  k0 : L 0 = true → a.tmps[120]? = some (.pointer (some ⟨g2, 0, none⟩))
  k1 : L 1 = true → a.tmps[121]? = some (.int .i64 (X))
  k2 : L 2 = true → a.tmps[122]? = some (.pointer (some ⟨g2, 1, none⟩))
  k3 : L 3 = true → a.tmps[123]? = some (.int .i64 (Y))
  k4 : L 4 = true → a.tmps[124]? = some (.pointer (some ⟨g2, 2, none⟩))
  k5 : L 5 = true → a.tmps[125]? = some (.int .i64 (Z))
  k6 : L 6 = true → a.tmps[126]? = some (.agg #[.int .i64 (X), .int .i64 (Y), .int .i64 (Z)])
  k7 : L 7 = true → a.tmps[127]? = some (.pointer (some ⟨g3, 0, none⟩))
  k8 : L 8 = true → a.tmps[128]? = some (.int .i64 (X3))
  k9 : L 9 = true → a.tmps[129]? = some (.pointer (some ⟨g3, 1, none⟩))
  k10 : L 10 = true → a.tmps[130]? = some (.int .i64 (Y3))
  k11 : L 11 = true → a.tmps[131]? = some (.pointer (some ⟨g3, 2, none⟩))
  k12 : L 12 = true → a.tmps[132]? = some (.int .i64 (Z3))
  k13 : L 13 = true → a.tmps[133]? = some (.agg #[.int .i64 (X3), .int .i64 (Y3), .int .i64 (Z3)])
  k14 : L 14 = true → a.tmps[134]? = some (.int .i64 (q))
  k15 : L 15 = true → a.tmps[135]? = some (.bool fq)
  k16 : L 16 = true → a.tmps[136]? = some (.pointer (some ⟨g, 9, none⟩))
  k18 : L 18 = true → a.tmps[137]? = some (.pointer (some ⟨g, 5, none⟩))
  k20 : L 20 = true → a.tmps[138]? = some (.pointer (some ⟨g, 13, none⟩))
  i0 : L 17 = false → It t0 g sb w
  i1 : L 17 = true → L 19 = false → It t1 g sb w
  i2 : L 19 = true → L 21 = false → It t2 g sb w
  i3 : L 21 = true → It t3 g sb w
/-- the end lies near the begin -/
def Itm.Near (t : Itm) (m x y z : Int) : Prop :=
  ∀ B : Int, (-B ≤ x ∧ x ≤ B) → (-B ≤ y ∧ y ≤ B) → (-B ≤ z ∧ z ≤ B) → (-(B + 2 * m + 40) ≤ t.tx ∧ t.tx ≤ B + 2 * m + 40) ∧ (-(B + 2 * m + 40) ≤ t.ty ∧ t.ty ≤ B + 2 * m + 40) ∧ (-(B + 2 * m + 40) ≤ t.tz ∧ t.tz ≤ B + 2 * m + 40)
theorem arc_made {x y z m p d U W H a b c2 f2 r k q n o : Int} {fq : Bool} (hx : -100000 ≤ x ∧ x ≤ 100000) (hy : -100000 ≤ y ∧ y ≤ 100000) (hz : -100000 ≤ z ∧ z ≤ 100000) (hp : PlK p) (hd : d = 1 ∨ d = -1) (m1 : 1 ≤ m) (m2 : m ≤ 20000)
    (r0 : 0 ≤ r) (r1 : r < m) (k0 : 0 ≤ k) (k1 : k < 4) (q0 : 0 ≤ q) (q1 : q < 4) (n0 : 0 ≤ n) (n1 : n ≤ 4) (nq : q = 0 → n = 0) (eU : U = plU p x y z) (eW : W = plW p x y z) (eH : H = plH p x y z) (ea : a = tuX (8 + r) k) (eb : b = tuY (8 + r) k) (ec : c2 = tuX (8 + r + n) (k + q)) (ef : f2 = tuY (8 + r + n) (k + q)) (ho : o = 0 ∨ o = 7 ∨ o = -12) (eq : fq = decide (q = 0)) :
    Itm.Made (⟨3, 0, x, y, z, spX p (U - a + c2) (W - b + f2) (H + o), spY p (U - a + c2) (W - b + f2) (H + o), spZ p (U - a + c2) (W - b + f2) (H + o), p, spX p (U - a) (W - b) H, spY p (U - a) (W - b) H, spZ p (U - a) (W - b) H, d, fq, 0, false, 0, 0, 0, 0, 0, false⟩ : Itm) (m + 7) (8 + r) (8 + r + n) k q ∧ Itm.Near (⟨3, 0, x, y, z, spX p (U - a + c2) (W - b + f2) (H + o), spY p (U - a + c2) (W - b + f2) (H + o), spZ p (U - a + c2) (W - b + f2) (H + o), p, spX p (U - a) (W - b) H, spY p (U - a) (W - b) H, spZ p (U - a) (W - b) H, d, fq, 0, false, 0, 0, 0, 0, 0, false⟩ : Itm) m x y z := by
  have b1 := plU_bd (k := p) hx hy hz
  have b2 := plW_bd (k := p) hx hy hz
  have b3 := plH_bd (k := p) hx hy hz
  have c1 := tuX_bd (8 + r) k (by omega)
  have c2' := tuY_bd (8 + r) k (by omega)
  have c3 := tuX_bd (8 + r + n) (k + q) (by omega)
  have c4 := tuY_bd (8 + r + n) (k + q) (by omega)
  rewrite [← eU] at b1
  rewrite [← eW] at b2
  rewrite [← eH] at b3
  rewrite [← ea] at c1
  rewrite [← eb] at c2'
  rewrite [← ec] at c3
  rewrite [← ef] at c4
  have u1 : -1048576 ≤ U - a ∧ U - a ≤ 1048576 := by omega
  have u2 : -1048576 ≤ W - b ∧ W - b ≤ 1048576 := by omega
  have u3 : -1048576 ≤ H ∧ H ≤ 1048576 := by omega
  have v1 : -1048576 ≤ U - a + c2 ∧ U - a + c2 ≤ 1048576 := by omega
  have v2 : -1048576 ≤ W - b + f2 ∧ W - b + f2 ≤ 1048576 := by omega
  have v3 : -1048576 ≤ H + o ∧ H + o ≤ 1048576 := by omega
  refine ⟨?_, fun B hx hy hz => by
    have b1 := plU_bd (k := p) hx hy hz
    have b2 := plW_bd (k := p) hx hy hz
    have b3 := plH_bd (k := p) hx hy hz
    rewrite [← eU] at b1
    rewrite [← eW] at b2
    rewrite [← eH] at b3
    have v1 : -(B + 2 * m + 40) ≤ U - a + c2 ∧ U - a + c2 ≤ B + 2 * m + 40 := by omega
    have v2 : -(B + 2 * m + 40) ≤ W - b + f2 ∧ W - b + f2 ≤ B + 2 * m + 40 := by omega
    have v3 : -(B + 2 * m + 40) ≤ H + o ∧ H + o ≤ B + 2 * m + 40 := by omega
    exact ⟨spX_bd v1 v2 v3, spY_bd v1 v2 v3, spZ_bd v1 v2 v3⟩⟩
  refine ⟨rfl, hd, ⟨⟨?_, ?_, ?_⟩, ⟨spX_bd v1 v2 v3, spY_bd v1 v2 v3, spZ_bd v1 v2 v3⟩, ⟨spX_bd u1 u2 u3, spY_bd u1 u2 u3, spZ_bd u1 u2 u3⟩, hp⟩, by omega, by omega, by omega, by omega, k0, by omega, q0, by omega, fun h => by have := nq h; omega, eq, ?_, ?_, ?_, ?_⟩
  · show -1048576 ≤ x ∧ x ≤ 1048576; omega
  · show -1048576 ≤ y ∧ y ≤ 1048576; omega
  · show -1048576 ≤ z ∧ z ≤ 1048576; omega
  · show plU p x y z - plU p _ _ _ = _; rw [plU_sp, ← eU, ← ea]; omega
  · show plW p x y z - plW p _ _ _ = _; rw [plW_sp, ← eW, ← eb]; omega
  · show plU p _ _ _ - plU p _ _ _ = _; rw [plU_sp, plU_sp, ← ec]; omega
  · show plW p _ _ _ - plW p _ _ _ = _; rw [plW_sp, plW_sp, ← ef]; omega
/-- what arc leaves -/
def ArcP (b0 sb : Nat) (x y z m : Int) (w : World) (e : Ending) (w' : World) : Prop :=
  ∃ (t : Itm) (r s k q : Int), e = .returned (.agg (itL t).toArray) ∧ t.Made (m + 7) r s k q ∧ (t.fx = x ∧ t.fy = y ∧ t.fz = z) ∧ t.Near m x y z ∧ Src b0 sb w' ∧ Chg sb (.slice none 0 0) w w'
set_option maxHeartbeats 16000000 in
set_option maxRecDepth 40000 in
theorem arc_any (b0 sb : Nat) (x y z m : Int) (w : World) (hS : Src b0 sb w) (hx : -100000 ≤ x ∧ x ≤ 100000) (hy : -100000 ≤ y ∧ y ≤ 100000) (hz : -100000 ≤ z ∧ z ≤ 100000) (m1 : 1 ≤ m) (m2 : m ≤ 20000) :
    Calls Try.prog 29 #[.pointer (some ⟨sb, 0, none⟩), .agg #[.int .i64 x, .int .i64 y, .int .i64 z], .int .i64 m] w (ArcP b0 sb x y z m w) := by
  have NX := fun (n : Int) (w : World) (h1 : 1 ≤ n) (h2 : n ≤ 1000000) (hS : Src b0 sb w) => Lib.hid (next_any b0 sb n w h1 h2 hS)
  have hsb := hS.lt
  have hbs := hS.le
  go_enter Try.func29, Try.ntmps29
  go_upto_region 1 with fail
  refine wp_cls (fun wr => Ac b0 sb w wr ∧ Lf b0 (w.heap.size + 2) [(⟨w.heap.size, 0, none⟩, .int .i64 x), (⟨w.heap.size, 1, none⟩, .int .i64 y), (⟨w.heap.size, 2, none⟩, .int .i64 z)] w wr ∧ Th (w.heap.size + 1) wr) ⟨?_, ?_, ?_⟩ ?_
  · have hD := ((Below.refl w.heap.size w).alloc (Nat.le_refl _) (.cells #[.int .i64 x, .int .i64 y, .int .i64 z] 25)).alloc (by simp <;> omega) (.cells zeroI 27)
    exact ⟨hS.next hD, Chg.of hD⟩
  · exact ⟨by simp [List.forall_mem_cons, go_sem], by simp [List.forall_mem_cons, go_sem], by simp [List.forall_mem_cons] <;> omega, by simp, ((Below.refl w.heap.size w).alloc (Nat.le_refl _) (.cells #[.int .i64 x, .int .i64 y, .int .i64 z] 25)).alloc (by simp <;> omega) (.cells zeroI 27) |>.mono (by omega), by omega⟩
  · have k := Th.fresh (w.alloc (.cells #[.int .i64 x, .int .i64 y, .int .i64 z] 25)) 27
    rw [show (w.alloc (.cells #[.int .i64 x, .int .i64 y, .int .i64 z] 25)).heap.size = w.heap.size + 1 by simp] at k
    exact k
  rintro wr hT
  generalize hA : (Act.mk _ _) = A
  have hsz : A.tmps.size = 140 := by rw [← hA]; rfl
  have hA0 : A.tmps[0]? = some (.pointer (some ⟨sb, 0, none⟩)) := by rw [← hA]; rfl
  have hA4 : A.tmps[4]? = some (.pointer (some ⟨w.heap.size, 0, none⟩)) := by rw [← hA]; rfl
  have HA := Lib.hid hA
  clear hA
  refine wp_region_inv (fun L a wx => A1 b0 sb x y z w A L a wx) (by kernel_rfl) (by kernel_rfl) ?_ ?_ ?_
  · have hD := (Below.refl wr.heap.size wr).drew
    exact (by constructor <;> first | exact OffOf.refl _ _ | exact hT.1.next hD | exact hT.2.1.next hD | exact hT.2.2.draw (Chg.of hD) (show w.heap.size + 1 ≠ sb by omega) | exact hsb | exact hS.le | (intro h; exact nomatch h) | (intro h _; exact nomatch h))
  · intro i o ho L a wx h' hLi hdeps K hK'
    match i, ho, hLi, hK' with
    | 0, ho, hLi, hK' =>
      cases ho
      have ea := (h'.off.off 4 (by decide)).trans hA4
      have kc := h'.bx.cells
      simp only [List.forall_mem_cons, List.not_mem_nil, false_implies, implies_true, and_true] at kc
      obtain ⟨y0, y1, y2⟩ := kc
      go_simp
      exact hK' _ _ { off := h'.off.put (by decide) _, ac := h'.ac, bx := h'.bx, rt := h'.rt, hs := h'.hs, hb := h'.hb, d12_11 := fun q => by simpa using h'.d12_11 (by simpa using q), k0 := fun _ => put_at _ (by have := h'.off.size; omega), k1 := fun q => (h'.k1 (by simpa using q)).imp fun _ g => ⟨put_ne _ (by decide) (g.1), g.2⟩, k2 := fun q => put_ne _ (by decide) (h'.k2 (by simpa using q)), k3 := fun q => (h'.k3 (by simpa using q)).imp fun _ g => ⟨put_ne _ (by decide) (g.1), g.2.1, g.2.2⟩, k4 := fun q => (h'.k4 (by simpa using q)).imp fun _ g => g.imp fun _ g => ⟨put_ne _ (by decide) (g.1), g.2.1, g.2.2⟩, k5 := fun q => (h'.k5 (by simpa using q)).imp fun _ g => ⟨put_ne _ (by decide) (g.1), g.2⟩, k6 := fun q => put_ne _ (by decide) (h'.k6 (by simpa using q)), k7 := fun q => (h'.k7 (by simpa using q)).imp fun _ g => ⟨put_ne _ (by decide) (g.1), g.2.1, g.2.2⟩, k8 := fun q => (h'.k8 (by simpa using q)).imp fun _ g => ⟨put_ne _ (by decide) (g.1), g.2⟩, k9 := fun q => (h'.k9 (by simpa using q)).imp fun _ g => ⟨put_ne _ (by decide) (g.1), g.2⟩, k10 := fun q => (h'.k10 (by simpa using q)).imp fun _ g => g.imp fun _ g => ⟨put_ne _ (by decide) (g.1), g.2.1, g.2.2⟩, k11 := fun q q' => (h'.k11 (by simpa using q) (by simpa using q')).imp fun _ g => ⟨put_ne _ (by decide) (g.1), g.2⟩, k12 := fun q => (h'.k12 (by simpa using q)).imp fun _ g => g.imp fun _ g => g.imp fun _ g => ⟨put_ne _ (by decide) (g.1), g.2.1, g.2.2.1, g.2.2.2.1, g.2.2.2.2⟩ }
    | 1, ho, hLi, hK' =>
      cases ho
      have hb := (Below.refl wx.heap.size wx).alloc (Nat.le_refl _) (.cells #[.int .i64 17, .int .i64 18, .int .i64 19] 3)
      go_simp
      exact hK' _ _ { off := h'.off.put (by decide) _, ac := h'.ac.next hb, bx := h'.bx.next hb, rt := h'.rt.draw (Chg.of hb) (show w.heap.size + 1 ≠ sb by have := h'.hs; omega), hs := h'.hs, hb := h'.hb, d12_11 := fun q => by simpa using h'.d12_11 (by simpa using q), k0 := fun q => put_ne _ (by decide) (h'.k0 (by simpa using q)), k1 := fun _ => ⟨wx.heap.size, put_at _ (by have := h'.off.size; omega), Lit.fresh [17, 18, 19] _ (Nat.lt_of_lt_of_le h'.hs h'.ac.ch.size)⟩, k2 := fun q => put_ne _ (by decide) (h'.k2 (by simpa using q)), k3 := fun q => (h'.k3 (by simpa using q)).imp fun _ g => ⟨put_ne _ (by decide) (g.1), g.2.1, g.2.2⟩, k4 := fun q => (h'.k4 (by simpa using q)).imp fun _ g => g.imp fun _ g => ⟨put_ne _ (by decide) (g.1), (g.2.1).draw (Chg.of hb), g.2.2⟩, k5 := fun q => (h'.k5 (by simpa using q)).imp fun _ g => ⟨put_ne _ (by decide) (g.1), g.2⟩, k6 := fun q => put_ne _ (by decide) (h'.k6 (by simpa using q)), k7 := fun q => (h'.k7 (by simpa using q)).imp fun _ g => ⟨put_ne _ (by decide) (g.1), g.2.1, g.2.2⟩, k8 := fun q => (h'.k8 (by simpa using q)).imp fun _ g => ⟨put_ne _ (by decide) (g.1), g.2⟩, k9 := fun q => (h'.k9 (by simpa using q)).imp fun _ g => ⟨put_ne _ (by decide) (g.1), g.2⟩, k10 := fun q => (h'.k10 (by simpa using q)).imp fun _ g => g.imp fun _ g => ⟨put_ne _ (by decide) (g.1), g.2.1, g.2.2⟩, k11 := fun q q' => (h'.k11 (by simpa using q) (by simpa using q')).imp fun _ g => ⟨put_ne _ (by decide) (g.1), (g.2).draw (Chg.of hb)⟩, k12 := fun q => (h'.k12 (by simpa using q)).imp fun _ g => g.imp fun _ g => g.imp fun _ g => ⟨put_ne _ (by decide) (g.1), (g.2.1).draw (Chg.of hb), g.2.2.1, g.2.2.2.1, g.2.2.2.2⟩ }
    | 2, ho, hLi, hK' =>
      cases ho
      have ea := (h'.off.off 0 (by decide)).trans hA0
      go_simp
      exact hK' _ _ { off := h'.off.put (by decide) _, ac := h'.ac, bx := h'.bx, rt := h'.rt, hs := h'.hs, hb := h'.hb, d12_11 := fun q => by simpa using h'.d12_11 (by simpa using q), k0 := fun q => put_ne _ (by decide) (h'.k0 (by simpa using q)), k1 := fun q => (h'.k1 (by simpa using q)).imp fun _ g => ⟨put_ne _ (by decide) (g.1), g.2⟩, k2 := fun _ => put_at _ (by have := h'.off.size; omega), k3 := fun q => (h'.k3 (by simpa using q)).imp fun _ g => ⟨put_ne _ (by decide) (g.1), g.2.1, g.2.2⟩, k4 := fun q => (h'.k4 (by simpa using q)).imp fun _ g => g.imp fun _ g => ⟨put_ne _ (by decide) (g.1), g.2.1, g.2.2⟩, k5 := fun q => (h'.k5 (by simpa using q)).imp fun _ g => ⟨put_ne _ (by decide) (g.1), g.2⟩, k6 := fun q => put_ne _ (by decide) (h'.k6 (by simpa using q)), k7 := fun q => (h'.k7 (by simpa using q)).imp fun _ g => ⟨put_ne _ (by decide) (g.1), g.2.1, g.2.2⟩, k8 := fun q => (h'.k8 (by simpa using q)).imp fun _ g => ⟨put_ne _ (by decide) (g.1), g.2⟩, k9 := fun q => (h'.k9 (by simpa using q)).imp fun _ g => ⟨put_ne _ (by decide) (g.1), g.2⟩, k10 := fun q => (h'.k10 (by simpa using q)).imp fun _ g => g.imp fun _ g => ⟨put_ne _ (by decide) (g.1), g.2.1, g.2.2⟩, k11 := fun q q' => (h'.k11 (by simpa using q) (by simpa using q')).imp fun _ g => ⟨put_ne _ (by decide) (g.1), g.2⟩, k12 := fun q => (h'.k12 (by simpa using q)).imp fun _ g => g.imp fun _ g => g.imp fun _ g => ⟨put_ne _ (by decide) (g.1), g.2.1, g.2.2.1, g.2.2.2.1, g.2.2.2.2⟩ }
    | 3, ho, hLi, hK' =>
      cases ho
      have ea := h'.k2 (hdeps ⟨2, .data⟩ (by simp) (by rfl))
      go_simp
      refine (NX 3 wx (by decide) (by decide) h'.ac.src).out.mono ?_
      rintro e w2 ⟨r, rfl, r0, r1, hs, hc⟩
      exact hK' _ _ { off := h'.off.put (by decide) _, ac := h'.ac.draw hs hc, bx := h'.bx.draw hc h'.hb (by have := h'.hs; simp [List.forall_mem_cons] <;> omega), rt := h'.rt.draw hc (show w.heap.size + 1 ≠ sb by have := h'.hs; omega), hs := h'.hs, hb := h'.hb, d12_11 := fun q => by simpa using h'.d12_11 (by simpa using q), k0 := fun q => put_ne _ (by decide) (h'.k0 (by simpa using q)), k1 := fun q => (h'.k1 (by simpa using q)).imp fun _ g => ⟨put_ne _ (by decide) (g.1), (g.2).draw hc⟩, k2 := fun q => put_ne _ (by decide) (h'.k2 (by simpa using q)), k3 := fun _ => ⟨r, put_at _ (by have := h'.off.size; omega), r0, r1⟩, k4 := fun q => (h'.k4 (by simpa using q)).imp fun _ g => g.imp fun _ g => ⟨put_ne _ (by decide) (g.1), (g.2.1).draw hc, g.2.2⟩, k5 := fun q => (h'.k5 (by simpa using q)).imp fun _ g => ⟨put_ne _ (by decide) (g.1), g.2⟩, k6 := fun q => put_ne _ (by decide) (h'.k6 (by simpa using q)), k7 := fun q => (h'.k7 (by simpa using q)).imp fun _ g => ⟨put_ne _ (by decide) (g.1), g.2.1, g.2.2⟩, k8 := fun q => (h'.k8 (by simpa using q)).imp fun _ g => ⟨put_ne _ (by decide) (g.1), g.2⟩, k9 := fun q => (h'.k9 (by simpa using q)).imp fun _ g => ⟨put_ne _ (by decide) (g.1), g.2⟩, k10 := fun q => (h'.k10 (by simpa using q)).imp fun _ g => g.imp fun _ g => ⟨put_ne _ (by decide) (g.1), g.2.1, g.2.2⟩, k11 := fun q q' => (h'.k11 (by simpa using q) (by simpa using q')).imp fun _ g => ⟨put_ne _ (by decide) (g.1), (g.2).draw hc⟩, k12 := fun q => (h'.k12 (by simpa using q)).imp fun _ g => g.imp fun _ g => g.imp fun _ g => ⟨put_ne _ (by decide) (g.1), (g.2.1).draw hc, g.2.2.1, g.2.2.2.1, g.2.2.2.2⟩ }
    | 4, ho, hLi, hK' =>
      cases ho
      obtain ⟨h1, ea, q10⟩ := h'.k1 (hdeps ⟨1, .data⟩ (by simp) (by rfl))
      obtain ⟨r3, eb, q30, q31⟩ := h'.k3 (hdeps ⟨3, .data⟩ (by simp) (by rfl))
      have : r3 = 0 ∨ r3 = 1 ∨ r3 = 2 := by omega
      rcases this with rfl | rfl | rfl
      · go_simp
        exact hK' _ _ { off := h'.off.put (by decide) _, ac := h'.ac, bx := h'.bx, rt := h'.rt, hs := h'.hs, hb := h'.hb, d12_11 := fun q => by simpa using h'.d12_11 (by simpa using q), k0 := fun q => put_ne _ (by decide) (h'.k0 (by simpa using q)), k1 := fun q => (h'.k1 (by simpa using q)).imp fun _ g => ⟨put_ne _ (by decide) (g.1), g.2⟩, k2 := fun q => put_ne _ (by decide) (h'.k2 (by simpa using q)), k3 := fun q => (h'.k3 (by simpa using q)).imp fun _ g => ⟨put_ne _ (by decide) (g.1), g.2.1, g.2.2⟩, k4 := fun _ => ⟨h1, 0, put_at _ (by have := h'.off.size; omega), q10, by decide⟩, k5 := fun q => (h'.k5 (by simpa using q)).imp fun _ g => ⟨put_ne _ (by decide) (g.1), g.2⟩, k6 := fun q => put_ne _ (by decide) (h'.k6 (by simpa using q)), k7 := fun q => (h'.k7 (by simpa using q)).imp fun _ g => ⟨put_ne _ (by decide) (g.1), g.2.1, g.2.2⟩, k8 := fun q => (h'.k8 (by simpa using q)).imp fun _ g => ⟨put_ne _ (by decide) (g.1), g.2⟩, k9 := fun q => (h'.k9 (by simpa using q)).imp fun _ g => ⟨put_ne _ (by decide) (g.1), g.2⟩, k10 := fun q => (h'.k10 (by simpa using q)).imp fun _ g => g.imp fun _ g => ⟨put_ne _ (by decide) (g.1), g.2.1, g.2.2⟩, k11 := fun q q' => (h'.k11 (by simpa using q) (by simpa using q')).imp fun _ g => ⟨put_ne _ (by decide) (g.1), g.2⟩, k12 := fun q => (h'.k12 (by simpa using q)).imp fun _ g => g.imp fun _ g => g.imp fun _ g => ⟨put_ne _ (by decide) (g.1), g.2.1, g.2.2.1, g.2.2.2.1, g.2.2.2.2⟩ }
      · go_simp
        exact hK' _ _ { off := h'.off.put (by decide) _, ac := h'.ac, bx := h'.bx, rt := h'.rt, hs := h'.hs, hb := h'.hb, d12_11 := fun q => by simpa using h'.d12_11 (by simpa using q), k0 := fun q => put_ne _ (by decide) (h'.k0 (by simpa using q)), k1 := fun q => (h'.k1 (by simpa using q)).imp fun _ g => ⟨put_ne _ (by decide) (g.1), g.2⟩, k2 := fun q => put_ne _ (by decide) (h'.k2 (by simpa using q)), k3 := fun q => (h'.k3 (by simpa using q)).imp fun _ g => ⟨put_ne _ (by decide) (g.1), g.2.1, g.2.2⟩, k4 := fun _ => ⟨h1, 1, put_at _ (by have := h'.off.size; omega), q10, by decide⟩, k5 := fun q => (h'.k5 (by simpa using q)).imp fun _ g => ⟨put_ne _ (by decide) (g.1), g.2⟩, k6 := fun q => put_ne _ (by decide) (h'.k6 (by simpa using q)), k7 := fun q => (h'.k7 (by simpa using q)).imp fun _ g => ⟨put_ne _ (by decide) (g.1), g.2.1, g.2.2⟩, k8 := fun q => (h'.k8 (by simpa using q)).imp fun _ g => ⟨put_ne _ (by decide) (g.1), g.2⟩, k9 := fun q => (h'.k9 (by simpa using q)).imp fun _ g => ⟨put_ne _ (by decide) (g.1), g.2⟩, k10 := fun q => (h'.k10 (by simpa using q)).imp fun _ g => g.imp fun _ g => ⟨put_ne _ (by decide) (g.1), g.2.1, g.2.2⟩, k11 := fun q q' => (h'.k11 (by simpa using q) (by simpa using q')).imp fun _ g => ⟨put_ne _ (by decide) (g.1), g.2⟩, k12 := fun q => (h'.k12 (by simpa using q)).imp fun _ g => g.imp fun _ g => g.imp fun _ g => ⟨put_ne _ (by decide) (g.1), g.2.1, g.2.2.1, g.2.2.2.1, g.2.2.2.2⟩ }
      · go_simp
        exact hK' _ _ { off := h'.off.put (by decide) _, ac := h'.ac, bx := h'.bx, rt := h'.rt, hs := h'.hs, hb := h'.hb, d12_11 := fun q => by simpa using h'.d12_11 (by simpa using q), k0 := fun q => put_ne _ (by decide) (h'.k0 (by simpa using q)), k1 := fun q => (h'.k1 (by simpa using q)).imp fun _ g => ⟨put_ne _ (by decide) (g.1), g.2⟩, k2 := fun q => put_ne _ (by decide) (h'.k2 (by simpa using q)), k3 := fun q => (h'.k3 (by simpa using q)).imp fun _ g => ⟨put_ne _ (by decide) (g.1), g.2.1, g.2.2⟩, k4 := fun _ => ⟨h1, 2, put_at _ (by have := h'.off.size; omega), q10, by decide⟩, k5 := fun q => (h'.k5 (by simpa using q)).imp fun _ g => ⟨put_ne _ (by decide) (g.1), g.2⟩, k6 := fun q => put_ne _ (by decide) (h'.k6 (by simpa using q)), k7 := fun q => (h'.k7 (by simpa using q)).imp fun _ g => ⟨put_ne _ (by decide) (g.1), g.2.1, g.2.2⟩, k8 := fun q => (h'.k8 (by simpa using q)).imp fun _ g => ⟨put_ne _ (by decide) (g.1), g.2⟩, k9 := fun q => (h'.k9 (by simpa using q)).imp fun _ g => ⟨put_ne _ (by decide) (g.1), g.2⟩, k10 := fun q => (h'.k10 (by simpa using q)).imp fun _ g => g.imp fun _ g => ⟨put_ne _ (by decide) (g.1), g.2.1, g.2.2⟩, k11 := fun q q' => (h'.k11 (by simpa using q) (by simpa using q')).imp fun _ g => ⟨put_ne _ (by decide) (g.1), g.2⟩, k12 := fun q => (h'.k12 (by simpa using q)).imp fun _ g => g.imp fun _ g => g.imp fun _ g => ⟨put_ne _ (by decide) (g.1), g.2.1, g.2.2.1, g.2.2.2.1, g.2.2.2.2⟩ }
    | 5, ho, hLi, hK' =>
      cases ho
      obtain ⟨h4, r4, ea, q40, q41⟩ := h'.k4 (hdeps ⟨4, .data⟩ (by simp) (by rfl))
      have : r4 = 0 ∨ r4 = 1 ∨ r4 = 2 := by omega
      rcases this with rfl | rfl | rfl
      · have ec := q40.c 0 17 rfl
        go_simp
        exact hK' _ _ { off := h'.off.put (by decide) _, ac := h'.ac, bx := h'.bx, rt := h'.rt, hs := h'.hs, hb := h'.hb, d12_11 := fun q => by simpa using h'.d12_11 (by simpa using q), k0 := fun q => put_ne _ (by decide) (h'.k0 (by simpa using q)), k1 := fun q => (h'.k1 (by simpa using q)).imp fun _ g => ⟨put_ne _ (by decide) (g.1), g.2⟩, k2 := fun q => put_ne _ (by decide) (h'.k2 (by simpa using q)), k3 := fun q => (h'.k3 (by simpa using q)).imp fun _ g => ⟨put_ne _ (by decide) (g.1), g.2.1, g.2.2⟩, k4 := fun q => (h'.k4 (by simpa using q)).imp fun _ g => g.imp fun _ g => ⟨put_ne _ (by decide) (g.1), g.2.1, g.2.2⟩, k5 := fun _ => ⟨17, put_at _ (by have := h'.off.size; omega), by unfold PlK; decide⟩, k6 := fun q => put_ne _ (by decide) (h'.k6 (by simpa using q)), k7 := fun q => (h'.k7 (by simpa using q)).imp fun _ g => ⟨put_ne _ (by decide) (g.1), g.2.1, g.2.2⟩, k8 := fun q => (h'.k8 (by simpa using q)).imp fun _ g => ⟨put_ne _ (by decide) (g.1), g.2⟩, k9 := fun q => (h'.k9 (by simpa using q)).imp fun _ g => ⟨put_ne _ (by decide) (g.1), g.2⟩, k10 := fun q => (h'.k10 (by simpa using q)).imp fun _ g => g.imp fun _ g => ⟨put_ne _ (by decide) (g.1), g.2.1, g.2.2⟩, k11 := fun q q' => (h'.k11 (by simpa using q) (by simpa using q')).imp fun _ g => ⟨put_ne _ (by decide) (g.1), g.2⟩, k12 := fun q => (h'.k12 (by simpa using q)).imp fun _ g => g.imp fun _ g => g.imp fun _ g => ⟨put_ne _ (by decide) (g.1), g.2.1, g.2.2.1, g.2.2.2.1, g.2.2.2.2⟩ }
      · have ec := q40.c 1 18 rfl
        go_simp
        exact hK' _ _ { off := h'.off.put (by decide) _, ac := h'.ac, bx := h'.bx, rt := h'.rt, hs := h'.hs, hb := h'.hb, d12_11 := fun q => by simpa using h'.d12_11 (by simpa using q), k0 := fun q => put_ne _ (by decide) (h'.k0 (by simpa using q)), k1 := fun q => (h'.k1 (by simpa using q)).imp fun _ g => ⟨put_ne _ (by decide) (g.1), g.2⟩, k2 := fun q => put_ne _ (by decide) (h'.k2 (by simpa using q)), k3 := fun q => (h'.k3 (by simpa using q)).imp fun _ g => ⟨put_ne _ (by decide) (g.1), g.2.1, g.2.2⟩, k4 := fun q => (h'.k4 (by simpa using q)).imp fun _ g => g.imp fun _ g => ⟨put_ne _ (by decide) (g.1), g.2.1, g.2.2⟩, k5 := fun _ => ⟨18, put_at _ (by have := h'.off.size; omega), by unfold PlK; decide⟩, k6 := fun q => put_ne _ (by decide) (h'.k6 (by simpa using q)), k7 := fun q => (h'.k7 (by simpa using q)).imp fun _ g => ⟨put_ne _ (by decide) (g.1), g.2.1, g.2.2⟩, k8 := fun q => (h'.k8 (by simpa using q)).imp fun _ g => ⟨put_ne _ (by decide) (g.1), g.2⟩, k9 := fun q => (h'.k9 (by simpa using q)).imp fun _ g => ⟨put_ne _ (by decide) (g.1), g.2⟩, k10 := fun q => (h'.k10 (by simpa using q)).imp fun _ g => g.imp fun _ g => ⟨put_ne _ (by decide) (g.1), g.2.1, g.2.2⟩, k11 := fun q q' => (h'.k11 (by simpa using q) (by simpa using q')).imp fun _ g => ⟨put_ne _ (by decide) (g.1), g.2⟩, k12 := fun q => (h'.k12 (by simpa using q)).imp fun _ g => g.imp fun _ g => g.imp fun _ g => ⟨put_ne _ (by decide) (g.1), g.2.1, g.2.2.1, g.2.2.2.1, g.2.2.2.2⟩ }
      · have ec := q40.c 2 19 rfl
        go_simp
        exact hK' _ _ { off := h'.off.put (by decide) _, ac := h'.ac, bx := h'.bx, rt := h'.rt, hs := h'.hs, hb := h'.hb, d12_11 := fun q => by simpa using h'.d12_11 (by simpa using q), k0 := fun q => put_ne _ (by decide) (h'.k0 (by simpa using q)), k1 := fun q => (h'.k1 (by simpa using q)).imp fun _ g => ⟨put_ne _ (by decide) (g.1), g.2⟩, k2 := fun q => put_ne _ (by decide) (h'.k2 (by simpa using q)), k3 := fun q => (h'.k3 (by simpa using q)).imp fun _ g => ⟨put_ne _ (by decide) (g.1), g.2.1, g.2.2⟩, k4 := fun q => (h'.k4 (by simpa using q)).imp fun _ g => g.imp fun _ g => ⟨put_ne _ (by decide) (g.1), g.2.1, g.2.2⟩, k5 := fun _ => ⟨19, put_at _ (by have := h'.off.size; omega), by unfold PlK; decide⟩, k6 := fun q => put_ne _ (by decide) (h'.k6 (by simpa using q)), k7 := fun q => (h'.k7 (by simpa using q)).imp fun _ g => ⟨put_ne _ (by decide) (g.1), g.2.1, g.2.2⟩, k8 := fun q => (h'.k8 (by simpa using q)).imp fun _ g => ⟨put_ne _ (by decide) (g.1), g.2⟩, k9 := fun q => (h'.k9 (by simpa using q)).imp fun _ g => ⟨put_ne _ (by decide) (g.1), g.2⟩, k10 := fun q => (h'.k10 (by simpa using q)).imp fun _ g => g.imp fun _ g => ⟨put_ne _ (by decide) (g.1), g.2.1, g.2.2⟩, k11 := fun q q' => (h'.k11 (by simpa using q) (by simpa using q')).imp fun _ g => ⟨put_ne _ (by decide) (g.1), g.2⟩, k12 := fun q => (h'.k12 (by simpa using q)).imp fun _ g => g.imp fun _ g => g.imp fun _ g => ⟨put_ne _ (by decide) (g.1), g.2.1, g.2.2.1, g.2.2.2.1, g.2.2.2.2⟩ }
    | 6, ho, hLi, hK' =>
      cases ho
      have ea := (h'.off.off 0 (by decide)).trans hA0
      go_simp
      exact hK' _ _ { off := h'.off.put (by decide) _, ac := h'.ac, bx := h'.bx, rt := h'.rt, hs := h'.hs, hb := h'.hb, d12_11 := fun q => by simpa using h'.d12_11 (by simpa using q), k0 := fun q => put_ne _ (by decide) (h'.k0 (by simpa using q)), k1 := fun q => (h'.k1 (by simpa using q)).imp fun _ g => ⟨put_ne _ (by decide) (g.1), g.2⟩, k2 := fun q => put_ne _ (by decide) (h'.k2 (by simpa using q)), k3 := fun q => (h'.k3 (by simpa using q)).imp fun _ g => ⟨put_ne _ (by decide) (g.1), g.2.1, g.2.2⟩, k4 := fun q => (h'.k4 (by simpa using q)).imp fun _ g => g.imp fun _ g => ⟨put_ne _ (by decide) (g.1), g.2.1, g.2.2⟩, k5 := fun q => (h'.k5 (by simpa using q)).imp fun _ g => ⟨put_ne _ (by decide) (g.1), g.2⟩, k6 := fun _ => put_at _ (by have := h'.off.size; omega), k7 := fun q => (h'.k7 (by simpa using q)).imp fun _ g => ⟨put_ne _ (by decide) (g.1), g.2.1, g.2.2⟩, k8 := fun q => (h'.k8 (by simpa using q)).imp fun _ g => ⟨put_ne _ (by decide) (g.1), g.2⟩, k9 := fun q => (h'.k9 (by simpa using q)).imp fun _ g => ⟨put_ne _ (by decide) (g.1), g.2⟩, k10 := fun q => (h'.k10 (by simpa using q)).imp fun _ g => g.imp fun _ g => ⟨put_ne _ (by decide) (g.1), g.2.1, g.2.2⟩, k11 := fun q q' => (h'.k11 (by simpa using q) (by simpa using q')).imp fun _ g => ⟨put_ne _ (by decide) (g.1), g.2⟩, k12 := fun q => (h'.k12 (by simpa using q)).imp fun _ g => g.imp fun _ g => g.imp fun _ g => ⟨put_ne _ (by decide) (g.1), g.2.1, g.2.2.1, g.2.2.2.1, g.2.2.2.2⟩ }
    | 7, ho, hLi, hK' =>
      cases ho
      have ea := h'.k6 (hdeps ⟨6, .data⟩ (by simp) (by rfl))
      go_simp
      refine (NX 2 wx (by decide) (by decide) h'.ac.src).out.mono ?_
      rintro e w2 ⟨r, rfl, r0, r1, hs, hc⟩
      exact hK' _ _ { off := h'.off.put (by decide) _, ac := h'.ac.draw hs hc, bx := h'.bx.draw hc h'.hb (by have := h'.hs; simp [List.forall_mem_cons] <;> omega), rt := h'.rt.draw hc (show w.heap.size + 1 ≠ sb by have := h'.hs; omega), hs := h'.hs, hb := h'.hb, d12_11 := fun q => by simpa using h'.d12_11 (by simpa using q), k0 := fun q => put_ne _ (by decide) (h'.k0 (by simpa using q)), k1 := fun q => (h'.k1 (by simpa using q)).imp fun _ g => ⟨put_ne _ (by decide) (g.1), (g.2).draw hc⟩, k2 := fun q => put_ne _ (by decide) (h'.k2 (by simpa using q)), k3 := fun q => (h'.k3 (by simpa using q)).imp fun _ g => ⟨put_ne _ (by decide) (g.1), g.2.1, g.2.2⟩, k4 := fun q => (h'.k4 (by simpa using q)).imp fun _ g => g.imp fun _ g => ⟨put_ne _ (by decide) (g.1), (g.2.1).draw hc, g.2.2⟩, k5 := fun q => (h'.k5 (by simpa using q)).imp fun _ g => ⟨put_ne _ (by decide) (g.1), g.2⟩, k6 := fun q => put_ne _ (by decide) (h'.k6 (by simpa using q)), k7 := fun _ => ⟨r, put_at _ (by have := h'.off.size; omega), r0, r1⟩, k8 := fun q => (h'.k8 (by simpa using q)).imp fun _ g => ⟨put_ne _ (by decide) (g.1), g.2⟩, k9 := fun q => (h'.k9 (by simpa using q)).imp fun _ g => ⟨put_ne _ (by decide) (g.1), g.2⟩, k10 := fun q => (h'.k10 (by simpa using q)).imp fun _ g => g.imp fun _ g => ⟨put_ne _ (by decide) (g.1), g.2.1, g.2.2⟩, k11 := fun q q' => (h'.k11 (by simpa using q) (by simpa using q')).imp fun _ g => ⟨put_ne _ (by decide) (g.1), (g.2).draw hc⟩, k12 := fun q => (h'.k12 (by simpa using q)).imp fun _ g => g.imp fun _ g => g.imp fun _ g => ⟨put_ne _ (by decide) (g.1), (g.2.1).draw hc, g.2.2.1, g.2.2.2.1, g.2.2.2.2⟩ }
    | 8, ho, hLi, hK' =>
      cases ho
      obtain ⟨r7, ea, q70, q71⟩ := h'.k7 (hdeps ⟨7, .data⟩ (by simp) (by rfl))
      have : r7 = 0 ∨ r7 = 1 := by omega
      rcases this with rfl | rfl
      · go_simp
        exact hK' _ _ { off := h'.off.put (by decide) _, ac := h'.ac, bx := h'.bx, rt := h'.rt, hs := h'.hs, hb := h'.hb, d12_11 := fun q => by simpa using h'.d12_11 (by simpa using q), k0 := fun q => put_ne _ (by decide) (h'.k0 (by simpa using q)), k1 := fun q => (h'.k1 (by simpa using q)).imp fun _ g => ⟨put_ne _ (by decide) (g.1), g.2⟩, k2 := fun q => put_ne _ (by decide) (h'.k2 (by simpa using q)), k3 := fun q => (h'.k3 (by simpa using q)).imp fun _ g => ⟨put_ne _ (by decide) (g.1), g.2.1, g.2.2⟩, k4 := fun q => (h'.k4 (by simpa using q)).imp fun _ g => g.imp fun _ g => ⟨put_ne _ (by decide) (g.1), g.2.1, g.2.2⟩, k5 := fun q => (h'.k5 (by simpa using q)).imp fun _ g => ⟨put_ne _ (by decide) (g.1), g.2⟩, k6 := fun q => put_ne _ (by decide) (h'.k6 (by simpa using q)), k7 := fun q => (h'.k7 (by simpa using q)).imp fun _ g => ⟨put_ne _ (by decide) (g.1), g.2.1, g.2.2⟩, k8 := fun _ => ⟨0, put_at _ (by have := h'.off.size; omega), by decide⟩, k9 := fun q => (h'.k9 (by simpa using q)).imp fun _ g => ⟨put_ne _ (by decide) (g.1), g.2⟩, k10 := fun q => (h'.k10 (by simpa using q)).imp fun _ g => g.imp fun _ g => ⟨put_ne _ (by decide) (g.1), g.2.1, g.2.2⟩, k11 := fun q q' => (h'.k11 (by simpa using q) (by simpa using q')).imp fun _ g => ⟨put_ne _ (by decide) (g.1), g.2⟩, k12 := fun q => (h'.k12 (by simpa using q)).imp fun _ g => g.imp fun _ g => g.imp fun _ g => ⟨put_ne _ (by decide) (g.1), g.2.1, g.2.2.1, g.2.2.2.1, g.2.2.2.2⟩ }
      · go_simp
        exact hK' _ _ { off := h'.off.put (by decide) _, ac := h'.ac, bx := h'.bx, rt := h'.rt, hs := h'.hs, hb := h'.hb, d12_11 := fun q => by simpa using h'.d12_11 (by simpa using q), k0 := fun q => put_ne _ (by decide) (h'.k0 (by simpa using q)), k1 := fun q => (h'.k1 (by simpa using q)).imp fun _ g => ⟨put_ne _ (by decide) (g.1), g.2⟩, k2 := fun q => put_ne _ (by decide) (h'.k2 (by simpa using q)), k3 := fun q => (h'.k3 (by simpa using q)).imp fun _ g => ⟨put_ne _ (by decide) (g.1), g.2.1, g.2.2⟩, k4 := fun q => (h'.k4 (by simpa using q)).imp fun _ g => g.imp fun _ g => ⟨put_ne _ (by decide) (g.1), g.2.1, g.2.2⟩, k5 := fun q => (h'.k5 (by simpa using q)).imp fun _ g => ⟨put_ne _ (by decide) (g.1), g.2⟩, k6 := fun q => put_ne _ (by decide) (h'.k6 (by simpa using q)), k7 := fun q => (h'.k7 (by simpa using q)).imp fun _ g => ⟨put_ne _ (by decide) (g.1), g.2.1, g.2.2⟩, k8 := fun _ => ⟨2, put_at _ (by have := h'.off.size; omega), by decide⟩, k9 := fun q => (h'.k9 (by simpa using q)).imp fun _ g => ⟨put_ne _ (by decide) (g.1), g.2⟩, k10 := fun q => (h'.k10 (by simpa using q)).imp fun _ g => g.imp fun _ g => ⟨put_ne _ (by decide) (g.1), g.2.1, g.2.2⟩, k11 := fun q q' => (h'.k11 (by simpa using q) (by simpa using q')).imp fun _ g => ⟨put_ne _ (by decide) (g.1), g.2⟩, k12 := fun q => (h'.k12 (by simpa using q)).imp fun _ g => g.imp fun _ g => g.imp fun _ g => ⟨put_ne _ (by decide) (g.1), g.2.1, g.2.2.1, g.2.2.2.1, g.2.2.2.2⟩ }
    | 9, ho, hLi, hK' =>
      cases ho
      obtain ⟨r8, ea, q80⟩ := h'.k8 (hdeps ⟨8, .data⟩ (by simp) (by rfl))
      rcases q80 with rfl | rfl
      · go_simp
        exact hK' _ _ { off := h'.off.put (by decide) _, ac := h'.ac, bx := h'.bx, rt := h'.rt, hs := h'.hs, hb := h'.hb, d12_11 := fun q => by simpa using h'.d12_11 (by simpa using q), k0 := fun q => put_ne _ (by decide) (h'.k0 (by simpa using q)), k1 := fun q => (h'.k1 (by simpa using q)).imp fun _ g => ⟨put_ne _ (by decide) (g.1), g.2⟩, k2 := fun q => put_ne _ (by decide) (h'.k2 (by simpa using q)), k3 := fun q => (h'.k3 (by simpa using q)).imp fun _ g => ⟨put_ne _ (by decide) (g.1), g.2.1, g.2.2⟩, k4 := fun q => (h'.k4 (by simpa using q)).imp fun _ g => g.imp fun _ g => ⟨put_ne _ (by decide) (g.1), g.2.1, g.2.2⟩, k5 := fun q => (h'.k5 (by simpa using q)).imp fun _ g => ⟨put_ne _ (by decide) (g.1), g.2⟩, k6 := fun q => put_ne _ (by decide) (h'.k6 (by simpa using q)), k7 := fun q => (h'.k7 (by simpa using q)).imp fun _ g => ⟨put_ne _ (by decide) (g.1), g.2.1, g.2.2⟩, k8 := fun q => (h'.k8 (by simpa using q)).imp fun _ g => ⟨put_ne _ (by decide) (g.1), g.2⟩, k9 := fun _ => ⟨1, put_at _ (by have := h'.off.size; omega), by decide⟩, k10 := fun q => (h'.k10 (by simpa using q)).imp fun _ g => g.imp fun _ g => ⟨put_ne _ (by decide) (g.1), g.2.1, g.2.2⟩, k11 := fun q q' => (h'.k11 (by simpa using q) (by simpa using q')).imp fun _ g => ⟨put_ne _ (by decide) (g.1), g.2⟩, k12 := fun q => (h'.k12 (by simpa using q)).imp fun _ g => g.imp fun _ g => g.imp fun _ g => ⟨put_ne _ (by decide) (g.1), g.2.1, g.2.2.1, g.2.2.2.1, g.2.2.2.2⟩ }
      · go_simp
        exact hK' _ _ { off := h'.off.put (by decide) _, ac := h'.ac, bx := h'.bx, rt := h'.rt, hs := h'.hs, hb := h'.hb, d12_11 := fun q => by simpa using h'.d12_11 (by simpa using q), k0 := fun q => put_ne _ (by decide) (h'.k0 (by simpa using q)), k1 := fun q => (h'.k1 (by simpa using q)).imp fun _ g => ⟨put_ne _ (by decide) (g.1), g.2⟩, k2 := fun q => put_ne _ (by decide) (h'.k2 (by simpa using q)), k3 := fun q => (h'.k3 (by simpa using q)).imp fun _ g => ⟨put_ne _ (by decide) (g.1), g.2.1, g.2.2⟩, k4 := fun q => (h'.k4 (by simpa using q)).imp fun _ g => g.imp fun _ g => ⟨put_ne _ (by decide) (g.1), g.2.1, g.2.2⟩, k5 := fun q => (h'.k5 (by simpa using q)).imp fun _ g => ⟨put_ne _ (by decide) (g.1), g.2⟩, k6 := fun q => put_ne _ (by decide) (h'.k6 (by simpa using q)), k7 := fun q => (h'.k7 (by simpa using q)).imp fun _ g => ⟨put_ne _ (by decide) (g.1), g.2.1, g.2.2⟩, k8 := fun q => (h'.k8 (by simpa using q)).imp fun _ g => ⟨put_ne _ (by decide) (g.1), g.2⟩, k9 := fun _ => ⟨-1, put_at _ (by have := h'.off.size; omega), by decide⟩, k10 := fun q => (h'.k10 (by simpa using q)).imp fun _ g => g.imp fun _ g => ⟨put_ne _ (by decide) (g.1), g.2.1, g.2.2⟩, k11 := fun q q' => (h'.k11 (by simpa using q) (by simpa using q')).imp fun _ g => ⟨put_ne _ (by decide) (g.1), g.2⟩, k12 := fun q => (h'.k12 (by simpa using q)).imp fun _ g => g.imp fun _ g => g.imp fun _ g => ⟨put_ne _ (by decide) (g.1), g.2.1, g.2.2.1, g.2.2.2.1, g.2.2.2.2⟩ }
    | 10, ho, hLi, hK' =>
      cases ho
      have ea := h'.k0 (hdeps ⟨0, .data⟩ (by simp) (by rfl))
      obtain ⟨p5, eb, q50⟩ := h'.k5 (hdeps ⟨5, .data⟩ (by simp) (by rfl))
      obtain ⟨d9, ec, q90⟩ := h'.k9 (hdeps ⟨9, .data⟩ (by simp) (by rfl))
      go_simp
      exact hK' _ _ { off := h'.off.put (by decide) _, ac := h'.ac, bx := h'.bx, rt := h'.rt, hs := h'.hs, hb := h'.hb, d12_11 := fun q => by simpa using h'.d12_11 (by simpa using q), k0 := fun q => put_ne _ (by decide) (h'.k0 (by simpa using q)), k1 := fun q => (h'.k1 (by simpa using q)).imp fun _ g => ⟨put_ne _ (by decide) (g.1), g.2⟩, k2 := fun q => put_ne _ (by decide) (h'.k2 (by simpa using q)), k3 := fun q => (h'.k3 (by simpa using q)).imp fun _ g => ⟨put_ne _ (by decide) (g.1), g.2.1, g.2.2⟩, k4 := fun q => (h'.k4 (by simpa using q)).imp fun _ g => g.imp fun _ g => ⟨put_ne _ (by decide) (g.1), g.2.1, g.2.2⟩, k5 := fun q => (h'.k5 (by simpa using q)).imp fun _ g => ⟨put_ne _ (by decide) (g.1), g.2⟩, k6 := fun q => put_ne _ (by decide) (h'.k6 (by simpa using q)), k7 := fun q => (h'.k7 (by simpa using q)).imp fun _ g => ⟨put_ne _ (by decide) (g.1), g.2.1, g.2.2⟩, k8 := fun q => (h'.k8 (by simpa using q)).imp fun _ g => ⟨put_ne _ (by decide) (g.1), g.2⟩, k9 := fun q => (h'.k9 (by simpa using q)).imp fun _ g => ⟨put_ne _ (by decide) (g.1), g.2⟩, k10 := fun _ => ⟨p5, d9, put_at _ (by have := h'.off.size; omega), q50, q90⟩, k11 := fun q q' => (h'.k11 (by simpa using q) (by simpa using q')).imp fun _ g => ⟨put_ne _ (by decide) (g.1), g.2⟩, k12 := fun q => (h'.k12 (by simpa using q)).imp fun _ g => g.imp fun _ g => g.imp fun _ g => ⟨put_ne _ (by decide) (g.1), g.2.1, g.2.2.1, g.2.2.2.1, g.2.2.2.2⟩ }
    | 11, ho, hLi, hK' =>
      cases ho
      have hb := (Below.refl wx.heap.size wx).alloc (Nat.le_refl _) (.cells zeroI 27)
      have hlt := Nat.lt_of_lt_of_le h'.hs h'.ac.ch.size
      have hge := h'.bx.lt
      go_simp
      exact hK' _ _ { off := h'.off.put (by decide) _, ac := h'.ac.next hb, bx := h'.bx.next hb, rt := h'.rt.draw (Chg.of hb) (show w.heap.size + 1 ≠ sb by have := h'.hs; omega), hs := h'.hs, hb := h'.hb, d12_11 := fun _ => by simp, k0 := fun q => put_ne _ (by decide) (h'.k0 (by simpa using q)), k1 := fun q => (h'.k1 (by simpa using q)).imp fun _ g => ⟨put_ne _ (by decide) (g.1), (g.2).draw (Chg.of hb)⟩, k2 := fun q => put_ne _ (by decide) (h'.k2 (by simpa using q)), k3 := fun q => (h'.k3 (by simpa using q)).imp fun _ g => ⟨put_ne _ (by decide) (g.1), g.2.1, g.2.2⟩, k4 := fun q => (h'.k4 (by simpa using q)).imp fun _ g => g.imp fun _ g => ⟨put_ne _ (by decide) (g.1), (g.2.1).draw (Chg.of hb), g.2.2⟩, k5 := fun q => (h'.k5 (by simpa using q)).imp fun _ g => ⟨put_ne _ (by decide) (g.1), g.2⟩, k6 := fun q => put_ne _ (by decide) (h'.k6 (by simpa using q)), k7 := fun q => (h'.k7 (by simpa using q)).imp fun _ g => ⟨put_ne _ (by decide) (g.1), g.2.1, g.2.2⟩, k8 := fun q => (h'.k8 (by simpa using q)).imp fun _ g => ⟨put_ne _ (by decide) (g.1), g.2⟩, k9 := fun q => (h'.k9 (by simpa using q)).imp fun _ g => ⟨put_ne _ (by decide) (g.1), g.2⟩, k10 := fun q => (h'.k10 (by simpa using q)).imp fun _ g => g.imp fun _ g => ⟨put_ne _ (by decide) (g.1), g.2.1, g.2.2⟩, k11 := fun _ _ => ⟨wx.heap.size, put_at _ (by have := h'.off.size; omega), Nw.fresh22 wx _ sb _ hge hlt⟩, k12 := fun q => absurd (h'.d12_11 (by simpa using q)) (by simp [hLi]) }
    | 12, ho, hLi, hK' =>
      cases ho
      have l11 := (hdeps ⟨11, .data⟩ (by simp) (by rfl))
      obtain ⟨g, ea, hN⟩ := h'.k11 l11 hLi
      obtain ⟨p, d, eb, hp, hd⟩ := h'.k10 (hdeps ⟨10, .data⟩ (by simp) (by rfl))
      have hge := hN.ge
      have hsg : sb ≠ g := fun e => hN.ne e.symm
      have hs0 := h'.hs
      have hb0 := h'.hb
      have hbg : b0 ≤ g := by omega
      have hwg : w.heap.size ≤ g := by omega
      have hcg : ∀ p ∈ ([(⟨w.heap.size, 0, none⟩, .int .i64 x), (⟨w.heap.size, 1, none⟩, .int .i64 y), (⟨w.heap.size, 2, none⟩, .int .i64 z)] : List (Addr × Value)), p.1.block ≠ g := by simp [List.forall_mem_cons] <;> omega
      refine wp_store_mid 27 (.tmp 7) (.tmp 30) rfl g 0 (itL (⟨3, 0, x, y, z, 0, 0, 0, p, 0, 0, 0, d, false, 0, false, 0, 0, 0, 0, 0, false⟩ : Itm)).toArray (eval_of ea) (eval_of eb) hN.th (by kernel_rfl) (one_itL _) ?_
      exact hK' _ _ { off := h'.off, ac := h'.ac.far hsg hbg hwg _ _, bx := Lf.fars hbg hcg _ _ h'.bx, rt := h'.rt.far _, hs := h'.hs, hb := h'.hb, d12_11 := fun _ => by simpa using l11, k0 := fun q => (h'.k0 (by simpa using q)), k1 := fun q => (h'.k1 (by simpa using q)).imp fun _ g => ⟨g.1, (g.2).far ((g.2).off hN rfl (by decide)) _⟩, k2 := fun q => (h'.k2 (by simpa using q)), k3 := fun q => (h'.k3 (by simpa using q)).imp fun _ g => ⟨g.1, g.2.1, g.2.2⟩, k4 := fun q => (h'.k4 (by simpa using q)).imp fun _ g => g.imp fun _ g => ⟨g.1, (g.2.1).far ((g.2.1).off hN rfl (by decide)) _, g.2.2⟩, k5 := fun q => (h'.k5 (by simpa using q)).imp fun _ g => ⟨g.1, g.2⟩, k6 := fun q => (h'.k6 (by simpa using q)), k7 := fun q => (h'.k7 (by simpa using q)).imp fun _ g => ⟨g.1, g.2.1, g.2.2⟩, k8 := fun q => (h'.k8 (by simpa using q)).imp fun _ g => ⟨g.1, g.2⟩, k9 := fun q => (h'.k9 (by simpa using q)).imp fun _ g => ⟨g.1, g.2⟩, k10 := fun q => (h'.k10 (by simpa using q)).imp fun _ g => g.imp fun _ g => ⟨g.1, g.2.1, g.2.2⟩, k11 := fun _ q => absurd q (by simp), k12 := fun _ => ⟨g, p, d, ea, It.put hN, hp, hd, hge⟩ }
    | i + 13, ho, hLi, hK' => cases ho
  · intro L a wx h' hall
    have z0 := h'.k0 (hall 0 (by decide))
    obtain ⟨h1, z1, q10⟩ := h'.k1 (hall 1 (by decide))
    have z2 := h'.k2 (hall 2 (by decide))
    obtain ⟨r3, z3, q30, q31⟩ := h'.k3 (hall 3 (by decide))
    obtain ⟨h4, r4, z4, q40, q41⟩ := h'.k4 (hall 4 (by decide))
    obtain ⟨p5, z5, q50⟩ := h'.k5 (hall 5 (by decide))
    have z6 := h'.k6 (hall 6 (by decide))
    obtain ⟨r7, z7, q70, q71⟩ := h'.k7 (hall 7 (by decide))
    obtain ⟨r8, z8, q80⟩ := h'.k8 (hall 8 (by decide))
    obtain ⟨d9, z9, q90⟩ := h'.k9 (hall 9 (by decide))
    obtain ⟨p10, d10, z10, q100, q101⟩ := h'.k10 (hall 10 (by decide))
    obtain ⟨g12, p12, d12, z12, q120, q121, q122, q123⟩ := h'.k12 (hall 12 (by decide))
    have hfr := h'.off.rebuild (fun d' => if d' = 20 then .agg #[.int .i64 x, .int .i64 y, .int .i64 z] else if d' = 21 then .slice (some ⟨h1, 0, none⟩) 3 3 else if d' = 22 then .pointer (some ⟨sb, 0, none⟩) else if d' = 23 then .int .i64 (r3) else if d' = 24 then .pointer (some ⟨h4, r4, none⟩) else if d' = 25 then .int .i64 (p5) else if d' = 26 then .pointer (some ⟨sb, 0, none⟩) else if d' = 27 then .int .i64 (r7) else if d' = 28 then .int .i64 (r8) else if d' = 29 then .int .i64 (d9) else if d' = 30 then .agg (itL (⟨3, 0, x, y, z, 0, 0, 0, p10, 0, 0, 0, d10, false, 0, false, 0, 0, 0, 0, 0, false⟩ : Itm)).toArray else if d' = 7 then .pointer (some ⟨g12, 0, none⟩) else undef) (by
      intro d' hd'
      simp only [List.mem_cons, List.not_mem_nil, or_false] at hd'
      rcases hd' with rfl | rfl | rfl | rfl | rfl | rfl | rfl | rfl | rfl | rfl | rfl | rfl
      · exact z0
      · exact z1
      · exact z2
      · exact z3
      · exact z4
      · exact z5
      · exact z6
      · exact z7
      · exact z8
      · exact z9
      · exact z10
      · exact z12
      )
    simp only [List.foldl_cons, List.foldl_nil] at hfr
    rw [← HA.out] at hfr
    have hAc := h'.ac
    have hBx := h'.bx
    have hRt := h'.rt
    rw [hfr]
    clear hfr h' hall HA hsz hA0 hA4 z0 z1 z2 z3 z4 z5 z6 z7 z8 z9 z10 z12 q10 q30 q31 q40 q41 q50 q70 q71 q80 q90 q100 q101 hT
    simp [Act.put]
    --CUT1
    have hIt := q120
    clear q120
    have hp := q121
    have hd := q122
    have hg := q123
    clear q121 q122 q123
    generalize p12 = p at *
    generalize d12 = d at *
    generalize g12 = g at *
    go_wp2_with fail
    refine (NX m _ m1 (by omega) hAc.src).out.mono ?_
    rintro e w3 ⟨r, rfl, r0, r1, hs, hc⟩
    have hAc := hAc.draw hs hc
    have hBx := hBx.draw hc hbs (by simp [List.forall_mem_cons] <;> omega)
    have hRt := hRt.draw hc (by omega)
    have hIt := hIt.draw hc
    clear hs hc
    go_wp2_with fail
    refine (NX 4 _ (by decide) (by decide) hAc.src).out.mono ?_
    rintro e w4 ⟨k, rfl, k0, k1, hs, hc⟩
    have hAc := hAc.draw hs hc
    have hBx := hBx.draw hc hbs (by simp [List.forall_mem_cons] <;> omega)
    have hRt := hRt.draw hc (by omega)
    have hIt := hIt.draw hc
    clear hs hc
    go_wp2_with fail
    refine (NX 4 _ (by decide) (by decide) hAc.src).out.mono ?_
    rintro e w5 ⟨q, rfl, q0, q1, hs, hc⟩
    have hAc := hAc.draw hs hc
    have hBx := hBx.draw hc hbs (by simp [List.forall_mem_cons] <;> omega)
    have hRt := hRt.draw hc (by omega)
    have hIt := hIt.draw hc
    clear hs hc
    --CUT2
    have kc := hBx.cells
    simp only [List.forall_mem_cons, List.not_mem_nil, false_implies, implies_true, and_true] at kc
    obtain ⟨y0, y1, y2⟩ := kc
    have y8 : w5.cell? ⟨g, 8, none⟩ = some (.int .i64 p) := hIt.c.rg 8 (.int .i64 p) rfl
    have bU := plU_bd (k := p) hx hy hz
    have bW := plW_bd (k := p) hx hy hz
    have bH := plH_bd (k := p) hx hy hz
    obtain ⟨U, eU⟩ : ∃ U, U = plU p x y z := ⟨_, rfl⟩
    obtain ⟨W, eW⟩ : ∃ W, W = plW p x y z := ⟨_, rfl⟩
    obtain ⟨H, eH⟩ : ∃ H, H = plH p x y z := ⟨_, rfl⟩
    have PL := fun w => Lib.hid (planeR_any p x y z w hp)
    rewrite [← eU, ← eW, ← eH] at PL
    rewrite [← eU] at bU
    rewrite [← eW] at bW
    rewrite [← eH] at bH
    have EU := Lib.hid eU
    have EW := Lib.hid eW
    have EH := Lib.hid eH
    clear eU eW eH
    go_wp2_with fail
    refine (PL _).out.mono ?_
    rintro e w6 ⟨rfl, hb⟩
    clear y0 y1 y2 y8 PL
    clear hBx
    have hc := Chg.of (sb := sb) hb
    have hAc := hAc.next hb
    have hRt := hRt.draw hc (by omega)
    have hIt := hIt.draw hc
    clear hb hc
    have T1 := fun w => Lib.hid (turned_any (8 + r) k w (by omega) (by omega) k0 (by omega))
    have T2 := fun w => Lib.hid (turned_any (8 + r) (k + q) w (by omega) (by omega) (by omega) (by omega))
    have ba := tuX_bd (8 + r) k (by omega)
    have bb := tuY_bd (8 + r) k (by omega)
    have bc := tuX_bd (8 + r) (k + q) (by omega)
    have bd := tuY_bd (8 + r) (k + q) (by omega)
    obtain ⟨a, ea⟩ : ∃ a, a = tuX (8 + r) k := ⟨_, rfl⟩
    obtain ⟨b, eb⟩ : ∃ b, b = tuY (8 + r) k := ⟨_, rfl⟩
    obtain ⟨c, ec⟩ : ∃ c, c = tuX (8 + r) (k + q) := ⟨_, rfl⟩
    obtain ⟨f, ef⟩ : ∃ f, f = tuY (8 + r) (k + q) := ⟨_, rfl⟩
    rewrite [← ea, ← eb] at T1
    rewrite [← ec, ← ef] at T2
    rewrite [← ea] at ba
    rewrite [← eb] at bb
    rewrite [← ec] at bc
    rewrite [← ef] at bd
    have EA := Lib.hid ea
    have EB := Lib.hid eb
    have EC := Lib.hid ec
    have EF := Lib.hid ef
    clear ea eb ec ef
    go_wp2_with fail
    refine (T1 _).out.mono ?_
    rintro e w7 ⟨rfl, hb⟩
    have hc := Chg.of (sb := sb) hb
    have hAc := hAc.next hb
    have hRt := hRt.draw hc (by omega)
    have hIt := hIt.draw hc
    clear hb hc
    go_wp2_with fail
    refine (T2 _).out.mono ?_
    rintro e w8 ⟨rfl, hb⟩
    have hc := Chg.of (sb := sb) hb
    have hAc := hAc.next hb
    have hRt := hRt.draw hc (by omega)
    have hIt := hIt.draw hc
    clear hb hc
    clear T1 T2
    --CUT3
    have y8 : w8.cell? ⟨g, 8, none⟩ = some (.int .i64 p) := hIt.c.rg 8 (.int .i64 p) rfl
    have SP := fun (u v h : Int) w => Lib.hid (spaceR_any p u v h w hp)
    go_wp2_with fail
    refine (SP _ _ _ _).out.mono ?_
    rintro e w9 ⟨rfl, hb⟩
    clear y8
    have hc := Chg.of (sb := sb) hb
    have hAc := hAc.next hb
    have hRt := hRt.draw hc (by omega)
    have hIt := hIt.draw hc
    clear hb hc
    go_upto_region 7 with fail
    have hs9 := Nat.lt_of_lt_of_le hsb hAc.ch.size
    have hw9 := hAc.ch.size
    have hb := (Below.refl w9.heap.size w9).alloc (Nat.le_refl _) (.cells #[.int .i64 (spX p (U - a) (W - b) H), .int .i64 (spY p (U - a) (W - b) H), .int .i64 (spZ p (U - a) (W - b) H)] 47)
    have hc := Chg.of (sb := sb) hb
    refine wp_cls (fun wr => Ac b0 sb w wr ∧ It ((⟨3, 0, x, y, z, 0, 0, 0, p, 0, 0, 0, d, false, 0, false, 0, 0, 0, 0, 0, false⟩ : Itm)) g sb wr ∧ Th (w.heap.size + 1) wr ∧ Lit w9.heap.size sb [spX p (U - a) (W - b) H, spY p (U - a) (W - b) H, spZ p (U - a) (W - b) H] wr ∧ g < w9.heap.size ∧ w9.heap.size < wr.heap.size) ⟨?_, ?_, ?_, ?_, ?_, ?_⟩ ?_
    · exact hAc.next hb
    · exact hIt.draw hc
    · exact hRt.draw hc (show w.heap.size + 1 ≠ sb by omega)
    · exact Lit.fresh [spX p (U - a) (W - b) H, spY p (U - a) (W - b) H, spZ p (U - a) (W - b) H] _ hs9
    · exact hIt.c.lt
    · simp
    generalize w9.heap.size = g2 at *
    clear hb hc hw9 hAc hIt hRt
    rintro w10 ⟨hAc, hIt, hRt, hCt, hgg, hg2⟩
    --CUT4

    go_cut [83] (fun s wx => ∃ bv : Bool, s = .bool bv ∧ (bv = true → 0 < q) ∧ Ac b0 sb w wx ∧ It ((⟨3, 0, x, y, z, 0, 0, 0, p, 0, 0, 0, d, false, 0, false, 0, 0, 0, 0, 0, false⟩ : Itm)) g sb wx ∧ Th (w.heap.size + 1) wx ∧ Lit g2 sb [spX p (U - a) (W - b) H, spY p (U - a) (W - b) H, spZ p (U - a) (W - b) H] wx)
    case first =>
      by_cases hq : q = 0
      · subst hq
        go_wp2_with fail
        go_meet
        exact ⟨false, rfl, (fun e => nomatch e), hAc, hIt, hRt, hCt⟩
      · have hq0 : 0 < q := by omega
        go_wp2_with fail
        refine (NX 3 _ (by decide) (by decide) hAc.src).out.mono ?_
        rintro e w11 ⟨v, rfl, v0, v1, hs, hc⟩
        have hAc := hAc.draw hs hc
        have hRt := hRt.draw hc (by omega)
        have hIt := hIt.draw hc
        have hCt := hCt.draw hc
        clear hs hc

        by_cases hv : v = 0
        · subst hv
          go_wp2_with fail
          go_meet
          exact ⟨true, rfl, fun _ => hq0, hAc, hIt, hRt, hCt⟩
        · go_wp2_with fail
          go_meet
          exact ⟨false, by simp [hv], (fun e => nomatch e), hAc, hIt, hRt, hCt⟩
    case rest =>
      obtain ⟨bv, rfl, hbv, hAc, hIt, hRt, hCt⟩ := hcut
      go_upto_if 83 with fail
      go_cut [16, 17] (fun s t wx => ∃ n c2 f2 : Int, s = .int .i64 c2 ∧ t = .int .i64 f2 ∧ 0 ≤ n ∧ n ≤ 4 ∧ (q = 0 → n = 0) ∧ Hid (c2 = tuX (8 + r + n) (k + q)) ∧ Hid (f2 = tuY (8 + r + n) (k + q)) ∧ Ac b0 sb w wx ∧ It ((⟨3, 0, x, y, z, 0, 0, 0, p, 0, 0, 0, d, false, 0, false, 0, 0, 0, 0, 0, false⟩ : Itm)) g sb wx ∧ Th (w.heap.size + 1) wx ∧ Lit g2 sb [spX p (U - a) (W - b) H, spY p (U - a) (W - b) H, spZ p (U - a) (W - b) H] wx)
      case first =>
        cases bv
        · go_wp2_with fail
          go_meet
          exact ⟨0, c, f, rfl, rfl, by decide, by decide, fun _ => rfl, Lib.hid (by rw [Int.add_zero]; exact EC.out), Lib.hid (by rw [Int.add_zero]; exact EF.out), hAc, hIt, hRt, hCt⟩
        · have hq0 := hbv rfl
          clear hbv
          obtain ⟨cu, f1, cu1, cu2, cu3⟩ : ∃ cu, c.tdiv (8 + r) = cu ∧ -1 ≤ cu ∧ cu ≤ 1 ∧ Hid (cu = tuX 1 (k + q)) := ⟨_, rfl, by rw [EC.out, tuX_quo _ _ (by omega)]; exact (tuX_bd 1 _ (by decide)).1, by rw [EC.out, tuX_quo _ _ (by omega)]; exact (tuX_bd 1 _ (by decide)).2, Lib.hid (by rw [EC.out, tuX_quo _ _ (by omega)])⟩
          obtain ⟨fu, f2, fu1, fu2, fu3⟩ : ∃ fu, f.tdiv (8 + r) = fu ∧ -1 ≤ fu ∧ fu ≤ 1 ∧ Hid (fu = tuY 1 (k + q)) := ⟨_, rfl, by rw [EF.out, tuY_quo _ _ (by omega)]; exact (tuY_bd 1 _ (by decide)).1, by rw [EF.out, tuY_quo _ _ (by omega)]; exact (tuY_bd 1 _ (by decide)).2, Lib.hid (by rw [EF.out, tuY_quo _ _ (by omega)])⟩
          have F1 := Lib.hid f1
          have F2 := Lib.hid f2
          clear f1 f2
          go_upto_region 8 with fail
          --CUT5
          have f1 := F1.out
          have f2 := F2.out
          generalize hA : (Act.mk _ _) = A
          have hsz : A.tmps.size = 140 := by rw [← hA]; rfl
          have hA0 : A.tmps[0]? = some (.pointer (some ⟨sb, 0, none⟩)) := by rw [← hA]; rfl
          have hA8 : A.tmps[8]? = some (.int .i64 (8 + r)) := by rw [← hA]; rfl
          have hA16 : A.tmps[16]? = some (.int .i64 (c)) := by rw [← hA]; rfl
          have hA17 : A.tmps[17]? = some (.int .i64 (f)) := by rw [← hA]; rfl
          have HA := Lib.hid hA
          clear hA
          refine wp_region_inv (fun L aa wx => A8 b0 sb ((⟨3, 0, x, y, z, 0, 0, 0, p, 0, 0, 0, d, false, 0, false, 0, 0, 0, 0, 0, false⟩ : Itm)) g g2 (w.heap.size + 1) [spX p (U - a) (W - b) H, spY p (U - a) (W - b) H, spZ p (U - a) (W - b) H] c f cu fu (8 + r) w A L aa wx) (by kernel_rfl) (by kernel_rfl) ?_ ?_ ?_
          · have hD := (Below.refl wc.heap.size wc).drew
            have hc := Chg.of (sb := sb) hD
            exact (by constructor <;> first | exact OffOf.refl _ _ | exact hAc.next hD | exact hIt.draw hc | exact hRt.draw hc (show w.heap.size + 1 ≠ sb by omega) | exact hCt.draw hc | exact (show w.heap.size + 1 ≠ sb by omega) | exact fun _ => hA16 | exact fun _ => hA17 | (intro h; exact nomatch h) | (intro h _; exact nomatch h))
          · intro i o ho L aa wx h' hLi hdeps K hK'
            match i, ho, hLi, hK' with
            | 0, ho, hLi, hK' =>
              cases ho
              have n16 : L 16 = false := by
                cases e : L 16
                · rfl
                · exact absurd (h'.d7_0 (h'.d16_7 e)) (by simp [hLi])
              have ea := h'.s16 n16
              go_simp
              exact hK' _ _ { off := h'.off.put (by decide) _, ac := h'.ac, it := h'.it, rt := h'.rt, ct := h'.ct, hr := h'.hr, d16_7 := fun q => by simpa using h'.d16_7 (by simpa using q), d7_0 := fun _ => by simp, d7_6 := fun q => by simpa using h'.d7_6 (by simpa using q), d6_3 := fun q => by simpa using h'.d6_3 (by simpa using q), d3_1 := fun q => by simpa using h'.d3_1 (by simpa using q), d17_15 := fun q => by simpa using h'.d17_15 (by simpa using q), d15_8 := fun q => by simpa using h'.d15_8 (by simpa using q), d15_14 := fun q => by simpa using h'.d15_14 (by simpa using q), d14_11 := fun q => by simpa using h'.d14_11 (by simpa using q), d11_9 := fun q => by simpa using h'.d11_9 (by simpa using q), k0 := fun _ => put_at _ (by have := h'.off.size; omega), k1 := fun q => put_ne _ (by decide) (h'.k1 (by simpa using q)), k2 := fun q => put_ne _ (by decide) (h'.k2 (by simpa using q)), k3 := fun q => put_ne _ (by decide) (h'.k3 (by simpa using q)), k4 := fun q => put_ne _ (by decide) (h'.k4 (by simpa using q)), k5 := fun q => (h'.k5 (by simpa using q)).imp fun _ g => ⟨put_ne _ (by decide) (g.1), g.2.1, g.2.2⟩, k6 := fun q => (h'.k6 (by simpa using q)).imp fun _ g => ⟨put_ne _ (by decide) (g.1), g.2.1, g.2.2⟩, k7 := fun q => (h'.k7 (by simpa using q)).imp fun _ g => ⟨put_ne _ (by decide) (g.1), g.2.1, g.2.2⟩, k8 := fun q => put_ne _ (by decide) (h'.k8 (by simpa using q)), k9 := fun q => put_ne _ (by decide) (h'.k9 (by simpa using q)), k10 := fun q => put_ne _ (by decide) (h'.k10 (by simpa using q)), k11 := fun q => put_ne _ (by decide) (h'.k11 (by simpa using q)), k12 := fun q => put_ne _ (by decide) (h'.k12 (by simpa using q)), k13 := fun q => (h'.k13 (by simpa using q)).imp fun _ g => ⟨put_ne _ (by decide) (g.1), g.2.1, g.2.2⟩, k14 := fun q => (h'.k14 (by simpa using q)).imp fun _ g => ⟨put_ne _ (by decide) (g.1), g.2.1, g.2.2⟩, k15 := fun q => (h'.k15 (by simpa using q)).imp fun _ g => ⟨put_ne _ (by decide) (g.1), g.2.1, g.2.2⟩, k16 := fun q => (h'.k16 (by simpa using q)).imp fun _ g => ⟨put_ne _ (by decide) (g.1), g.2.1, g.2.2⟩, k17 := fun q => (h'.k17 (by simpa using q)).imp fun _ g => ⟨put_ne _ (by decide) (g.1), g.2.1, g.2.2⟩, s16 := fun q => put_ne _ (by decide) (h'.s16 (by simpa using q)), s17 := fun q => put_ne _ (by decide) (h'.s17 (by simpa using q)) }
            | 1, ho, hLi, hK' =>
              cases ho
              have n16 : L 16 = false := by
                cases e : L 16
                · rfl
                · exact absurd (h'.d3_1 (h'.d6_3 (h'.d7_6 (h'.d16_7 e)))) (by simp [hLi])
              have ea := h'.s16 n16
              go_simp
              exact hK' _ _ { off := h'.off.put (by decide) _, ac := h'.ac, it := h'.it, rt := h'.rt, ct := h'.ct, hr := h'.hr, d16_7 := fun q => by simpa using h'.d16_7 (by simpa using q), d7_0 := fun q => by simpa using h'.d7_0 (by simpa using q), d7_6 := fun q => by simpa using h'.d7_6 (by simpa using q), d6_3 := fun q => by simpa using h'.d6_3 (by simpa using q), d3_1 := fun _ => by simp, d17_15 := fun q => by simpa using h'.d17_15 (by simpa using q), d15_8 := fun q => by simpa using h'.d15_8 (by simpa using q), d15_14 := fun q => by simpa using h'.d15_14 (by simpa using q), d14_11 := fun q => by simpa using h'.d14_11 (by simpa using q), d11_9 := fun q => by simpa using h'.d11_9 (by simpa using q), k0 := fun q => put_ne _ (by decide) (h'.k0 (by simpa using q)), k1 := fun _ => put_at _ (by have := h'.off.size; omega), k2 := fun q => put_ne _ (by decide) (h'.k2 (by simpa using q)), k3 := fun q => put_ne _ (by decide) (h'.k3 (by simpa using q)), k4 := fun q => put_ne _ (by decide) (h'.k4 (by simpa using q)), k5 := fun q => (h'.k5 (by simpa using q)).imp fun _ g => ⟨put_ne _ (by decide) (g.1), g.2.1, g.2.2⟩, k6 := fun q => (h'.k6 (by simpa using q)).imp fun _ g => ⟨put_ne _ (by decide) (g.1), g.2.1, g.2.2⟩, k7 := fun q => (h'.k7 (by simpa using q)).imp fun _ g => ⟨put_ne _ (by decide) (g.1), g.2.1, g.2.2⟩, k8 := fun q => put_ne _ (by decide) (h'.k8 (by simpa using q)), k9 := fun q => put_ne _ (by decide) (h'.k9 (by simpa using q)), k10 := fun q => put_ne _ (by decide) (h'.k10 (by simpa using q)), k11 := fun q => put_ne _ (by decide) (h'.k11 (by simpa using q)), k12 := fun q => put_ne _ (by decide) (h'.k12 (by simpa using q)), k13 := fun q => (h'.k13 (by simpa using q)).imp fun _ g => ⟨put_ne _ (by decide) (g.1), g.2.1, g.2.2⟩, k14 := fun q => (h'.k14 (by simpa using q)).imp fun _ g => ⟨put_ne _ (by decide) (g.1), g.2.1, g.2.2⟩, k15 := fun q => (h'.k15 (by simpa using q)).imp fun _ g => ⟨put_ne _ (by decide) (g.1), g.2.1, g.2.2⟩, k16 := fun q => (h'.k16 (by simpa using q)).imp fun _ g => ⟨put_ne _ (by decide) (g.1), g.2.1, g.2.2⟩, k17 := fun q => (h'.k17 (by simpa using q)).imp fun _ g => ⟨put_ne _ (by decide) (g.1), g.2.1, g.2.2⟩, s16 := fun q => put_ne _ (by decide) (h'.s16 (by simpa using q)), s17 := fun q => put_ne _ (by decide) (h'.s17 (by simpa using q)) }
            | 2, ho, hLi, hK' =>
              cases ho
              have ea := (h'.off.off 8 (by decide)).trans hA8
              go_simp
              exact hK' _ _ { off := h'.off.put (by decide) _, ac := h'.ac, it := h'.it, rt := h'.rt, ct := h'.ct, hr := h'.hr, d16_7 := fun q => by simpa using h'.d16_7 (by simpa using q), d7_0 := fun q => by simpa using h'.d7_0 (by simpa using q), d7_6 := fun q => by simpa using h'.d7_6 (by simpa using q), d6_3 := fun q => by simpa using h'.d6_3 (by simpa using q), d3_1 := fun q => by simpa using h'.d3_1 (by simpa using q), d17_15 := fun q => by simpa using h'.d17_15 (by simpa using q), d15_8 := fun q => by simpa using h'.d15_8 (by simpa using q), d15_14 := fun q => by simpa using h'.d15_14 (by simpa using q), d14_11 := fun q => by simpa using h'.d14_11 (by simpa using q), d11_9 := fun q => by simpa using h'.d11_9 (by simpa using q), k0 := fun q => put_ne _ (by decide) (h'.k0 (by simpa using q)), k1 := fun q => put_ne _ (by decide) (h'.k1 (by simpa using q)), k2 := fun _ => put_at _ (by have := h'.off.size; omega), k3 := fun q => put_ne _ (by decide) (h'.k3 (by simpa using q)), k4 := fun q => put_ne _ (by decide) (h'.k4 (by simpa using q)), k5 := fun q => (h'.k5 (by simpa using q)).imp fun _ g => ⟨put_ne _ (by decide) (g.1), g.2.1, g.2.2⟩, k6 := fun q => (h'.k6 (by simpa using q)).imp fun _ g => ⟨put_ne _ (by decide) (g.1), g.2.1, g.2.2⟩, k7 := fun q => (h'.k7 (by simpa using q)).imp fun _ g => ⟨put_ne _ (by decide) (g.1), g.2.1, g.2.2⟩, k8 := fun q => put_ne _ (by decide) (h'.k8 (by simpa using q)), k9 := fun q => put_ne _ (by decide) (h'.k9 (by simpa using q)), k10 := fun q => put_ne _ (by decide) (h'.k10 (by simpa using q)), k11 := fun q => put_ne _ (by decide) (h'.k11 (by simpa using q)), k12 := fun q => put_ne _ (by decide) (h'.k12 (by simpa using q)), k13 := fun q => (h'.k13 (by simpa using q)).imp fun _ g => ⟨put_ne _ (by decide) (g.1), g.2.1, g.2.2⟩, k14 := fun q => (h'.k14 (by simpa using q)).imp fun _ g => ⟨put_ne _ (by decide) (g.1), g.2.1, g.2.2⟩, k15 := fun q => (h'.k15 (by simpa using q)).imp fun _ g => ⟨put_ne _ (by decide) (g.1), g.2.1, g.2.2⟩, k16 := fun q => (h'.k16 (by simpa using q)).imp fun _ g => ⟨put_ne _ (by decide) (g.1), g.2.1, g.2.2⟩, k17 := fun q => (h'.k17 (by simpa using q)).imp fun _ g => ⟨put_ne _ (by decide) (g.1), g.2.1, g.2.2⟩, s16 := fun q => put_ne _ (by decide) (h'.s16 (by simpa using q)), s17 := fun q => put_ne _ (by decide) (h'.s17 (by simpa using q)) }
            | 3, ho, hLi, hK' =>
              cases ho
              have ea := h'.k1 (hdeps ⟨1, .data⟩ (by simp) (by rfl))
              have eb := h'.k2 (hdeps ⟨2, .data⟩ (by simp) (by rfl))
              have l1 := (hdeps ⟨1, .data⟩ (by simp) (by rfl))
              have hr0 : ¬ (8 + r) = 0 := by omega
              have wq : IntKind.i64.wrap cu = cu := wr_in (by omega) (by omega)
              go_simp
              try rewrite [f1]
              try rewrite [wq]
              exact hK' _ _ { off := h'.off.put (by decide) _, ac := h'.ac, it := h'.it, rt := h'.rt, ct := h'.ct, hr := h'.hr, d16_7 := fun q => by simpa using h'.d16_7 (by simpa using q), d7_0 := fun q => by simpa using h'.d7_0 (by simpa using q), d7_6 := fun q => by simpa using h'.d7_6 (by simpa using q), d6_3 := fun _ => by simp, d3_1 := fun _ => by simpa using l1, d17_15 := fun q => by simpa using h'.d17_15 (by simpa using q), d15_8 := fun q => by simpa using h'.d15_8 (by simpa using q), d15_14 := fun q => by simpa using h'.d15_14 (by simpa using q), d14_11 := fun q => by simpa using h'.d14_11 (by simpa using q), d11_9 := fun q => by simpa using h'.d11_9 (by simpa using q), k0 := fun q => put_ne _ (by decide) (h'.k0 (by simpa using q)), k1 := fun q => put_ne _ (by decide) (h'.k1 (by simpa using q)), k2 := fun q => put_ne _ (by decide) (h'.k2 (by simpa using q)), k3 := fun _ => put_at _ (by have := h'.off.size; omega), k4 := fun q => put_ne _ (by decide) (h'.k4 (by simpa using q)), k5 := fun q => (h'.k5 (by simpa using q)).imp fun _ g => ⟨put_ne _ (by decide) (g.1), g.2.1, g.2.2⟩, k6 := fun q => (h'.k6 (by simpa using q)).imp fun _ g => ⟨put_ne _ (by decide) (g.1), g.2.1, g.2.2⟩, k7 := fun q => (h'.k7 (by simpa using q)).imp fun _ g => ⟨put_ne _ (by decide) (g.1), g.2.1, g.2.2⟩, k8 := fun q => put_ne _ (by decide) (h'.k8 (by simpa using q)), k9 := fun q => put_ne _ (by decide) (h'.k9 (by simpa using q)), k10 := fun q => put_ne _ (by decide) (h'.k10 (by simpa using q)), k11 := fun q => put_ne _ (by decide) (h'.k11 (by simpa using q)), k12 := fun q => put_ne _ (by decide) (h'.k12 (by simpa using q)), k13 := fun q => (h'.k13 (by simpa using q)).imp fun _ g => ⟨put_ne _ (by decide) (g.1), g.2.1, g.2.2⟩, k14 := fun q => (h'.k14 (by simpa using q)).imp fun _ g => ⟨put_ne _ (by decide) (g.1), g.2.1, g.2.2⟩, k15 := fun q => (h'.k15 (by simpa using q)).imp fun _ g => ⟨put_ne _ (by decide) (g.1), g.2.1, g.2.2⟩, k16 := fun q => (h'.k16 (by simpa using q)).imp fun _ g => ⟨put_ne _ (by decide) (g.1), g.2.1, g.2.2⟩, k17 := fun q => (h'.k17 (by simpa using q)).imp fun _ g => ⟨put_ne _ (by decide) (g.1), g.2.1, g.2.2⟩, s16 := fun q => put_ne _ (by decide) (h'.s16 (by simpa using q)), s17 := fun q => put_ne _ (by decide) (h'.s17 (by simpa using q)) }
            | 4, ho, hLi, hK' =>
              cases ho
              have ea := (h'.off.off 0 (by decide)).trans hA0
              go_simp
              exact hK' _ _ { off := h'.off.put (by decide) _, ac := h'.ac, it := h'.it, rt := h'.rt, ct := h'.ct, hr := h'.hr, d16_7 := fun q => by simpa using h'.d16_7 (by simpa using q), d7_0 := fun q => by simpa using h'.d7_0 (by simpa using q), d7_6 := fun q => by simpa using h'.d7_6 (by simpa using q), d6_3 := fun q => by simpa using h'.d6_3 (by simpa using q), d3_1 := fun q => by simpa using h'.d3_1 (by simpa using q), d17_15 := fun q => by simpa using h'.d17_15 (by simpa using q), d15_8 := fun q => by simpa using h'.d15_8 (by simpa using q), d15_14 := fun q => by simpa using h'.d15_14 (by simpa using q), d14_11 := fun q => by simpa using h'.d14_11 (by simpa using q), d11_9 := fun q => by simpa using h'.d11_9 (by simpa using q), k0 := fun q => put_ne _ (by decide) (h'.k0 (by simpa using q)), k1 := fun q => put_ne _ (by decide) (h'.k1 (by simpa using q)), k2 := fun q => put_ne _ (by decide) (h'.k2 (by simpa using q)), k3 := fun q => put_ne _ (by decide) (h'.k3 (by simpa using q)), k4 := fun _ => put_at _ (by have := h'.off.size; omega), k5 := fun q => (h'.k5 (by simpa using q)).imp fun _ g => ⟨put_ne _ (by decide) (g.1), g.2.1, g.2.2⟩, k6 := fun q => (h'.k6 (by simpa using q)).imp fun _ g => ⟨put_ne _ (by decide) (g.1), g.2.1, g.2.2⟩, k7 := fun q => (h'.k7 (by simpa using q)).imp fun _ g => ⟨put_ne _ (by decide) (g.1), g.2.1, g.2.2⟩, k8 := fun q => put_ne _ (by decide) (h'.k8 (by simpa using q)), k9 := fun q => put_ne _ (by decide) (h'.k9 (by simpa using q)), k10 := fun q => put_ne _ (by decide) (h'.k10 (by simpa using q)), k11 := fun q => put_ne _ (by decide) (h'.k11 (by simpa using q)), k12 := fun q => put_ne _ (by decide) (h'.k12 (by simpa using q)), k13 := fun q => (h'.k13 (by simpa using q)).imp fun _ g => ⟨put_ne _ (by decide) (g.1), g.2.1, g.2.2⟩, k14 := fun q => (h'.k14 (by simpa using q)).imp fun _ g => ⟨put_ne _ (by decide) (g.1), g.2.1, g.2.2⟩, k15 := fun q => (h'.k15 (by simpa using q)).imp fun _ g => ⟨put_ne _ (by decide) (g.1), g.2.1, g.2.2⟩, k16 := fun q => (h'.k16 (by simpa using q)).imp fun _ g => ⟨put_ne _ (by decide) (g.1), g.2.1, g.2.2⟩, k17 := fun q => (h'.k17 (by simpa using q)).imp fun _ g => ⟨put_ne _ (by decide) (g.1), g.2.1, g.2.2⟩, s16 := fun q => put_ne _ (by decide) (h'.s16 (by simpa using q)), s17 := fun q => put_ne _ (by decide) (h'.s17 (by simpa using q)) }
            | 5, ho, hLi, hK' =>
              cases ho
              have ea := h'.k4 (hdeps ⟨4, .data⟩ (by simp) (by rfl))
              go_simp
              refine (NX 5 wx (by decide) (by decide) h'.ac.src).out.mono ?_
              rintro e w2 ⟨r', rfl, r0', r1', hs, hc⟩
              exact hK' _ _ { off := h'.off.put (by decide) _, ac := h'.ac.draw hs hc, it := h'.it.draw hc, rt := h'.rt.draw hc h'.hr, ct := h'.ct.draw hc, hr := h'.hr, d16_7 := fun q => by simpa using h'.d16_7 (by simpa using q), d7_0 := fun q => by simpa using h'.d7_0 (by simpa using q), d7_6 := fun q => by simpa using h'.d7_6 (by simpa using q), d6_3 := fun q => by simpa using h'.d6_3 (by simpa using q), d3_1 := fun q => by simpa using h'.d3_1 (by simpa using q), d17_15 := fun q => by simpa using h'.d17_15 (by simpa using q), d15_8 := fun q => by simpa using h'.d15_8 (by simpa using q), d15_14 := fun q => by simpa using h'.d15_14 (by simpa using q), d14_11 := fun q => by simpa using h'.d14_11 (by simpa using q), d11_9 := fun q => by simpa using h'.d11_9 (by simpa using q), k0 := fun q => put_ne _ (by decide) (h'.k0 (by simpa using q)), k1 := fun q => put_ne _ (by decide) (h'.k1 (by simpa using q)), k2 := fun q => put_ne _ (by decide) (h'.k2 (by simpa using q)), k3 := fun q => put_ne _ (by decide) (h'.k3 (by simpa using q)), k4 := fun q => put_ne _ (by decide) (h'.k4 (by simpa using q)), k5 := fun _ => ⟨r', put_at _ (by have := h'.off.size; omega), r0', r1'⟩, k6 := fun q => (h'.k6 (by simpa using q)).imp fun _ g => ⟨put_ne _ (by decide) (g.1), g.2.1, g.2.2⟩, k7 := fun q => (h'.k7 (by simpa using q)).imp fun _ g => ⟨put_ne _ (by decide) (g.1), g.2.1, g.2.2⟩, k8 := fun q => put_ne _ (by decide) (h'.k8 (by simpa using q)), k9 := fun q => put_ne _ (by decide) (h'.k9 (by simpa using q)), k10 := fun q => put_ne _ (by decide) (h'.k10 (by simpa using q)), k11 := fun q => put_ne _ (by decide) (h'.k11 (by simpa using q)), k12 := fun q => put_ne _ (by decide) (h'.k12 (by simpa using q)), k13 := fun q => (h'.k13 (by simpa using q)).imp fun _ g => ⟨put_ne _ (by decide) (g.1), g.2.1, g.2.2⟩, k14 := fun q => (h'.k14 (by simpa using q)).imp fun _ g => ⟨put_ne _ (by decide) (g.1), g.2.1, g.2.2⟩, k15 := fun q => (h'.k15 (by simpa using q)).imp fun _ g => ⟨put_ne _ (by decide) (g.1), g.2.1, g.2.2⟩, k16 := fun q => (h'.k16 (by simpa using q)).imp fun _ g => ⟨put_ne _ (by decide) (g.1), g.2.1, g.2.2⟩, k17 := fun q => (h'.k17 (by simpa using q)).imp fun _ g => ⟨put_ne _ (by decide) (g.1), g.2.1, g.2.2⟩, s16 := fun q => put_ne _ (by decide) (h'.s16 (by simpa using q)), s17 := fun q => put_ne _ (by decide) (h'.s17 (by simpa using q)) }
            | 6, ho, hLi, hK' =>
              cases ho
              have ea := h'.k3 (hdeps ⟨3, .data⟩ (by simp) (by rfl))
              obtain ⟨n5, eb, q50, q51⟩ := h'.k5 (hdeps ⟨5, .data⟩ (by simp) (by rfl))
              have l3 := (hdeps ⟨3, .data⟩ (by simp) (by rfl))
              have hm := mul_bd n5 (cu) cu1 cu2 q50 q51
              have wm : IntKind.i64.wrap (cu * n5) = cu * n5 := wr_in (by omega) (by omega)
              go_simp
              try rewrite [wm]
              exact hK' _ _ { off := h'.off.put (by decide) _, ac := h'.ac, it := h'.it, rt := h'.rt, ct := h'.ct, hr := h'.hr, d16_7 := fun q => by simpa using h'.d16_7 (by simpa using q), d7_0 := fun q => by simpa using h'.d7_0 (by simpa using q), d7_6 := fun _ => by simp, d6_3 := fun _ => by simpa using l3, d3_1 := fun q => by simpa using h'.d3_1 (by simpa using q), d17_15 := fun q => by simpa using h'.d17_15 (by simpa using q), d15_8 := fun q => by simpa using h'.d15_8 (by simpa using q), d15_14 := fun q => by simpa using h'.d15_14 (by simpa using q), d14_11 := fun q => by simpa using h'.d14_11 (by simpa using q), d11_9 := fun q => by simpa using h'.d11_9 (by simpa using q), k0 := fun q => put_ne _ (by decide) (h'.k0 (by simpa using q)), k1 := fun q => put_ne _ (by decide) (h'.k1 (by simpa using q)), k2 := fun q => put_ne _ (by decide) (h'.k2 (by simpa using q)), k3 := fun q => put_ne _ (by decide) (h'.k3 (by simpa using q)), k4 := fun q => put_ne _ (by decide) (h'.k4 (by simpa using q)), k5 := fun q => (h'.k5 (by simpa using q)).imp fun _ g => ⟨put_ne _ (by decide) (g.1), g.2.1, g.2.2⟩, k6 := fun _ => ⟨n5, put_at _ (by have := h'.off.size; omega), q50, q51⟩, k7 := fun q => (h'.k7 (by simpa using q)).imp fun _ g => ⟨put_ne _ (by decide) (g.1), g.2.1, g.2.2⟩, k8 := fun q => put_ne _ (by decide) (h'.k8 (by simpa using q)), k9 := fun q => put_ne _ (by decide) (h'.k9 (by simpa using q)), k10 := fun q => put_ne _ (by decide) (h'.k10 (by simpa using q)), k11 := fun q => put_ne _ (by decide) (h'.k11 (by simpa using q)), k12 := fun q => put_ne _ (by decide) (h'.k12 (by simpa using q)), k13 := fun q => (h'.k13 (by simpa using q)).imp fun _ g => ⟨put_ne _ (by decide) (g.1), g.2.1, g.2.2⟩, k14 := fun q => (h'.k14 (by simpa using q)).imp fun _ g => ⟨put_ne _ (by decide) (g.1), g.2.1, g.2.2⟩, k15 := fun q => (h'.k15 (by simpa using q)).imp fun _ g => ⟨put_ne _ (by decide) (g.1), g.2.1, g.2.2⟩, k16 := fun q => (h'.k16 (by simpa using q)).imp fun _ g => ⟨put_ne _ (by decide) (g.1), g.2.1, g.2.2⟩, k17 := fun q => (h'.k17 (by simpa using q)).imp fun _ g => ⟨put_ne _ (by decide) (g.1), g.2.1, g.2.2⟩, s16 := fun q => put_ne _ (by decide) (h'.s16 (by simpa using q)), s17 := fun q => put_ne _ (by decide) (h'.s17 (by simpa using q)) }
            | 7, ho, hLi, hK' =>
              cases ho
              have ea := h'.k0 (hdeps ⟨0, .data⟩ (by simp) (by rfl))
              obtain ⟨n6, eb, q60, q61⟩ := h'.k6 (hdeps ⟨6, .data⟩ (by simp) (by rfl))
              have l0 := (hdeps ⟨0, .data⟩ (by simp) (by rfl))
              have l6 := (hdeps ⟨6, .data⟩ (by simp) (by rfl))
              have hm := mul_bd n6 (cu) cu1 cu2 q60 q61
              have wm : IntKind.i64.wrap (c + cu * n6) = c + cu * n6 := wr_in (by omega) (by omega)
              go_simp
              try rewrite [wm]
              exact hK' _ _ { off := h'.off.put (by decide) _, ac := h'.ac, it := h'.it, rt := h'.rt, ct := h'.ct, hr := h'.hr, d16_7 := fun _ => by simp, d7_0 := fun _ => by simpa using l0, d7_6 := fun _ => by simpa using l6, d6_3 := fun q => by simpa using h'.d6_3 (by simpa using q), d3_1 := fun q => by simpa using h'.d3_1 (by simpa using q), d17_15 := fun q => by simpa using h'.d17_15 (by simpa using q), d15_8 := fun q => by simpa using h'.d15_8 (by simpa using q), d15_14 := fun q => by simpa using h'.d15_14 (by simpa using q), d14_11 := fun q => by simpa using h'.d14_11 (by simpa using q), d11_9 := fun q => by simpa using h'.d11_9 (by simpa using q), k0 := fun q => put_ne _ (by decide) (h'.k0 (by simpa using q)), k1 := fun q => put_ne _ (by decide) (h'.k1 (by simpa using q)), k2 := fun q => put_ne _ (by decide) (h'.k2 (by simpa using q)), k3 := fun q => put_ne _ (by decide) (h'.k3 (by simpa using q)), k4 := fun q => put_ne _ (by decide) (h'.k4 (by simpa using q)), k5 := fun q => (h'.k5 (by simpa using q)).imp fun _ g => ⟨put_ne _ (by decide) (g.1), g.2.1, g.2.2⟩, k6 := fun q => (h'.k6 (by simpa using q)).imp fun _ g => ⟨put_ne _ (by decide) (g.1), g.2.1, g.2.2⟩, k7 := fun _ => ⟨n6, put_at _ (by have := h'.off.size; omega), q60, q61⟩, k8 := fun q => put_ne _ (by decide) (h'.k8 (by simpa using q)), k9 := fun q => put_ne _ (by decide) (h'.k9 (by simpa using q)), k10 := fun q => put_ne _ (by decide) (h'.k10 (by simpa using q)), k11 := fun q => put_ne _ (by decide) (h'.k11 (by simpa using q)), k12 := fun q => put_ne _ (by decide) (h'.k12 (by simpa using q)), k13 := fun q => (h'.k13 (by simpa using q)).imp fun _ g => ⟨put_ne _ (by decide) (g.1), g.2.1, g.2.2⟩, k14 := fun q => (h'.k14 (by simpa using q)).imp fun _ g => ⟨put_ne _ (by decide) (g.1), g.2.1, g.2.2⟩, k15 := fun q => (h'.k15 (by simpa using q)).imp fun _ g => ⟨put_ne _ (by decide) (g.1), g.2.1, g.2.2⟩, k16 := fun q => (h'.k16 (by simpa using q)).imp fun _ g => ⟨put_ne _ (by decide) (g.1), g.2.1, g.2.2⟩, k17 := fun q => (h'.k17 (by simpa using q)).imp fun _ g => ⟨put_ne _ (by decide) (g.1), g.2.1, g.2.2⟩, s16 := fun q => put_ne _ (by decide) (h'.s16 (by simpa using q)), s17 := fun q => put_ne _ (by decide) (h'.s17 (by simpa using q)) }
            | 8, ho, hLi, hK' =>
              cases ho
              have n17 : L 17 = false := by
                cases e : L 17
                · rfl
                · exact absurd (h'.d15_8 (h'.d17_15 e)) (by simp [hLi])
              have ea := h'.s17 n17
              go_simp
              exact hK' _ _ { off := h'.off.put (by decide) _, ac := h'.ac, it := h'.it, rt := h'.rt, ct := h'.ct, hr := h'.hr, d16_7 := fun q => by simpa using h'.d16_7 (by simpa using q), d7_0 := fun q => by simpa using h'.d7_0 (by simpa using q), d7_6 := fun q => by simpa using h'.d7_6 (by simpa using q), d6_3 := fun q => by simpa using h'.d6_3 (by simpa using q), d3_1 := fun q => by simpa using h'.d3_1 (by simpa using q), d17_15 := fun q => by simpa using h'.d17_15 (by simpa using q), d15_8 := fun _ => by simp, d15_14 := fun q => by simpa using h'.d15_14 (by simpa using q), d14_11 := fun q => by simpa using h'.d14_11 (by simpa using q), d11_9 := fun q => by simpa using h'.d11_9 (by simpa using q), k0 := fun q => put_ne _ (by decide) (h'.k0 (by simpa using q)), k1 := fun q => put_ne _ (by decide) (h'.k1 (by simpa using q)), k2 := fun q => put_ne _ (by decide) (h'.k2 (by simpa using q)), k3 := fun q => put_ne _ (by decide) (h'.k3 (by simpa using q)), k4 := fun q => put_ne _ (by decide) (h'.k4 (by simpa using q)), k5 := fun q => (h'.k5 (by simpa using q)).imp fun _ g => ⟨put_ne _ (by decide) (g.1), g.2.1, g.2.2⟩, k6 := fun q => (h'.k6 (by simpa using q)).imp fun _ g => ⟨put_ne _ (by decide) (g.1), g.2.1, g.2.2⟩, k7 := fun q => (h'.k7 (by simpa using q)).imp fun _ g => ⟨put_ne _ (by decide) (g.1), g.2.1, g.2.2⟩, k8 := fun _ => put_at _ (by have := h'.off.size; omega), k9 := fun q => put_ne _ (by decide) (h'.k9 (by simpa using q)), k10 := fun q => put_ne _ (by decide) (h'.k10 (by simpa using q)), k11 := fun q => put_ne _ (by decide) (h'.k11 (by simpa using q)), k12 := fun q => put_ne _ (by decide) (h'.k12 (by simpa using q)), k13 := fun q => (h'.k13 (by simpa using q)).imp fun _ g => ⟨put_ne _ (by decide) (g.1), g.2.1, g.2.2⟩, k14 := fun q => (h'.k14 (by simpa using q)).imp fun _ g => ⟨put_ne _ (by decide) (g.1), g.2.1, g.2.2⟩, k15 := fun q => (h'.k15 (by simpa using q)).imp fun _ g => ⟨put_ne _ (by decide) (g.1), g.2.1, g.2.2⟩, k16 := fun q => (h'.k16 (by simpa using q)).imp fun _ g => ⟨put_ne _ (by decide) (g.1), g.2.1, g.2.2⟩, k17 := fun q => (h'.k17 (by simpa using q)).imp fun _ g => ⟨put_ne _ (by decide) (g.1), g.2.1, g.2.2⟩, s16 := fun q => put_ne _ (by decide) (h'.s16 (by simpa using q)), s17 := fun q => put_ne _ (by decide) (h'.s17 (by simpa using q)) }
            | 9, ho, hLi, hK' =>
              cases ho
              have n17 : L 17 = false := by
                cases e : L 17
                · rfl
                · exact absurd (h'.d11_9 (h'.d14_11 (h'.d15_14 (h'.d17_15 e)))) (by simp [hLi])
              have ea := h'.s17 n17
              go_simp
              exact hK' _ _ { off := h'.off.put (by decide) _, ac := h'.ac, it := h'.it, rt := h'.rt, ct := h'.ct, hr := h'.hr, d16_7 := fun q => by simpa using h'.d16_7 (by simpa using q), d7_0 := fun q => by simpa using h'.d7_0 (by simpa using q), d7_6 := fun q => by simpa using h'.d7_6 (by simpa using q), d6_3 := fun q => by simpa using h'.d6_3 (by simpa using q), d3_1 := fun q => by simpa using h'.d3_1 (by simpa using q), d17_15 := fun q => by simpa using h'.d17_15 (by simpa using q), d15_8 := fun q => by simpa using h'.d15_8 (by simpa using q), d15_14 := fun q => by simpa using h'.d15_14 (by simpa using q), d14_11 := fun q => by simpa using h'.d14_11 (by simpa using q), d11_9 := fun _ => by simp, k0 := fun q => put_ne _ (by decide) (h'.k0 (by simpa using q)), k1 := fun q => put_ne _ (by decide) (h'.k1 (by simpa using q)), k2 := fun q => put_ne _ (by decide) (h'.k2 (by simpa using q)), k3 := fun q => put_ne _ (by decide) (h'.k3 (by simpa using q)), k4 := fun q => put_ne _ (by decide) (h'.k4 (by simpa using q)), k5 := fun q => (h'.k5 (by simpa using q)).imp fun _ g => ⟨put_ne _ (by decide) (g.1), g.2.1, g.2.2⟩, k6 := fun q => (h'.k6 (by simpa using q)).imp fun _ g => ⟨put_ne _ (by decide) (g.1), g.2.1, g.2.2⟩, k7 := fun q => (h'.k7 (by simpa using q)).imp fun _ g => ⟨put_ne _ (by decide) (g.1), g.2.1, g.2.2⟩, k8 := fun q => put_ne _ (by decide) (h'.k8 (by simpa using q)), k9 := fun _ => put_at _ (by have := h'.off.size; omega), k10 := fun q => put_ne _ (by decide) (h'.k10 (by simpa using q)), k11 := fun q => put_ne _ (by decide) (h'.k11 (by simpa using q)), k12 := fun q => put_ne _ (by decide) (h'.k12 (by simpa using q)), k13 := fun q => (h'.k13 (by simpa using q)).imp fun _ g => ⟨put_ne _ (by decide) (g.1), g.2.1, g.2.2⟩, k14 := fun q => (h'.k14 (by simpa using q)).imp fun _ g => ⟨put_ne _ (by decide) (g.1), g.2.1, g.2.2⟩, k15 := fun q => (h'.k15 (by simpa using q)).imp fun _ g => ⟨put_ne _ (by decide) (g.1), g.2.1, g.2.2⟩, k16 := fun q => (h'.k16 (by simpa using q)).imp fun _ g => ⟨put_ne _ (by decide) (g.1), g.2.1, g.2.2⟩, k17 := fun q => (h'.k17 (by simpa using q)).imp fun _ g => ⟨put_ne _ (by decide) (g.1), g.2.1, g.2.2⟩, s16 := fun q => put_ne _ (by decide) (h'.s16 (by simpa using q)), s17 := fun q => put_ne _ (by decide) (h'.s17 (by simpa using q)) }
            | 10, ho, hLi, hK' =>
              cases ho
              have ea := (h'.off.off 8 (by decide)).trans hA8
              go_simp
              exact hK' _ _ { off := h'.off.put (by decide) _, ac := h'.ac, it := h'.it, rt := h'.rt, ct := h'.ct, hr := h'.hr, d16_7 := fun q => by simpa using h'.d16_7 (by simpa using q), d7_0 := fun q => by simpa using h'.d7_0 (by simpa using q), d7_6 := fun q => by simpa using h'.d7_6 (by simpa using q), d6_3 := fun q => by simpa using h'.d6_3 (by simpa using q), d3_1 := fun q => by simpa using h'.d3_1 (by simpa using q), d17_15 := fun q => by simpa using h'.d17_15 (by simpa using q), d15_8 := fun q => by simpa using h'.d15_8 (by simpa using q), d15_14 := fun q => by simpa using h'.d15_14 (by simpa using q), d14_11 := fun q => by simpa using h'.d14_11 (by simpa using q), d11_9 := fun q => by simpa using h'.d11_9 (by simpa using q), k0 := fun q => put_ne _ (by decide) (h'.k0 (by simpa using q)), k1 := fun q => put_ne _ (by decide) (h'.k1 (by simpa using q)), k2 := fun q => put_ne _ (by decide) (h'.k2 (by simpa using q)), k3 := fun q => put_ne _ (by decide) (h'.k3 (by simpa using q)), k4 := fun q => put_ne _ (by decide) (h'.k4 (by simpa using q)), k5 := fun q => (h'.k5 (by simpa using q)).imp fun _ g => ⟨put_ne _ (by decide) (g.1), g.2.1, g.2.2⟩, k6 := fun q => (h'.k6 (by simpa using q)).imp fun _ g => ⟨put_ne _ (by decide) (g.1), g.2.1, g.2.2⟩, k7 := fun q => (h'.k7 (by simpa using q)).imp fun _ g => ⟨put_ne _ (by decide) (g.1), g.2.1, g.2.2⟩, k8 := fun q => put_ne _ (by decide) (h'.k8 (by simpa using q)), k9 := fun q => put_ne _ (by decide) (h'.k9 (by simpa using q)), k10 := fun _ => put_at _ (by have := h'.off.size; omega), k11 := fun q => put_ne _ (by decide) (h'.k11 (by simpa using q)), k12 := fun q => put_ne _ (by decide) (h'.k12 (by simpa using q)), k13 := fun q => (h'.k13 (by simpa using q)).imp fun _ g => ⟨put_ne _ (by decide) (g.1), g.2.1, g.2.2⟩, k14 := fun q => (h'.k14 (by simpa using q)).imp fun _ g => ⟨put_ne _ (by decide) (g.1), g.2.1, g.2.2⟩, k15 := fun q => (h'.k15 (by simpa using q)).imp fun _ g => ⟨put_ne _ (by decide) (g.1), g.2.1, g.2.2⟩, k16 := fun q => (h'.k16 (by simpa using q)).imp fun _ g => ⟨put_ne _ (by decide) (g.1), g.2.1, g.2.2⟩, k17 := fun q => (h'.k17 (by simpa using q)).imp fun _ g => ⟨put_ne _ (by decide) (g.1), g.2.1, g.2.2⟩, s16 := fun q => put_ne _ (by decide) (h'.s16 (by simpa using q)), s17 := fun q => put_ne _ (by decide) (h'.s17 (by simpa using q)) }
            | 11, ho, hLi, hK' =>
              cases ho
              have ea := h'.k9 (hdeps ⟨9, .data⟩ (by simp) (by rfl))
              have eb := h'.k10 (hdeps ⟨10, .data⟩ (by simp) (by rfl))
              have l9 := (hdeps ⟨9, .data⟩ (by simp) (by rfl))
              have hr0 : ¬ (8 + r) = 0 := by omega
              have wq : IntKind.i64.wrap fu = fu := wr_in (by omega) (by omega)
              go_simp
              try rewrite [f2]
              try rewrite [wq]
              exact hK' _ _ { off := h'.off.put (by decide) _, ac := h'.ac, it := h'.it, rt := h'.rt, ct := h'.ct, hr := h'.hr, d16_7 := fun q => by simpa using h'.d16_7 (by simpa using q), d7_0 := fun q => by simpa using h'.d7_0 (by simpa using q), d7_6 := fun q => by simpa using h'.d7_6 (by simpa using q), d6_3 := fun q => by simpa using h'.d6_3 (by simpa using q), d3_1 := fun q => by simpa using h'.d3_1 (by simpa using q), d17_15 := fun q => by simpa using h'.d17_15 (by simpa using q), d15_8 := fun q => by simpa using h'.d15_8 (by simpa using q), d15_14 := fun q => by simpa using h'.d15_14 (by simpa using q), d14_11 := fun _ => by simp, d11_9 := fun _ => by simpa using l9, k0 := fun q => put_ne _ (by decide) (h'.k0 (by simpa using q)), k1 := fun q => put_ne _ (by decide) (h'.k1 (by simpa using q)), k2 := fun q => put_ne _ (by decide) (h'.k2 (by simpa using q)), k3 := fun q => put_ne _ (by decide) (h'.k3 (by simpa using q)), k4 := fun q => put_ne _ (by decide) (h'.k4 (by simpa using q)), k5 := fun q => (h'.k5 (by simpa using q)).imp fun _ g => ⟨put_ne _ (by decide) (g.1), g.2.1, g.2.2⟩, k6 := fun q => (h'.k6 (by simpa using q)).imp fun _ g => ⟨put_ne _ (by decide) (g.1), g.2.1, g.2.2⟩, k7 := fun q => (h'.k7 (by simpa using q)).imp fun _ g => ⟨put_ne _ (by decide) (g.1), g.2.1, g.2.2⟩, k8 := fun q => put_ne _ (by decide) (h'.k8 (by simpa using q)), k9 := fun q => put_ne _ (by decide) (h'.k9 (by simpa using q)), k10 := fun q => put_ne _ (by decide) (h'.k10 (by simpa using q)), k11 := fun _ => put_at _ (by have := h'.off.size; omega), k12 := fun q => put_ne _ (by decide) (h'.k12 (by simpa using q)), k13 := fun q => (h'.k13 (by simpa using q)).imp fun _ g => ⟨put_ne _ (by decide) (g.1), g.2.1, g.2.2⟩, k14 := fun q => (h'.k14 (by simpa using q)).imp fun _ g => ⟨put_ne _ (by decide) (g.1), g.2.1, g.2.2⟩, k15 := fun q => (h'.k15 (by simpa using q)).imp fun _ g => ⟨put_ne _ (by decide) (g.1), g.2.1, g.2.2⟩, k16 := fun q => (h'.k16 (by simpa using q)).imp fun _ g => ⟨put_ne _ (by decide) (g.1), g.2.1, g.2.2⟩, k17 := fun q => (h'.k17 (by simpa using q)).imp fun _ g => ⟨put_ne _ (by decide) (g.1), g.2.1, g.2.2⟩, s16 := fun q => put_ne _ (by decide) (h'.s16 (by simpa using q)), s17 := fun q => put_ne _ (by decide) (h'.s17 (by simpa using q)) }
            | 12, ho, hLi, hK' =>
              cases ho
              have ea := (h'.off.off 0 (by decide)).trans hA0
              go_simp
              exact hK' _ _ { off := h'.off.put (by decide) _, ac := h'.ac, it := h'.it, rt := h'.rt, ct := h'.ct, hr := h'.hr, d16_7 := fun q => by simpa using h'.d16_7 (by simpa using q), d7_0 := fun q => by simpa using h'.d7_0 (by simpa using q), d7_6 := fun q => by simpa using h'.d7_6 (by simpa using q), d6_3 := fun q => by simpa using h'.d6_3 (by simpa using q), d3_1 := fun q => by simpa using h'.d3_1 (by simpa using q), d17_15 := fun q => by simpa using h'.d17_15 (by simpa using q), d15_8 := fun q => by simpa using h'.d15_8 (by simpa using q), d15_14 := fun q => by simpa using h'.d15_14 (by simpa using q), d14_11 := fun q => by simpa using h'.d14_11 (by simpa using q), d11_9 := fun q => by simpa using h'.d11_9 (by simpa using q), k0 := fun q => put_ne _ (by decide) (h'.k0 (by simpa using q)), k1 := fun q => put_ne _ (by decide) (h'.k1 (by simpa using q)), k2 := fun q => put_ne _ (by decide) (h'.k2 (by simpa using q)), k3 := fun q => put_ne _ (by decide) (h'.k3 (by simpa using q)), k4 := fun q => put_ne _ (by decide) (h'.k4 (by simpa using q)), k5 := fun q => (h'.k5 (by simpa using q)).imp fun _ g => ⟨put_ne _ (by decide) (g.1), g.2.1, g.2.2⟩, k6 := fun q => (h'.k6 (by simpa using q)).imp fun _ g => ⟨put_ne _ (by decide) (g.1), g.2.1, g.2.2⟩, k7 := fun q => (h'.k7 (by simpa using q)).imp fun _ g => ⟨put_ne _ (by decide) (g.1), g.2.1, g.2.2⟩, k8 := fun q => put_ne _ (by decide) (h'.k8 (by simpa using q)), k9 := fun q => put_ne _ (by decide) (h'.k9 (by simpa using q)), k10 := fun q => put_ne _ (by decide) (h'.k10 (by simpa using q)), k11 := fun q => put_ne _ (by decide) (h'.k11 (by simpa using q)), k12 := fun _ => put_at _ (by have := h'.off.size; omega), k13 := fun q => (h'.k13 (by simpa using q)).imp fun _ g => ⟨put_ne _ (by decide) (g.1), g.2.1, g.2.2⟩, k14 := fun q => (h'.k14 (by simpa using q)).imp fun _ g => ⟨put_ne _ (by decide) (g.1), g.2.1, g.2.2⟩, k15 := fun q => (h'.k15 (by simpa using q)).imp fun _ g => ⟨put_ne _ (by decide) (g.1), g.2.1, g.2.2⟩, k16 := fun q => (h'.k16 (by simpa using q)).imp fun _ g => ⟨put_ne _ (by decide) (g.1), g.2.1, g.2.2⟩, k17 := fun q => (h'.k17 (by simpa using q)).imp fun _ g => ⟨put_ne _ (by decide) (g.1), g.2.1, g.2.2⟩, s16 := fun q => put_ne _ (by decide) (h'.s16 (by simpa using q)), s17 := fun q => put_ne _ (by decide) (h'.s17 (by simpa using q)) }
            | 13, ho, hLi, hK' =>
              cases ho
              have ea := h'.k12 (hdeps ⟨12, .data⟩ (by simp) (by rfl))
              go_simp
              refine (NX 5 wx (by decide) (by decide) h'.ac.src).out.mono ?_
              rintro e w2 ⟨r', rfl, r0', r1', hs, hc⟩
              exact hK' _ _ { off := h'.off.put (by decide) _, ac := h'.ac.draw hs hc, it := h'.it.draw hc, rt := h'.rt.draw hc h'.hr, ct := h'.ct.draw hc, hr := h'.hr, d16_7 := fun q => by simpa using h'.d16_7 (by simpa using q), d7_0 := fun q => by simpa using h'.d7_0 (by simpa using q), d7_6 := fun q => by simpa using h'.d7_6 (by simpa using q), d6_3 := fun q => by simpa using h'.d6_3 (by simpa using q), d3_1 := fun q => by simpa using h'.d3_1 (by simpa using q), d17_15 := fun q => by simpa using h'.d17_15 (by simpa using q), d15_8 := fun q => by simpa using h'.d15_8 (by simpa using q), d15_14 := fun q => by simpa using h'.d15_14 (by simpa using q), d14_11 := fun q => by simpa using h'.d14_11 (by simpa using q), d11_9 := fun q => by simpa using h'.d11_9 (by simpa using q), k0 := fun q => put_ne _ (by decide) (h'.k0 (by simpa using q)), k1 := fun q => put_ne _ (by decide) (h'.k1 (by simpa using q)), k2 := fun q => put_ne _ (by decide) (h'.k2 (by simpa using q)), k3 := fun q => put_ne _ (by decide) (h'.k3 (by simpa using q)), k4 := fun q => put_ne _ (by decide) (h'.k4 (by simpa using q)), k5 := fun q => (h'.k5 (by simpa using q)).imp fun _ g => ⟨put_ne _ (by decide) (g.1), g.2.1, g.2.2⟩, k6 := fun q => (h'.k6 (by simpa using q)).imp fun _ g => ⟨put_ne _ (by decide) (g.1), g.2.1, g.2.2⟩, k7 := fun q => (h'.k7 (by simpa using q)).imp fun _ g => ⟨put_ne _ (by decide) (g.1), g.2.1, g.2.2⟩, k8 := fun q => put_ne _ (by decide) (h'.k8 (by simpa using q)), k9 := fun q => put_ne _ (by decide) (h'.k9 (by simpa using q)), k10 := fun q => put_ne _ (by decide) (h'.k10 (by simpa using q)), k11 := fun q => put_ne _ (by decide) (h'.k11 (by simpa using q)), k12 := fun q => put_ne _ (by decide) (h'.k12 (by simpa using q)), k13 := fun _ => ⟨r', put_at _ (by have := h'.off.size; omega), r0', r1'⟩, k14 := fun q => (h'.k14 (by simpa using q)).imp fun _ g => ⟨put_ne _ (by decide) (g.1), g.2.1, g.2.2⟩, k15 := fun q => (h'.k15 (by simpa using q)).imp fun _ g => ⟨put_ne _ (by decide) (g.1), g.2.1, g.2.2⟩, k16 := fun q => (h'.k16 (by simpa using q)).imp fun _ g => ⟨put_ne _ (by decide) (g.1), g.2.1, g.2.2⟩, k17 := fun q => (h'.k17 (by simpa using q)).imp fun _ g => ⟨put_ne _ (by decide) (g.1), g.2.1, g.2.2⟩, s16 := fun q => put_ne _ (by decide) (h'.s16 (by simpa using q)), s17 := fun q => put_ne _ (by decide) (h'.s17 (by simpa using q)) }
            | 14, ho, hLi, hK' =>
              cases ho
              have ea := h'.k11 (hdeps ⟨11, .data⟩ (by simp) (by rfl))
              obtain ⟨n13, eb, q130, q131⟩ := h'.k13 (hdeps ⟨13, .data⟩ (by simp) (by rfl))
              have l11 := (hdeps ⟨11, .data⟩ (by simp) (by rfl))
              have hm := mul_bd n13 (fu) fu1 fu2 q130 q131
              have wm : IntKind.i64.wrap (fu * n13) = fu * n13 := wr_in (by omega) (by omega)
              go_simp
              try rewrite [wm]
              exact hK' _ _ { off := h'.off.put (by decide) _, ac := h'.ac, it := h'.it, rt := h'.rt, ct := h'.ct, hr := h'.hr, d16_7 := fun q => by simpa using h'.d16_7 (by simpa using q), d7_0 := fun q => by simpa using h'.d7_0 (by simpa using q), d7_6 := fun q => by simpa using h'.d7_6 (by simpa using q), d6_3 := fun q => by simpa using h'.d6_3 (by simpa using q), d3_1 := fun q => by simpa using h'.d3_1 (by simpa using q), d17_15 := fun q => by simpa using h'.d17_15 (by simpa using q), d15_8 := fun q => by simpa using h'.d15_8 (by simpa using q), d15_14 := fun _ => by simp, d14_11 := fun _ => by simpa using l11, d11_9 := fun q => by simpa using h'.d11_9 (by simpa using q), k0 := fun q => put_ne _ (by decide) (h'.k0 (by simpa using q)), k1 := fun q => put_ne _ (by decide) (h'.k1 (by simpa using q)), k2 := fun q => put_ne _ (by decide) (h'.k2 (by simpa using q)), k3 := fun q => put_ne _ (by decide) (h'.k3 (by simpa using q)), k4 := fun q => put_ne _ (by decide) (h'.k4 (by simpa using q)), k5 := fun q => (h'.k5 (by simpa using q)).imp fun _ g => ⟨put_ne _ (by decide) (g.1), g.2.1, g.2.2⟩, k6 := fun q => (h'.k6 (by simpa using q)).imp fun _ g => ⟨put_ne _ (by decide) (g.1), g.2.1, g.2.2⟩, k7 := fun q => (h'.k7 (by simpa using q)).imp fun _ g => ⟨put_ne _ (by decide) (g.1), g.2.1, g.2.2⟩, k8 := fun q => put_ne _ (by decide) (h'.k8 (by simpa using q)), k9 := fun q => put_ne _ (by decide) (h'.k9 (by simpa using q)), k10 := fun q => put_ne _ (by decide) (h'.k10 (by simpa using q)), k11 := fun q => put_ne _ (by decide) (h'.k11 (by simpa using q)), k12 := fun q => put_ne _ (by decide) (h'.k12 (by simpa using q)), k13 := fun q => (h'.k13 (by simpa using q)).imp fun _ g => ⟨put_ne _ (by decide) (g.1), g.2.1, g.2.2⟩, k14 := fun _ => ⟨n13, put_at _ (by have := h'.off.size; omega), q130, q131⟩, k15 := fun q => (h'.k15 (by simpa using q)).imp fun _ g => ⟨put_ne _ (by decide) (g.1), g.2.1, g.2.2⟩, k16 := fun q => (h'.k16 (by simpa using q)).imp fun _ g => ⟨put_ne _ (by decide) (g.1), g.2.1, g.2.2⟩, k17 := fun q => (h'.k17 (by simpa using q)).imp fun _ g => ⟨put_ne _ (by decide) (g.1), g.2.1, g.2.2⟩, s16 := fun q => put_ne _ (by decide) (h'.s16 (by simpa using q)), s17 := fun q => put_ne _ (by decide) (h'.s17 (by simpa using q)) }
            | 15, ho, hLi, hK' =>
              cases ho
              have ea := h'.k8 (hdeps ⟨8, .data⟩ (by simp) (by rfl))
              obtain ⟨n14, eb, q140, q141⟩ := h'.k14 (hdeps ⟨14, .data⟩ (by simp) (by rfl))
              have l8 := (hdeps ⟨8, .data⟩ (by simp) (by rfl))
              have l14 := (hdeps ⟨14, .data⟩ (by simp) (by rfl))
              have hm := mul_bd n14 (fu) fu1 fu2 q140 q141
              have wm : IntKind.i64.wrap (f + fu * n14) = f + fu * n14 := wr_in (by omega) (by omega)
              go_simp
              try rewrite [wm]
              exact hK' _ _ { off := h'.off.put (by decide) _, ac := h'.ac, it := h'.it, rt := h'.rt, ct := h'.ct, hr := h'.hr, d16_7 := fun q => by simpa using h'.d16_7 (by simpa using q), d7_0 := fun q => by simpa using h'.d7_0 (by simpa using q), d7_6 := fun q => by simpa using h'.d7_6 (by simpa using q), d6_3 := fun q => by simpa using h'.d6_3 (by simpa using q), d3_1 := fun q => by simpa using h'.d3_1 (by simpa using q), d17_15 := fun _ => by simp, d15_8 := fun _ => by simpa using l8, d15_14 := fun _ => by simpa using l14, d14_11 := fun q => by simpa using h'.d14_11 (by simpa using q), d11_9 := fun q => by simpa using h'.d11_9 (by simpa using q), k0 := fun q => put_ne _ (by decide) (h'.k0 (by simpa using q)), k1 := fun q => put_ne _ (by decide) (h'.k1 (by simpa using q)), k2 := fun q => put_ne _ (by decide) (h'.k2 (by simpa using q)), k3 := fun q => put_ne _ (by decide) (h'.k3 (by simpa using q)), k4 := fun q => put_ne _ (by decide) (h'.k4 (by simpa using q)), k5 := fun q => (h'.k5 (by simpa using q)).imp fun _ g => ⟨put_ne _ (by decide) (g.1), g.2.1, g.2.2⟩, k6 := fun q => (h'.k6 (by simpa using q)).imp fun _ g => ⟨put_ne _ (by decide) (g.1), g.2.1, g.2.2⟩, k7 := fun q => (h'.k7 (by simpa using q)).imp fun _ g => ⟨put_ne _ (by decide) (g.1), g.2.1, g.2.2⟩, k8 := fun q => put_ne _ (by decide) (h'.k8 (by simpa using q)), k9 := fun q => put_ne _ (by decide) (h'.k9 (by simpa using q)), k10 := fun q => put_ne _ (by decide) (h'.k10 (by simpa using q)), k11 := fun q => put_ne _ (by decide) (h'.k11 (by simpa using q)), k12 := fun q => put_ne _ (by decide) (h'.k12 (by simpa using q)), k13 := fun q => (h'.k13 (by simpa using q)).imp fun _ g => ⟨put_ne _ (by decide) (g.1), g.2.1, g.2.2⟩, k14 := fun q => (h'.k14 (by simpa using q)).imp fun _ g => ⟨put_ne _ (by decide) (g.1), g.2.1, g.2.2⟩, k15 := fun _ => ⟨n14, put_at _ (by have := h'.off.size; omega), q140, q141⟩, k16 := fun q => (h'.k16 (by simpa using q)).imp fun _ g => ⟨put_ne _ (by decide) (g.1), g.2.1, g.2.2⟩, k17 := fun q => (h'.k17 (by simpa using q)).imp fun _ g => ⟨put_ne _ (by decide) (g.1), g.2.1, g.2.2⟩, s16 := fun q => put_ne _ (by decide) (h'.s16 (by simpa using q)), s17 := fun q => put_ne _ (by decide) (h'.s17 (by simpa using q)) }
            | 16, ho, hLi, hK' =>
              cases ho
              obtain ⟨n7, ea, q70, q71⟩ := h'.k7 (hdeps ⟨7, .data⟩ (by simp) (by rfl))
              have l7 := (hdeps ⟨7, .data⟩ (by simp) (by rfl))
              go_simp
              exact hK' _ _ { off := h'.off.put (by decide) _, ac := h'.ac, it := h'.it, rt := h'.rt, ct := h'.ct, hr := h'.hr, d16_7 := fun _ => by simpa using l7, d7_0 := fun q => by simpa using h'.d7_0 (by simpa using q), d7_6 := fun q => by simpa using h'.d7_6 (by simpa using q), d6_3 := fun q => by simpa using h'.d6_3 (by simpa using q), d3_1 := fun q => by simpa using h'.d3_1 (by simpa using q), d17_15 := fun q => by simpa using h'.d17_15 (by simpa using q), d15_8 := fun q => by simpa using h'.d15_8 (by simpa using q), d15_14 := fun q => by simpa using h'.d15_14 (by simpa using q), d14_11 := fun q => by simpa using h'.d14_11 (by simpa using q), d11_9 := fun q => by simpa using h'.d11_9 (by simpa using q), k0 := fun q => put_ne _ (by decide) (h'.k0 (by simpa using q)), k1 := fun q => put_ne _ (by decide) (h'.k1 (by simpa using q)), k2 := fun q => put_ne _ (by decide) (h'.k2 (by simpa using q)), k3 := fun q => put_ne _ (by decide) (h'.k3 (by simpa using q)), k4 := fun q => put_ne _ (by decide) (h'.k4 (by simpa using q)), k5 := fun q => (h'.k5 (by simpa using q)).imp fun _ g => ⟨put_ne _ (by decide) (g.1), g.2.1, g.2.2⟩, k6 := fun q => (h'.k6 (by simpa using q)).imp fun _ g => ⟨put_ne _ (by decide) (g.1), g.2.1, g.2.2⟩, k7 := fun q => (h'.k7 (by simpa using q)).imp fun _ g => ⟨put_ne _ (by decide) (g.1), g.2.1, g.2.2⟩, k8 := fun q => put_ne _ (by decide) (h'.k8 (by simpa using q)), k9 := fun q => put_ne _ (by decide) (h'.k9 (by simpa using q)), k10 := fun q => put_ne _ (by decide) (h'.k10 (by simpa using q)), k11 := fun q => put_ne _ (by decide) (h'.k11 (by simpa using q)), k12 := fun q => put_ne _ (by decide) (h'.k12 (by simpa using q)), k13 := fun q => (h'.k13 (by simpa using q)).imp fun _ g => ⟨put_ne _ (by decide) (g.1), g.2.1, g.2.2⟩, k14 := fun q => (h'.k14 (by simpa using q)).imp fun _ g => ⟨put_ne _ (by decide) (g.1), g.2.1, g.2.2⟩, k15 := fun q => (h'.k15 (by simpa using q)).imp fun _ g => ⟨put_ne _ (by decide) (g.1), g.2.1, g.2.2⟩, k16 := fun _ => ⟨n7, put_at _ (by have := h'.off.size; omega), q70, q71⟩, k17 := fun q => (h'.k17 (by simpa using q)).imp fun _ g => ⟨put_ne _ (by decide) (g.1), g.2.1, g.2.2⟩, s16 := fun q => absurd q (by simp), s17 := fun q => put_ne _ (by decide) (h'.s17 (by simpa using q)) }
            | 17, ho, hLi, hK' =>
              cases ho
              obtain ⟨n15, ea, q150, q151⟩ := h'.k15 (hdeps ⟨15, .data⟩ (by simp) (by rfl))
              have l15 := (hdeps ⟨15, .data⟩ (by simp) (by rfl))
              go_simp
              exact hK' _ _ { off := h'.off.put (by decide) _, ac := h'.ac, it := h'.it, rt := h'.rt, ct := h'.ct, hr := h'.hr, d16_7 := fun q => by simpa using h'.d16_7 (by simpa using q), d7_0 := fun q => by simpa using h'.d7_0 (by simpa using q), d7_6 := fun q => by simpa using h'.d7_6 (by simpa using q), d6_3 := fun q => by simpa using h'.d6_3 (by simpa using q), d3_1 := fun q => by simpa using h'.d3_1 (by simpa using q), d17_15 := fun _ => by simpa using l15, d15_8 := fun q => by simpa using h'.d15_8 (by simpa using q), d15_14 := fun q => by simpa using h'.d15_14 (by simpa using q), d14_11 := fun q => by simpa using h'.d14_11 (by simpa using q), d11_9 := fun q => by simpa using h'.d11_9 (by simpa using q), k0 := fun q => put_ne _ (by decide) (h'.k0 (by simpa using q)), k1 := fun q => put_ne _ (by decide) (h'.k1 (by simpa using q)), k2 := fun q => put_ne _ (by decide) (h'.k2 (by simpa using q)), k3 := fun q => put_ne _ (by decide) (h'.k3 (by simpa using q)), k4 := fun q => put_ne _ (by decide) (h'.k4 (by simpa using q)), k5 := fun q => (h'.k5 (by simpa using q)).imp fun _ g => ⟨put_ne _ (by decide) (g.1), g.2.1, g.2.2⟩, k6 := fun q => (h'.k6 (by simpa using q)).imp fun _ g => ⟨put_ne _ (by decide) (g.1), g.2.1, g.2.2⟩, k7 := fun q => (h'.k7 (by simpa using q)).imp fun _ g => ⟨put_ne _ (by decide) (g.1), g.2.1, g.2.2⟩, k8 := fun q => put_ne _ (by decide) (h'.k8 (by simpa using q)), k9 := fun q => put_ne _ (by decide) (h'.k9 (by simpa using q)), k10 := fun q => put_ne _ (by decide) (h'.k10 (by simpa using q)), k11 := fun q => put_ne _ (by decide) (h'.k11 (by simpa using q)), k12 := fun q => put_ne _ (by decide) (h'.k12 (by simpa using q)), k13 := fun q => (h'.k13 (by simpa using q)).imp fun _ g => ⟨put_ne _ (by decide) (g.1), g.2.1, g.2.2⟩, k14 := fun q => (h'.k14 (by simpa using q)).imp fun _ g => ⟨put_ne _ (by decide) (g.1), g.2.1, g.2.2⟩, k15 := fun q => (h'.k15 (by simpa using q)).imp fun _ g => ⟨put_ne _ (by decide) (g.1), g.2.1, g.2.2⟩, k16 := fun q => (h'.k16 (by simpa using q)).imp fun _ g => ⟨put_ne _ (by decide) (g.1), g.2.1, g.2.2⟩, k17 := fun _ => ⟨n15, put_at _ (by have := h'.off.size; omega), q150, q151⟩, s16 := fun q => put_ne _ (by decide) (h'.s16 (by simpa using q)), s17 := fun q => absurd q (by simp) }
            | i + 18, ho, hLi, hK' => cases ho
          · intro L aa wx h' hall
            have z0 := h'.k0 (hall 0 (by decide))
            have z1 := h'.k1 (hall 1 (by decide))
            have z2 := h'.k2 (hall 2 (by decide))
            have z3 := h'.k3 (hall 3 (by decide))
            have z4 := h'.k4 (hall 4 (by decide))
            obtain ⟨n5, z5, q50, q51⟩ := h'.k5 (hall 5 (by decide))
            obtain ⟨n6, z6, q60, q61⟩ := h'.k6 (hall 6 (by decide))
            obtain ⟨n7, z7, q70, q71⟩ := h'.k7 (hall 7 (by decide))
            have z8 := h'.k8 (hall 8 (by decide))
            have z9 := h'.k9 (hall 9 (by decide))
            have z10 := h'.k10 (hall 10 (by decide))
            have z11 := h'.k11 (hall 11 (by decide))
            have z12 := h'.k12 (hall 12 (by decide))
            obtain ⟨n13, z13, q130, q131⟩ := h'.k13 (hall 13 (by decide))
            obtain ⟨n14, z14, q140, q141⟩ := h'.k14 (hall 14 (by decide))
            obtain ⟨n15, z15, q150, q151⟩ := h'.k15 (hall 15 (by decide))
            obtain ⟨n16, z16, q160, q161⟩ := h'.k16 (hall 16 (by decide))
            obtain ⟨n17, z17, q170, q171⟩ := h'.k17 (hall 17 (by decide))
            have hfr := h'.off.rebuild (fun d' => if d' = 84 then .int .i64 (c) else if d' = 85 then .int .i64 (c) else if d' = 86 then .int .i64 (8 + r) else if d' = 87 then .int .i64 (cu) else if d' = 88 then .pointer (some ⟨sb, 0, none⟩) else if d' = 89 then .int .i64 (n5) else if d' = 90 then .int .i64 (cu * n6) else if d' = 91 then .int .i64 (c + cu * n7) else if d' = 92 then .int .i64 (f) else if d' = 93 then .int .i64 (f) else if d' = 94 then .int .i64 (8 + r) else if d' = 95 then .int .i64 (fu) else if d' = 96 then .pointer (some ⟨sb, 0, none⟩) else if d' = 97 then .int .i64 (n13) else if d' = 98 then .int .i64 (fu * n14) else if d' = 99 then .int .i64 (f + fu * n15) else if d' = 16 then .int .i64 (c + cu * n16) else if d' = 17 then .int .i64 (f + fu * n17) else undef) (by
              intro d' hd'
              simp only [List.mem_cons, List.not_mem_nil, or_false] at hd'
              rcases hd' with rfl | rfl | rfl | rfl | rfl | rfl | rfl | rfl | rfl | rfl | rfl | rfl | rfl | rfl | rfl | rfl | rfl | rfl
              · exact z0
              · exact z1
              · exact z2
              · exact z3
              · exact z4
              · exact z5
              · exact z6
              · exact z7
              · exact z8
              · exact z9
              · exact z10
              · exact z11
              · exact z12
              · exact z13
              · exact z14
              · exact z15
              · exact z16
              · exact z17
              )
            simp only [List.foldl_cons, List.foldl_nil] at hfr
            rw [← HA.out] at hfr
            have hAc := h'.ac
            have hIt := h'.it
            have hRt := h'.rt
            have hCt := h'.ct
            rw [hfr]
            clear hfr h' hall HA hsz
            simp [Act.put]
            go_wp2_with fail
            go_meet
            have tx := tu_add (8 + r) (k + q) n16 n17
            refine ⟨(if (k + q) % 2 = 0 then n16 else n17), _, _, rfl, rfl, ?_, ?_, ?_, Lib.hid ?_, Lib.hid ?_, hAc, hIt, hRt, hCt⟩
            · split <;> omega
            · split <;> omega
            · omega
            · rw [← tx.1, EC.out, cu3.out]
            · rw [← tx.2, EF.out, fu3.out]
      case rest =>
        obtain ⟨n, c2, f2, rfl, rfl, n0, n1, nq, EC2, EF2, hAc, hIt, hRt, hCt⟩ := hcut
        clear EC EF hbv
        --CUT6
        have bc2 := tuX_bd (8 + r + n) (k + q) (by omega)
        have bf2 := tuY_bd (8 + r + n) (k + q) (by omega)
        rewrite [← EC2.out] at bc2
        rewrite [← EF2.out] at bf2
        go_upto_region 9 with fail
        generalize hA : (Act.mk _ _) = A
        have hsz : A.tmps.size = 140 := by rw [← hA]; rfl
        have hA0 : A.tmps[0]? = some (.pointer (some ⟨sb, 0, none⟩)) := by rw [← hA]; rfl
        have hA7 : A.tmps[7]? = some (.pointer (some ⟨g, 0, none⟩)) := by rw [← hA]; rfl
        have hA11 : A.tmps[11]? = some (.int .i64 (U)) := by rw [← hA]; rfl
        have hA12 : A.tmps[12]? = some (.int .i64 (W)) := by rw [← hA]; rfl
        have hA13 : A.tmps[13]? = some (.int .i64 (H)) := by rw [← hA]; rfl
        have hA14 : A.tmps[14]? = some (.int .i64 (a)) := by rw [← hA]; rfl
        have hA15 : A.tmps[15]? = some (.int .i64 (b)) := by rw [← hA]; rfl
        have hA16 : A.tmps[16]? = some (.int .i64 (c2)) := by rw [← hA]; rfl
        have hA17 : A.tmps[17]? = some (.int .i64 (f2)) := by rw [← hA]; rfl
        have HA := Lib.hid hA
        clear hA
        refine wp_region_inv (fun L aa wx => A9 b0 sb ((⟨3, 0, x, y, z, 0, 0, 0, p, 0, 0, 0, d, false, 0, false, 0, 0, 0, 0, 0, false⟩ : Itm)) g g2 (w.heap.size + 1) [spX p (U - a) (W - b) H, spY p (U - a) (W - b) H, spZ p (U - a) (W - b) H] U W H a b c2 f2 w A L aa wx) (by kernel_rfl) (by kernel_rfl) ?_ ?_ ?_
        · have hD := (Below.refl wc.heap.size wc).drew
          have hc := Chg.of (sb := sb) hD
          exact (by constructor <;> first | exact OffOf.refl _ _ | exact hAc.next hD | exact hIt.draw hc | exact hRt.draw hc (show w.heap.size + 1 ≠ sb by omega) | exact hCt.draw hc | exact (show w.heap.size + 1 ≠ sb by omega) | (intro h; exact nomatch h) | (intro h _; exact nomatch h))
        · intro i o ho L aa wx h' hLi hdeps K hK'
          match i, ho, hLi, hK' with
          | 0, ho, hLi, hK' =>
            cases ho
            have ea := (h'.off.off 11 (by decide)).trans hA11
            go_simp
            exact hK' _ _ { off := h'.off.put (by decide) _, ac := h'.ac, it := h'.it, rt := h'.rt, ct := h'.ct, hr := h'.hr, d21_20 := fun q => by simpa using h'.d21_20 (by simpa using q), k0 := fun _ => put_at _ (by have := h'.off.size; omega), k1 := fun q => put_ne _ (by decide) (h'.k1 (by simpa using q)), k2 := fun q => put_ne _ (by decide) (h'.k2 (by simpa using q)), k3 := fun q => put_ne _ (by decide) (h'.k3 (by simpa using q)), k4 := fun q => put_ne _ (by decide) (h'.k4 (by simpa using q)), k5 := fun q => put_ne _ (by decide) (h'.k5 (by simpa using q)), k6 := fun q => put_ne _ (by decide) (h'.k6 (by simpa using q)), k7 := fun q => put_ne _ (by decide) (h'.k7 (by simpa using q)), k8 := fun q => put_ne _ (by decide) (h'.k8 (by simpa using q)), k9 := fun q => put_ne _ (by decide) (h'.k9 (by simpa using q)), k10 := fun q => put_ne _ (by decide) (h'.k10 (by simpa using q)), k11 := fun q => (h'.k11 (by simpa using q)).imp fun _ g => ⟨put_ne _ (by decide) (g.1), g.2⟩, k12 := fun q => put_ne _ (by decide) (h'.k12 (by simpa using q)), k13 := fun q => (h'.k13 (by simpa using q)).imp fun _ g => ⟨put_ne _ (by decide) (g.1), g.2.1, g.2.2⟩, k14 := fun q => (h'.k14 (by simpa using q)).imp fun _ g => g.imp fun _ g => ⟨put_ne _ (by decide) (g.1), g.2.1, g.2.2⟩, k15 := fun q => (h'.k15 (by simpa using q)).imp fun _ g => ⟨put_ne _ (by decide) (g.1), g.2⟩, k16 := fun q => (h'.k16 (by simpa using q)).imp fun _ g => ⟨put_ne _ (by decide) (g.1), g.2⟩, k17 := fun q => put_ne _ (by decide) (h'.k17 (by simpa using q)), k18 := fun q => put_ne _ (by decide) (h'.k18 (by simpa using q)), k19 := fun q => (h'.k19 (by simpa using q)).imp fun _ g => ⟨put_ne _ (by decide) (g.1), g.2⟩, k20 := fun q q' => (h'.k20 (by simpa using q) (by simpa using q')).imp fun _ g => ⟨put_ne _ (by decide) (g.1), g.2⟩, k21 := fun q => (h'.k21 (by simpa using q)).imp fun _ g => g.imp fun _ g => ⟨put_ne _ (by decide) (g.1), g.2.1, g.2.2.1, g.2.2.2⟩ }
          | 1, ho, hLi, hK' =>
            cases ho
            have ea := (h'.off.off 14 (by decide)).trans hA14
            go_simp
            exact hK' _ _ { off := h'.off.put (by decide) _, ac := h'.ac, it := h'.it, rt := h'.rt, ct := h'.ct, hr := h'.hr, d21_20 := fun q => by simpa using h'.d21_20 (by simpa using q), k0 := fun q => put_ne _ (by decide) (h'.k0 (by simpa using q)), k1 := fun _ => put_at _ (by have := h'.off.size; omega), k2 := fun q => put_ne _ (by decide) (h'.k2 (by simpa using q)), k3 := fun q => put_ne _ (by decide) (h'.k3 (by simpa using q)), k4 := fun q => put_ne _ (by decide) (h'.k4 (by simpa using q)), k5 := fun q => put_ne _ (by decide) (h'.k5 (by simpa using q)), k6 := fun q => put_ne _ (by decide) (h'.k6 (by simpa using q)), k7 := fun q => put_ne _ (by decide) (h'.k7 (by simpa using q)), k8 := fun q => put_ne _ (by decide) (h'.k8 (by simpa using q)), k9 := fun q => put_ne _ (by decide) (h'.k9 (by simpa using q)), k10 := fun q => put_ne _ (by decide) (h'.k10 (by simpa using q)), k11 := fun q => (h'.k11 (by simpa using q)).imp fun _ g => ⟨put_ne _ (by decide) (g.1), g.2⟩, k12 := fun q => put_ne _ (by decide) (h'.k12 (by simpa using q)), k13 := fun q => (h'.k13 (by simpa using q)).imp fun _ g => ⟨put_ne _ (by decide) (g.1), g.2.1, g.2.2⟩, k14 := fun q => (h'.k14 (by simpa using q)).imp fun _ g => g.imp fun _ g => ⟨put_ne _ (by decide) (g.1), g.2.1, g.2.2⟩, k15 := fun q => (h'.k15 (by simpa using q)).imp fun _ g => ⟨put_ne _ (by decide) (g.1), g.2⟩, k16 := fun q => (h'.k16 (by simpa using q)).imp fun _ g => ⟨put_ne _ (by decide) (g.1), g.2⟩, k17 := fun q => put_ne _ (by decide) (h'.k17 (by simpa using q)), k18 := fun q => put_ne _ (by decide) (h'.k18 (by simpa using q)), k19 := fun q => (h'.k19 (by simpa using q)).imp fun _ g => ⟨put_ne _ (by decide) (g.1), g.2⟩, k20 := fun q q' => (h'.k20 (by simpa using q) (by simpa using q')).imp fun _ g => ⟨put_ne _ (by decide) (g.1), g.2⟩, k21 := fun q => (h'.k21 (by simpa using q)).imp fun _ g => g.imp fun _ g => ⟨put_ne _ (by decide) (g.1), g.2.1, g.2.2.1, g.2.2.2⟩ }
          | 2, ho, hLi, hK' =>
            cases ho
            have ea := h'.k0 (hdeps ⟨0, .data⟩ (by simp) (by rfl))
            have eb := h'.k1 (hdeps ⟨1, .data⟩ (by simp) (by rfl))
            have wm : IntKind.i64.wrap (U - a) = U - a := wr_in (by omega) (by omega)
            go_simp
            try rewrite [wm]
            exact hK' _ _ { off := h'.off.put (by decide) _, ac := h'.ac, it := h'.it, rt := h'.rt, ct := h'.ct, hr := h'.hr, d21_20 := fun q => by simpa using h'.d21_20 (by simpa using q), k0 := fun q => put_ne _ (by decide) (h'.k0 (by simpa using q)), k1 := fun q => put_ne _ (by decide) (h'.k1 (by simpa using q)), k2 := fun _ => put_at _ (by have := h'.off.size; omega), k3 := fun q => put_ne _ (by decide) (h'.k3 (by simpa using q)), k4 := fun q => put_ne _ (by decide) (h'.k4 (by simpa using q)), k5 := fun q => put_ne _ (by decide) (h'.k5 (by simpa using q)), k6 := fun q => put_ne _ (by decide) (h'.k6 (by simpa using q)), k7 := fun q => put_ne _ (by decide) (h'.k7 (by simpa using q)), k8 := fun q => put_ne _ (by decide) (h'.k8 (by simpa using q)), k9 := fun q => put_ne _ (by decide) (h'.k9 (by simpa using q)), k10 := fun q => put_ne _ (by decide) (h'.k10 (by simpa using q)), k11 := fun q => (h'.k11 (by simpa using q)).imp fun _ g => ⟨put_ne _ (by decide) (g.1), g.2⟩, k12 := fun q => put_ne _ (by decide) (h'.k12 (by simpa using q)), k13 := fun q => (h'.k13 (by simpa using q)).imp fun _ g => ⟨put_ne _ (by decide) (g.1), g.2.1, g.2.2⟩, k14 := fun q => (h'.k14 (by simpa using q)).imp fun _ g => g.imp fun _ g => ⟨put_ne _ (by decide) (g.1), g.2.1, g.2.2⟩, k15 := fun q => (h'.k15 (by simpa using q)).imp fun _ g => ⟨put_ne _ (by decide) (g.1), g.2⟩, k16 := fun q => (h'.k16 (by simpa using q)).imp fun _ g => ⟨put_ne _ (by decide) (g.1), g.2⟩, k17 := fun q => put_ne _ (by decide) (h'.k17 (by simpa using q)), k18 := fun q => put_ne _ (by decide) (h'.k18 (by simpa using q)), k19 := fun q => (h'.k19 (by simpa using q)).imp fun _ g => ⟨put_ne _ (by decide) (g.1), g.2⟩, k20 := fun q q' => (h'.k20 (by simpa using q) (by simpa using q')).imp fun _ g => ⟨put_ne _ (by decide) (g.1), g.2⟩, k21 := fun q => (h'.k21 (by simpa using q)).imp fun _ g => g.imp fun _ g => ⟨put_ne _ (by decide) (g.1), g.2.1, g.2.2.1, g.2.2.2⟩ }
          | 3, ho, hLi, hK' =>
            cases ho
            have ea := (h'.off.off 16 (by decide)).trans hA16
            go_simp
            exact hK' _ _ { off := h'.off.put (by decide) _, ac := h'.ac, it := h'.it, rt := h'.rt, ct := h'.ct, hr := h'.hr, d21_20 := fun q => by simpa using h'.d21_20 (by simpa using q), k0 := fun q => put_ne _ (by decide) (h'.k0 (by simpa using q)), k1 := fun q => put_ne _ (by decide) (h'.k1 (by simpa using q)), k2 := fun q => put_ne _ (by decide) (h'.k2 (by simpa using q)), k3 := fun _ => put_at _ (by have := h'.off.size; omega), k4 := fun q => put_ne _ (by decide) (h'.k4 (by simpa using q)), k5 := fun q => put_ne _ (by decide) (h'.k5 (by simpa using q)), k6 := fun q => put_ne _ (by decide) (h'.k6 (by simpa using q)), k7 := fun q => put_ne _ (by decide) (h'.k7 (by simpa using q)), k8 := fun q => put_ne _ (by decide) (h'.k8 (by simpa using q)), k9 := fun q => put_ne _ (by decide) (h'.k9 (by simpa using q)), k10 := fun q => put_ne _ (by decide) (h'.k10 (by simpa using q)), k11 := fun q => (h'.k11 (by simpa using q)).imp fun _ g => ⟨put_ne _ (by decide) (g.1), g.2⟩, k12 := fun q => put_ne _ (by decide) (h'.k12 (by simpa using q)), k13 := fun q => (h'.k13 (by simpa using q)).imp fun _ g => ⟨put_ne _ (by decide) (g.1), g.2.1, g.2.2⟩, k14 := fun q => (h'.k14 (by simpa using q)).imp fun _ g => g.imp fun _ g => ⟨put_ne _ (by decide) (g.1), g.2.1, g.2.2⟩, k15 := fun q => (h'.k15 (by simpa using q)).imp fun _ g => ⟨put_ne _ (by decide) (g.1), g.2⟩, k16 := fun q => (h'.k16 (by simpa using q)).imp fun _ g => ⟨put_ne _ (by decide) (g.1), g.2⟩, k17 := fun q => put_ne _ (by decide) (h'.k17 (by simpa using q)), k18 := fun q => put_ne _ (by decide) (h'.k18 (by simpa using q)), k19 := fun q => (h'.k19 (by simpa using q)).imp fun _ g => ⟨put_ne _ (by decide) (g.1), g.2⟩, k20 := fun q q' => (h'.k20 (by simpa using q) (by simpa using q')).imp fun _ g => ⟨put_ne _ (by decide) (g.1), g.2⟩, k21 := fun q => (h'.k21 (by simpa using q)).imp fun _ g => g.imp fun _ g => ⟨put_ne _ (by decide) (g.1), g.2.1, g.2.2.1, g.2.2.2⟩ }
          | 4, ho, hLi, hK' =>
            cases ho
            have ea := h'.k2 (hdeps ⟨2, .data⟩ (by simp) (by rfl))
            have eb := h'.k3 (hdeps ⟨3, .data⟩ (by simp) (by rfl))
            have wm : IntKind.i64.wrap (U - a + c2) = U - a + c2 := wr_in (by omega) (by omega)
            go_simp
            try rewrite [wm]
            exact hK' _ _ { off := h'.off.put (by decide) _, ac := h'.ac, it := h'.it, rt := h'.rt, ct := h'.ct, hr := h'.hr, d21_20 := fun q => by simpa using h'.d21_20 (by simpa using q), k0 := fun q => put_ne _ (by decide) (h'.k0 (by simpa using q)), k1 := fun q => put_ne _ (by decide) (h'.k1 (by simpa using q)), k2 := fun q => put_ne _ (by decide) (h'.k2 (by simpa using q)), k3 := fun q => put_ne _ (by decide) (h'.k3 (by simpa using q)), k4 := fun _ => put_at _ (by have := h'.off.size; omega), k5 := fun q => put_ne _ (by decide) (h'.k5 (by simpa using q)), k6 := fun q => put_ne _ (by decide) (h'.k6 (by simpa using q)), k7 := fun q => put_ne _ (by decide) (h'.k7 (by simpa using q)), k8 := fun q => put_ne _ (by decide) (h'.k8 (by simpa using q)), k9 := fun q => put_ne _ (by decide) (h'.k9 (by simpa using q)), k10 := fun q => put_ne _ (by decide) (h'.k10 (by simpa using q)), k11 := fun q => (h'.k11 (by simpa using q)).imp fun _ g => ⟨put_ne _ (by decide) (g.1), g.2⟩, k12 := fun q => put_ne _ (by decide) (h'.k12 (by simpa using q)), k13 := fun q => (h'.k13 (by simpa using q)).imp fun _ g => ⟨put_ne _ (by decide) (g.1), g.2.1, g.2.2⟩, k14 := fun q => (h'.k14 (by simpa using q)).imp fun _ g => g.imp fun _ g => ⟨put_ne _ (by decide) (g.1), g.2.1, g.2.2⟩, k15 := fun q => (h'.k15 (by simpa using q)).imp fun _ g => ⟨put_ne _ (by decide) (g.1), g.2⟩, k16 := fun q => (h'.k16 (by simpa using q)).imp fun _ g => ⟨put_ne _ (by decide) (g.1), g.2⟩, k17 := fun q => put_ne _ (by decide) (h'.k17 (by simpa using q)), k18 := fun q => put_ne _ (by decide) (h'.k18 (by simpa using q)), k19 := fun q => (h'.k19 (by simpa using q)).imp fun _ g => ⟨put_ne _ (by decide) (g.1), g.2⟩, k20 := fun q q' => (h'.k20 (by simpa using q) (by simpa using q')).imp fun _ g => ⟨put_ne _ (by decide) (g.1), g.2⟩, k21 := fun q => (h'.k21 (by simpa using q)).imp fun _ g => g.imp fun _ g => ⟨put_ne _ (by decide) (g.1), g.2.1, g.2.2.1, g.2.2.2⟩ }
          | 5, ho, hLi, hK' =>
            cases ho
            have ea := (h'.off.off 12 (by decide)).trans hA12
            go_simp
            exact hK' _ _ { off := h'.off.put (by decide) _, ac := h'.ac, it := h'.it, rt := h'.rt, ct := h'.ct, hr := h'.hr, d21_20 := fun q => by simpa using h'.d21_20 (by simpa using q), k0 := fun q => put_ne _ (by decide) (h'.k0 (by simpa using q)), k1 := fun q => put_ne _ (by decide) (h'.k1 (by simpa using q)), k2 := fun q => put_ne _ (by decide) (h'.k2 (by simpa using q)), k3 := fun q => put_ne _ (by decide) (h'.k3 (by simpa using q)), k4 := fun q => put_ne _ (by decide) (h'.k4 (by simpa using q)), k5 := fun _ => put_at _ (by have := h'.off.size; omega), k6 := fun q => put_ne _ (by decide) (h'.k6 (by simpa using q)), k7 := fun q => put_ne _ (by decide) (h'.k7 (by simpa using q)), k8 := fun q => put_ne _ (by decide) (h'.k8 (by simpa using q)), k9 := fun q => put_ne _ (by decide) (h'.k9 (by simpa using q)), k10 := fun q => put_ne _ (by decide) (h'.k10 (by simpa using q)), k11 := fun q => (h'.k11 (by simpa using q)).imp fun _ g => ⟨put_ne _ (by decide) (g.1), g.2⟩, k12 := fun q => put_ne _ (by decide) (h'.k12 (by simpa using q)), k13 := fun q => (h'.k13 (by simpa using q)).imp fun _ g => ⟨put_ne _ (by decide) (g.1), g.2.1, g.2.2⟩, k14 := fun q => (h'.k14 (by simpa using q)).imp fun _ g => g.imp fun _ g => ⟨put_ne _ (by decide) (g.1), g.2.1, g.2.2⟩, k15 := fun q => (h'.k15 (by simpa using q)).imp fun _ g => ⟨put_ne _ (by decide) (g.1), g.2⟩, k16 := fun q => (h'.k16 (by simpa using q)).imp fun _ g => ⟨put_ne _ (by decide) (g.1), g.2⟩, k17 := fun q => put_ne _ (by decide) (h'.k17 (by simpa using q)), k18 := fun q => put_ne _ (by decide) (h'.k18 (by simpa using q)), k19 := fun q => (h'.k19 (by simpa using q)).imp fun _ g => ⟨put_ne _ (by decide) (g.1), g.2⟩, k20 := fun q q' => (h'.k20 (by simpa using q) (by simpa using q')).imp fun _ g => ⟨put_ne _ (by decide) (g.1), g.2⟩, k21 := fun q => (h'.k21 (by simpa using q)).imp fun _ g => g.imp fun _ g => ⟨put_ne _ (by decide) (g.1), g.2.1, g.2.2.1, g.2.2.2⟩ }
          | 6, ho, hLi, hK' =>
            cases ho
            have ea := (h'.off.off 15 (by decide)).trans hA15
            go_simp
            exact hK' _ _ { off := h'.off.put (by decide) _, ac := h'.ac, it := h'.it, rt := h'.rt, ct := h'.ct, hr := h'.hr, d21_20 := fun q => by simpa using h'.d21_20 (by simpa using q), k0 := fun q => put_ne _ (by decide) (h'.k0 (by simpa using q)), k1 := fun q => put_ne _ (by decide) (h'.k1 (by simpa using q)), k2 := fun q => put_ne _ (by decide) (h'.k2 (by simpa using q)), k3 := fun q => put_ne _ (by decide) (h'.k3 (by simpa using q)), k4 := fun q => put_ne _ (by decide) (h'.k4 (by simpa using q)), k5 := fun q => put_ne _ (by decide) (h'.k5 (by simpa using q)), k6 := fun _ => put_at _ (by have := h'.off.size; omega), k7 := fun q => put_ne _ (by decide) (h'.k7 (by simpa using q)), k8 := fun q => put_ne _ (by decide) (h'.k8 (by simpa using q)), k9 := fun q => put_ne _ (by decide) (h'.k9 (by simpa using q)), k10 := fun q => put_ne _ (by decide) (h'.k10 (by simpa using q)), k11 := fun q => (h'.k11 (by simpa using q)).imp fun _ g => ⟨put_ne _ (by decide) (g.1), g.2⟩, k12 := fun q => put_ne _ (by decide) (h'.k12 (by simpa using q)), k13 := fun q => (h'.k13 (by simpa using q)).imp fun _ g => ⟨put_ne _ (by decide) (g.1), g.2.1, g.2.2⟩, k14 := fun q => (h'.k14 (by simpa using q)).imp fun _ g => g.imp fun _ g => ⟨put_ne _ (by decide) (g.1), g.2.1, g.2.2⟩, k15 := fun q => (h'.k15 (by simpa using q)).imp fun _ g => ⟨put_ne _ (by decide) (g.1), g.2⟩, k16 := fun q => (h'.k16 (by simpa using q)).imp fun _ g => ⟨put_ne _ (by decide) (g.1), g.2⟩, k17 := fun q => put_ne _ (by decide) (h'.k17 (by simpa using q)), k18 := fun q => put_ne _ (by decide) (h'.k18 (by simpa using q)), k19 := fun q => (h'.k19 (by simpa using q)).imp fun _ g => ⟨put_ne _ (by decide) (g.1), g.2⟩, k20 := fun q q' => (h'.k20 (by simpa using q) (by simpa using q')).imp fun _ g => ⟨put_ne _ (by decide) (g.1), g.2⟩, k21 := fun q => (h'.k21 (by simpa using q)).imp fun _ g => g.imp fun _ g => ⟨put_ne _ (by decide) (g.1), g.2.1, g.2.2.1, g.2.2.2⟩ }
          | 7, ho, hLi, hK' =>
            cases ho
            have ea := h'.k5 (hdeps ⟨5, .data⟩ (by simp) (by rfl))
            have eb := h'.k6 (hdeps ⟨6, .data⟩ (by simp) (by rfl))
            have wm : IntKind.i64.wrap (W - b) = W - b := wr_in (by omega) (by omega)
            go_simp
            try rewrite [wm]
            exact hK' _ _ { off := h'.off.put (by decide) _, ac := h'.ac, it := h'.it, rt := h'.rt, ct := h'.ct, hr := h'.hr, d21_20 := fun q => by simpa using h'.d21_20 (by simpa using q), k0 := fun q => put_ne _ (by decide) (h'.k0 (by simpa using q)), k1 := fun q => put_ne _ (by decide) (h'.k1 (by simpa using q)), k2 := fun q => put_ne _ (by decide) (h'.k2 (by simpa using q)), k3 := fun q => put_ne _ (by decide) (h'.k3 (by simpa using q)), k4 := fun q => put_ne _ (by decide) (h'.k4 (by simpa using q)), k5 := fun q => put_ne _ (by decide) (h'.k5 (by simpa using q)), k6 := fun q => put_ne _ (by decide) (h'.k6 (by simpa using q)), k7 := fun _ => put_at _ (by have := h'.off.size; omega), k8 := fun q => put_ne _ (by decide) (h'.k8 (by simpa using q)), k9 := fun q => put_ne _ (by decide) (h'.k9 (by simpa using q)), k10 := fun q => put_ne _ (by decide) (h'.k10 (by simpa using q)), k11 := fun q => (h'.k11 (by simpa using q)).imp fun _ g => ⟨put_ne _ (by decide) (g.1), g.2⟩, k12 := fun q => put_ne _ (by decide) (h'.k12 (by simpa using q)), k13 := fun q => (h'.k13 (by simpa using q)).imp fun _ g => ⟨put_ne _ (by decide) (g.1), g.2.1, g.2.2⟩, k14 := fun q => (h'.k14 (by simpa using q)).imp fun _ g => g.imp fun _ g => ⟨put_ne _ (by decide) (g.1), g.2.1, g.2.2⟩, k15 := fun q => (h'.k15 (by simpa using q)).imp fun _ g => ⟨put_ne _ (by decide) (g.1), g.2⟩, k16 := fun q => (h'.k16 (by simpa using q)).imp fun _ g => ⟨put_ne _ (by decide) (g.1), g.2⟩, k17 := fun q => put_ne _ (by decide) (h'.k17 (by simpa using q)), k18 := fun q => put_ne _ (by decide) (h'.k18 (by simpa using q)), k19 := fun q => (h'.k19 (by simpa using q)).imp fun _ g => ⟨put_ne _ (by decide) (g.1), g.2⟩, k20 := fun q q' => (h'.k20 (by simpa using q) (by simpa using q')).imp fun _ g => ⟨put_ne _ (by decide) (g.1), g.2⟩, k21 := fun q => (h'.k21 (by simpa using q)).imp fun _ g => g.imp fun _ g => ⟨put_ne _ (by decide) (g.1), g.2.1, g.2.2.1, g.2.2.2⟩ }
          | 8, ho, hLi, hK' =>
            cases ho
            have ea := (h'.off.off 17 (by decide)).trans hA17
            go_simp
            exact hK' _ _ { off := h'.off.put (by decide) _, ac := h'.ac, it := h'.it, rt := h'.rt, ct := h'.ct, hr := h'.hr, d21_20 := fun q => by simpa using h'.d21_20 (by simpa using q), k0 := fun q => put_ne _ (by decide) (h'.k0 (by simpa using q)), k1 := fun q => put_ne _ (by decide) (h'.k1 (by simpa using q)), k2 := fun q => put_ne _ (by decide) (h'.k2 (by simpa using q)), k3 := fun q => put_ne _ (by decide) (h'.k3 (by simpa using q)), k4 := fun q => put_ne _ (by decide) (h'.k4 (by simpa using q)), k5 := fun q => put_ne _ (by decide) (h'.k5 (by simpa using q)), k6 := fun q => put_ne _ (by decide) (h'.k6 (by simpa using q)), k7 := fun q => put_ne _ (by decide) (h'.k7 (by simpa using q)), k8 := fun _ => put_at _ (by have := h'.off.size; omega), k9 := fun q => put_ne _ (by decide) (h'.k9 (by simpa using q)), k10 := fun q => put_ne _ (by decide) (h'.k10 (by simpa using q)), k11 := fun q => (h'.k11 (by simpa using q)).imp fun _ g => ⟨put_ne _ (by decide) (g.1), g.2⟩, k12 := fun q => put_ne _ (by decide) (h'.k12 (by simpa using q)), k13 := fun q => (h'.k13 (by simpa using q)).imp fun _ g => ⟨put_ne _ (by decide) (g.1), g.2.1, g.2.2⟩, k14 := fun q => (h'.k14 (by simpa using q)).imp fun _ g => g.imp fun _ g => ⟨put_ne _ (by decide) (g.1), g.2.1, g.2.2⟩, k15 := fun q => (h'.k15 (by simpa using q)).imp fun _ g => ⟨put_ne _ (by decide) (g.1), g.2⟩, k16 := fun q => (h'.k16 (by simpa using q)).imp fun _ g => ⟨put_ne _ (by decide) (g.1), g.2⟩, k17 := fun q => put_ne _ (by decide) (h'.k17 (by simpa using q)), k18 := fun q => put_ne _ (by decide) (h'.k18 (by simpa using q)), k19 := fun q => (h'.k19 (by simpa using q)).imp fun _ g => ⟨put_ne _ (by decide) (g.1), g.2⟩, k20 := fun q q' => (h'.k20 (by simpa using q) (by simpa using q')).imp fun _ g => ⟨put_ne _ (by decide) (g.1), g.2⟩, k21 := fun q => (h'.k21 (by simpa using q)).imp fun _ g => g.imp fun _ g => ⟨put_ne _ (by decide) (g.1), g.2.1, g.2.2.1, g.2.2.2⟩ }
          | 9, ho, hLi, hK' =>
            cases ho
            have ea := h'.k7 (hdeps ⟨7, .data⟩ (by simp) (by rfl))
            have eb := h'.k8 (hdeps ⟨8, .data⟩ (by simp) (by rfl))
            have wm : IntKind.i64.wrap (W - b + f2) = W - b + f2 := wr_in (by omega) (by omega)
            go_simp
            try rewrite [wm]
            exact hK' _ _ { off := h'.off.put (by decide) _, ac := h'.ac, it := h'.it, rt := h'.rt, ct := h'.ct, hr := h'.hr, d21_20 := fun q => by simpa using h'.d21_20 (by simpa using q), k0 := fun q => put_ne _ (by decide) (h'.k0 (by simpa using q)), k1 := fun q => put_ne _ (by decide) (h'.k1 (by simpa using q)), k2 := fun q => put_ne _ (by decide) (h'.k2 (by simpa using q)), k3 := fun q => put_ne _ (by decide) (h'.k3 (by simpa using q)), k4 := fun q => put_ne _ (by decide) (h'.k4 (by simpa using q)), k5 := fun q => put_ne _ (by decide) (h'.k5 (by simpa using q)), k6 := fun q => put_ne _ (by decide) (h'.k6 (by simpa using q)), k7 := fun q => put_ne _ (by decide) (h'.k7 (by simpa using q)), k8 := fun q => put_ne _ (by decide) (h'.k8 (by simpa using q)), k9 := fun _ => put_at _ (by have := h'.off.size; omega), k10 := fun q => put_ne _ (by decide) (h'.k10 (by simpa using q)), k11 := fun q => (h'.k11 (by simpa using q)).imp fun _ g => ⟨put_ne _ (by decide) (g.1), g.2⟩, k12 := fun q => put_ne _ (by decide) (h'.k12 (by simpa using q)), k13 := fun q => (h'.k13 (by simpa using q)).imp fun _ g => ⟨put_ne _ (by decide) (g.1), g.2.1, g.2.2⟩, k14 := fun q => (h'.k14 (by simpa using q)).imp fun _ g => g.imp fun _ g => ⟨put_ne _ (by decide) (g.1), g.2.1, g.2.2⟩, k15 := fun q => (h'.k15 (by simpa using q)).imp fun _ g => ⟨put_ne _ (by decide) (g.1), g.2⟩, k16 := fun q => (h'.k16 (by simpa using q)).imp fun _ g => ⟨put_ne _ (by decide) (g.1), g.2⟩, k17 := fun q => put_ne _ (by decide) (h'.k17 (by simpa using q)), k18 := fun q => put_ne _ (by decide) (h'.k18 (by simpa using q)), k19 := fun q => (h'.k19 (by simpa using q)).imp fun _ g => ⟨put_ne _ (by decide) (g.1), g.2⟩, k20 := fun q q' => (h'.k20 (by simpa using q) (by simpa using q')).imp fun _ g => ⟨put_ne _ (by decide) (g.1), g.2⟩, k21 := fun q => (h'.k21 (by simpa using q)).imp fun _ g => g.imp fun _ g => ⟨put_ne _ (by decide) (g.1), g.2.1, g.2.2.1, g.2.2.2⟩ }
          | 10, ho, hLi, hK' =>
            cases ho
            have ea := (h'.off.off 13 (by decide)).trans hA13
            go_simp
            exact hK' _ _ { off := h'.off.put (by decide) _, ac := h'.ac, it := h'.it, rt := h'.rt, ct := h'.ct, hr := h'.hr, d21_20 := fun q => by simpa using h'.d21_20 (by simpa using q), k0 := fun q => put_ne _ (by decide) (h'.k0 (by simpa using q)), k1 := fun q => put_ne _ (by decide) (h'.k1 (by simpa using q)), k2 := fun q => put_ne _ (by decide) (h'.k2 (by simpa using q)), k3 := fun q => put_ne _ (by decide) (h'.k3 (by simpa using q)), k4 := fun q => put_ne _ (by decide) (h'.k4 (by simpa using q)), k5 := fun q => put_ne _ (by decide) (h'.k5 (by simpa using q)), k6 := fun q => put_ne _ (by decide) (h'.k6 (by simpa using q)), k7 := fun q => put_ne _ (by decide) (h'.k7 (by simpa using q)), k8 := fun q => put_ne _ (by decide) (h'.k8 (by simpa using q)), k9 := fun q => put_ne _ (by decide) (h'.k9 (by simpa using q)), k10 := fun _ => put_at _ (by have := h'.off.size; omega), k11 := fun q => (h'.k11 (by simpa using q)).imp fun _ g => ⟨put_ne _ (by decide) (g.1), g.2⟩, k12 := fun q => put_ne _ (by decide) (h'.k12 (by simpa using q)), k13 := fun q => (h'.k13 (by simpa using q)).imp fun _ g => ⟨put_ne _ (by decide) (g.1), g.2.1, g.2.2⟩, k14 := fun q => (h'.k14 (by simpa using q)).imp fun _ g => g.imp fun _ g => ⟨put_ne _ (by decide) (g.1), g.2.1, g.2.2⟩, k15 := fun q => (h'.k15 (by simpa using q)).imp fun _ g => ⟨put_ne _ (by decide) (g.1), g.2⟩, k16 := fun q => (h'.k16 (by simpa using q)).imp fun _ g => ⟨put_ne _ (by decide) (g.1), g.2⟩, k17 := fun q => put_ne _ (by decide) (h'.k17 (by simpa using q)), k18 := fun q => put_ne _ (by decide) (h'.k18 (by simpa using q)), k19 := fun q => (h'.k19 (by simpa using q)).imp fun _ g => ⟨put_ne _ (by decide) (g.1), g.2⟩, k20 := fun q q' => (h'.k20 (by simpa using q) (by simpa using q')).imp fun _ g => ⟨put_ne _ (by decide) (g.1), g.2⟩, k21 := fun q => (h'.k21 (by simpa using q)).imp fun _ g => g.imp fun _ g => ⟨put_ne _ (by decide) (g.1), g.2.1, g.2.2.1, g.2.2.2⟩ }
          | 11, ho, hLi, hK' =>
            cases ho
            have hb := (Below.refl wx.heap.size wx).alloc (Nat.le_refl _) (.cells #[.int .i64 0, .int .i64 0, .int .i64 7, .int .i64 (-12)] 3)
            have hc := Chg.of (sb := sb) hb
            go_simp
            exact hK' _ _ { off := h'.off.put (by decide) _, ac := h'.ac.next hb, it := h'.it.draw hc, rt := h'.rt.draw hc h'.hr, ct := h'.ct.draw hc, hr := h'.hr, d21_20 := fun q => by simpa using h'.d21_20 (by simpa using q), k0 := fun q => put_ne _ (by decide) (h'.k0 (by simpa using q)), k1 := fun q => put_ne _ (by decide) (h'.k1 (by simpa using q)), k2 := fun q => put_ne _ (by decide) (h'.k2 (by simpa using q)), k3 := fun q => put_ne _ (by decide) (h'.k3 (by simpa using q)), k4 := fun q => put_ne _ (by decide) (h'.k4 (by simpa using q)), k5 := fun q => put_ne _ (by decide) (h'.k5 (by simpa using q)), k6 := fun q => put_ne _ (by decide) (h'.k6 (by simpa using q)), k7 := fun q => put_ne _ (by decide) (h'.k7 (by simpa using q)), k8 := fun q => put_ne _ (by decide) (h'.k8 (by simpa using q)), k9 := fun q => put_ne _ (by decide) (h'.k9 (by simpa using q)), k10 := fun q => put_ne _ (by decide) (h'.k10 (by simpa using q)), k11 := fun _ => ⟨wx.heap.size, put_at _ (by have := h'.off.size; omega), Lit.fresh [0, 0, 7, -12] _ (Nat.lt_of_lt_of_le hsb h'.ac.ch.size)⟩, k12 := fun q => put_ne _ (by decide) (h'.k12 (by simpa using q)), k13 := fun q => (h'.k13 (by simpa using q)).imp fun _ g => ⟨put_ne _ (by decide) (g.1), g.2.1, g.2.2⟩, k14 := fun q => (h'.k14 (by simpa using q)).imp fun _ g => g.imp fun _ g => ⟨put_ne _ (by decide) (g.1), (g.2.1).draw hc, g.2.2⟩, k15 := fun q => (h'.k15 (by simpa using q)).imp fun _ g => ⟨put_ne _ (by decide) (g.1), g.2⟩, k16 := fun q => (h'.k16 (by simpa using q)).imp fun _ g => ⟨put_ne _ (by decide) (g.1), g.2⟩, k17 := fun q => put_ne _ (by decide) (h'.k17 (by simpa using q)), k18 := fun q => put_ne _ (by decide) (h'.k18 (by simpa using q)), k19 := fun q => (h'.k19 (by simpa using q)).imp fun _ g => ⟨put_ne _ (by decide) (g.1), g.2⟩, k20 := fun q q' => (h'.k20 (by simpa using q) (by simpa using q')).imp fun _ g => ⟨put_ne _ (by decide) (g.1), (g.2).draw hc⟩, k21 := fun q => (h'.k21 (by simpa using q)).imp fun _ g => g.imp fun _ g => ⟨put_ne _ (by decide) (g.1), (g.2.1).draw hc, g.2.2.1, g.2.2.2⟩ }
          | 12, ho, hLi, hK' =>
            cases ho
            have ea := (h'.off.off 0 (by decide)).trans hA0
            go_simp
            exact hK' _ _ { off := h'.off.put (by decide) _, ac := h'.ac, it := h'.it, rt := h'.rt, ct := h'.ct, hr := h'.hr, d21_20 := fun q => by simpa using h'.d21_20 (by simpa using q), k0 := fun q => put_ne _ (by decide) (h'.k0 (by simpa using q)), k1 := fun q => put_ne _ (by decide) (h'.k1 (by simpa using q)), k2 := fun q => put_ne _ (by decide) (h'.k2 (by simpa using q)), k3 := fun q => put_ne _ (by decide) (h'.k3 (by simpa using q)), k4 := fun q => put_ne _ (by decide) (h'.k4 (by simpa using q)), k5 := fun q => put_ne _ (by decide) (h'.k5 (by simpa using q)), k6 := fun q => put_ne _ (by decide) (h'.k6 (by simpa using q)), k7 := fun q => put_ne _ (by decide) (h'.k7 (by simpa using q)), k8 := fun q => put_ne _ (by decide) (h'.k8 (by simpa using q)), k9 := fun q => put_ne _ (by decide) (h'.k9 (by simpa using q)), k10 := fun q => put_ne _ (by decide) (h'.k10 (by simpa using q)), k11 := fun q => (h'.k11 (by simpa using q)).imp fun _ g => ⟨put_ne _ (by decide) (g.1), g.2⟩, k12 := fun _ => put_at _ (by have := h'.off.size; omega), k13 := fun q => (h'.k13 (by simpa using q)).imp fun _ g => ⟨put_ne _ (by decide) (g.1), g.2.1, g.2.2⟩, k14 := fun q => (h'.k14 (by simpa using q)).imp fun _ g => g.imp fun _ g => ⟨put_ne _ (by decide) (g.1), g.2.1, g.2.2⟩, k15 := fun q => (h'.k15 (by simpa using q)).imp fun _ g => ⟨put_ne _ (by decide) (g.1), g.2⟩, k16 := fun q => (h'.k16 (by simpa using q)).imp fun _ g => ⟨put_ne _ (by decide) (g.1), g.2⟩, k17 := fun q => put_ne _ (by decide) (h'.k17 (by simpa using q)), k18 := fun q => put_ne _ (by decide) (h'.k18 (by simpa using q)), k19 := fun q => (h'.k19 (by simpa using q)).imp fun _ g => ⟨put_ne _ (by decide) (g.1), g.2⟩, k20 := fun q q' => (h'.k20 (by simpa using q) (by simpa using q')).imp fun _ g => ⟨put_ne _ (by decide) (g.1), g.2⟩, k21 := fun q => (h'.k21 (by simpa using q)).imp fun _ g => g.imp fun _ g => ⟨put_ne _ (by decide) (g.1), g.2.1, g.2.2.1, g.2.2.2⟩ }
          | 13, ho, hLi, hK' =>
            cases ho
            have ea := h'.k12 (hdeps ⟨12, .data⟩ (by simp) (by rfl))
            go_simp
            refine (NX 4 wx (by decide) (by decide) h'.ac.src).out.mono ?_
            rintro e w2 ⟨r', rfl, r0', r1', hs, hc⟩
            exact hK' _ _ { off := h'.off.put (by decide) _, ac := h'.ac.draw hs hc, it := h'.it.draw hc, rt := h'.rt.draw hc h'.hr, ct := h'.ct.draw hc, hr := h'.hr, d21_20 := fun q => by simpa using h'.d21_20 (by simpa using q), k0 := fun q => put_ne _ (by decide) (h'.k0 (by simpa using q)), k1 := fun q => put_ne _ (by decide) (h'.k1 (by simpa using q)), k2 := fun q => put_ne _ (by decide) (h'.k2 (by simpa using q)), k3 := fun q => put_ne _ (by decide) (h'.k3 (by simpa using q)), k4 := fun q => put_ne _ (by decide) (h'.k4 (by simpa using q)), k5 := fun q => put_ne _ (by decide) (h'.k5 (by simpa using q)), k6 := fun q => put_ne _ (by decide) (h'.k6 (by simpa using q)), k7 := fun q => put_ne _ (by decide) (h'.k7 (by simpa using q)), k8 := fun q => put_ne _ (by decide) (h'.k8 (by simpa using q)), k9 := fun q => put_ne _ (by decide) (h'.k9 (by simpa using q)), k10 := fun q => put_ne _ (by decide) (h'.k10 (by simpa using q)), k11 := fun q => (h'.k11 (by simpa using q)).imp fun _ g => ⟨put_ne _ (by decide) (g.1), (g.2).draw hc⟩, k12 := fun q => put_ne _ (by decide) (h'.k12 (by simpa using q)), k13 := fun _ => ⟨r', put_at _ (by have := h'.off.size; omega), r0', r1'⟩, k14 := fun q => (h'.k14 (by simpa using q)).imp fun _ g => g.imp fun _ g => ⟨put_ne _ (by decide) (g.1), (g.2.1).draw hc, g.2.2⟩, k15 := fun q => (h'.k15 (by simpa using q)).imp fun _ g => ⟨put_ne _ (by decide) (g.1), g.2⟩, k16 := fun q => (h'.k16 (by simpa using q)).imp fun _ g => ⟨put_ne _ (by decide) (g.1), g.2⟩, k17 := fun q => put_ne _ (by decide) (h'.k17 (by simpa using q)), k18 := fun q => put_ne _ (by decide) (h'.k18 (by simpa using q)), k19 := fun q => (h'.k19 (by simpa using q)).imp fun _ g => ⟨put_ne _ (by decide) (g.1), g.2⟩, k20 := fun q q' => (h'.k20 (by simpa using q) (by simpa using q')).imp fun _ g => ⟨put_ne _ (by decide) (g.1), (g.2).draw hc⟩, k21 := fun q => (h'.k21 (by simpa using q)).imp fun _ g => g.imp fun _ g => ⟨put_ne _ (by decide) (g.1), (g.2.1).draw hc, g.2.2.1, g.2.2.2⟩ }
          | 14, ho, hLi, hK' =>
            cases ho
            obtain ⟨h11, ea, q110⟩ := h'.k11 (hdeps ⟨11, .data⟩ (by simp) (by rfl))
            obtain ⟨n13, eb, q130, q131⟩ := h'.k13 (hdeps ⟨13, .data⟩ (by simp) (by rfl))
            have : n13 = 0 ∨ n13 = 1 ∨ n13 = 2 ∨ n13 = 3 := by omega
            rcases this with rfl | rfl | rfl | rfl
            · go_simp
              exact hK' _ _ { off := h'.off.put (by decide) _, ac := h'.ac, it := h'.it, rt := h'.rt, ct := h'.ct, hr := h'.hr, d21_20 := fun q => by simpa using h'.d21_20 (by simpa using q), k0 := fun q => put_ne _ (by decide) (h'.k0 (by simpa using q)), k1 := fun q => put_ne _ (by decide) (h'.k1 (by simpa using q)), k2 := fun q => put_ne _ (by decide) (h'.k2 (by simpa using q)), k3 := fun q => put_ne _ (by decide) (h'.k3 (by simpa using q)), k4 := fun q => put_ne _ (by decide) (h'.k4 (by simpa using q)), k5 := fun q => put_ne _ (by decide) (h'.k5 (by simpa using q)), k6 := fun q => put_ne _ (by decide) (h'.k6 (by simpa using q)), k7 := fun q => put_ne _ (by decide) (h'.k7 (by simpa using q)), k8 := fun q => put_ne _ (by decide) (h'.k8 (by simpa using q)), k9 := fun q => put_ne _ (by decide) (h'.k9 (by simpa using q)), k10 := fun q => put_ne _ (by decide) (h'.k10 (by simpa using q)), k11 := fun q => (h'.k11 (by simpa using q)).imp fun _ g => ⟨put_ne _ (by decide) (g.1), g.2⟩, k12 := fun q => put_ne _ (by decide) (h'.k12 (by simpa using q)), k13 := fun q => (h'.k13 (by simpa using q)).imp fun _ g => ⟨put_ne _ (by decide) (g.1), g.2.1, g.2.2⟩, k14 := fun _ => ⟨h11, 0, put_at _ (by have := h'.off.size; omega), q110, by decide⟩, k15 := fun q => (h'.k15 (by simpa using q)).imp fun _ g => ⟨put_ne _ (by decide) (g.1), g.2⟩, k16 := fun q => (h'.k16 (by simpa using q)).imp fun _ g => ⟨put_ne _ (by decide) (g.1), g.2⟩, k17 := fun q => put_ne _ (by decide) (h'.k17 (by simpa using q)), k18 := fun q => put_ne _ (by decide) (h'.k18 (by simpa using q)), k19 := fun q => (h'.k19 (by simpa using q)).imp fun _ g => ⟨put_ne _ (by decide) (g.1), g.2⟩, k20 := fun q q' => (h'.k20 (by simpa using q) (by simpa using q')).imp fun _ g => ⟨put_ne _ (by decide) (g.1), g.2⟩, k21 := fun q => (h'.k21 (by simpa using q)).imp fun _ g => g.imp fun _ g => ⟨put_ne _ (by decide) (g.1), g.2.1, g.2.2.1, g.2.2.2⟩ }
            · go_simp
              exact hK' _ _ { off := h'.off.put (by decide) _, ac := h'.ac, it := h'.it, rt := h'.rt, ct := h'.ct, hr := h'.hr, d21_20 := fun q => by simpa using h'.d21_20 (by simpa using q), k0 := fun q => put_ne _ (by decide) (h'.k0 (by simpa using q)), k1 := fun q => put_ne _ (by decide) (h'.k1 (by simpa using q)), k2 := fun q => put_ne _ (by decide) (h'.k2 (by simpa using q)), k3 := fun q => put_ne _ (by decide) (h'.k3 (by simpa using q)), k4 := fun q => put_ne _ (by decide) (h'.k4 (by simpa using q)), k5 := fun q => put_ne _ (by decide) (h'.k5 (by simpa using q)), k6 := fun q => put_ne _ (by decide) (h'.k6 (by simpa using q)), k7 := fun q => put_ne _ (by decide) (h'.k7 (by simpa using q)), k8 := fun q => put_ne _ (by decide) (h'.k8 (by simpa using q)), k9 := fun q => put_ne _ (by decide) (h'.k9 (by simpa using q)), k10 := fun q => put_ne _ (by decide) (h'.k10 (by simpa using q)), k11 := fun q => (h'.k11 (by simpa using q)).imp fun _ g => ⟨put_ne _ (by decide) (g.1), g.2⟩, k12 := fun q => put_ne _ (by decide) (h'.k12 (by simpa using q)), k13 := fun q => (h'.k13 (by simpa using q)).imp fun _ g => ⟨put_ne _ (by decide) (g.1), g.2.1, g.2.2⟩, k14 := fun _ => ⟨h11, 1, put_at _ (by have := h'.off.size; omega), q110, by decide⟩, k15 := fun q => (h'.k15 (by simpa using q)).imp fun _ g => ⟨put_ne _ (by decide) (g.1), g.2⟩, k16 := fun q => (h'.k16 (by simpa using q)).imp fun _ g => ⟨put_ne _ (by decide) (g.1), g.2⟩, k17 := fun q => put_ne _ (by decide) (h'.k17 (by simpa using q)), k18 := fun q => put_ne _ (by decide) (h'.k18 (by simpa using q)), k19 := fun q => (h'.k19 (by simpa using q)).imp fun _ g => ⟨put_ne _ (by decide) (g.1), g.2⟩, k20 := fun q q' => (h'.k20 (by simpa using q) (by simpa using q')).imp fun _ g => ⟨put_ne _ (by decide) (g.1), g.2⟩, k21 := fun q => (h'.k21 (by simpa using q)).imp fun _ g => g.imp fun _ g => ⟨put_ne _ (by decide) (g.1), g.2.1, g.2.2.1, g.2.2.2⟩ }
            · go_simp
              exact hK' _ _ { off := h'.off.put (by decide) _, ac := h'.ac, it := h'.it, rt := h'.rt, ct := h'.ct, hr := h'.hr, d21_20 := fun q => by simpa using h'.d21_20 (by simpa using q), k0 := fun q => put_ne _ (by decide) (h'.k0 (by simpa using q)), k1 := fun q => put_ne _ (by decide) (h'.k1 (by simpa using q)), k2 := fun q => put_ne _ (by decide) (h'.k2 (by simpa using q)), k3 := fun q => put_ne _ (by decide) (h'.k3 (by simpa using q)), k4 := fun q => put_ne _ (by decide) (h'.k4 (by simpa using q)), k5 := fun q => put_ne _ (by decide) (h'.k5 (by simpa using q)), k6 := fun q => put_ne _ (by decide) (h'.k6 (by simpa using q)), k7 := fun q => put_ne _ (by decide) (h'.k7 (by simpa using q)), k8 := fun q => put_ne _ (by decide) (h'.k8 (by simpa using q)), k9 := fun q => put_ne _ (by decide) (h'.k9 (by simpa using q)), k10 := fun q => put_ne _ (by decide) (h'.k10 (by simpa using q)), k11 := fun q => (h'.k11 (by simpa using q)).imp fun _ g => ⟨put_ne _ (by decide) (g.1), g.2⟩, k12 := fun q => put_ne _ (by decide) (h'.k12 (by simpa using q)), k13 := fun q => (h'.k13 (by simpa using q)).imp fun _ g => ⟨put_ne _ (by decide) (g.1), g.2.1, g.2.2⟩, k14 := fun _ => ⟨h11, 2, put_at _ (by have := h'.off.size; omega), q110, by decide⟩, k15 := fun q => (h'.k15 (by simpa using q)).imp fun _ g => ⟨put_ne _ (by decide) (g.1), g.2⟩, k16 := fun q => (h'.k16 (by simpa using q)).imp fun _ g => ⟨put_ne _ (by decide) (g.1), g.2⟩, k17 := fun q => put_ne _ (by decide) (h'.k17 (by simpa using q)), k18 := fun q => put_ne _ (by decide) (h'.k18 (by simpa using q)), k19 := fun q => (h'.k19 (by simpa using q)).imp fun _ g => ⟨put_ne _ (by decide) (g.1), g.2⟩, k20 := fun q q' => (h'.k20 (by simpa using q) (by simpa using q')).imp fun _ g => ⟨put_ne _ (by decide) (g.1), g.2⟩, k21 := fun q => (h'.k21 (by simpa using q)).imp fun _ g => g.imp fun _ g => ⟨put_ne _ (by decide) (g.1), g.2.1, g.2.2.1, g.2.2.2⟩ }
            · go_simp
              exact hK' _ _ { off := h'.off.put (by decide) _, ac := h'.ac, it := h'.it, rt := h'.rt, ct := h'.ct, hr := h'.hr, d21_20 := fun q => by simpa using h'.d21_20 (by simpa using q), k0 := fun q => put_ne _ (by decide) (h'.k0 (by simpa using q)), k1 := fun q => put_ne _ (by decide) (h'.k1 (by simpa using q)), k2 := fun q => put_ne _ (by decide) (h'.k2 (by simpa using q)), k3 := fun q => put_ne _ (by decide) (h'.k3 (by simpa using q)), k4 := fun q => put_ne _ (by decide) (h'.k4 (by simpa using q)), k5 := fun q => put_ne _ (by decide) (h'.k5 (by simpa using q)), k6 := fun q => put_ne _ (by decide) (h'.k6 (by simpa using q)), k7 := fun q => put_ne _ (by decide) (h'.k7 (by simpa using q)), k8 := fun q => put_ne _ (by decide) (h'.k8 (by simpa using q)), k9 := fun q => put_ne _ (by decide) (h'.k9 (by simpa using q)), k10 := fun q => put_ne _ (by decide) (h'.k10 (by simpa using q)), k11 := fun q => (h'.k11 (by simpa using q)).imp fun _ g => ⟨put_ne _ (by decide) (g.1), g.2⟩, k12 := fun q => put_ne _ (by decide) (h'.k12 (by simpa using q)), k13 := fun q => (h'.k13 (by simpa using q)).imp fun _ g => ⟨put_ne _ (by decide) (g.1), g.2.1, g.2.2⟩, k14 := fun _ => ⟨h11, 3, put_at _ (by have := h'.off.size; omega), q110, by decide⟩, k15 := fun q => (h'.k15 (by simpa using q)).imp fun _ g => ⟨put_ne _ (by decide) (g.1), g.2⟩, k16 := fun q => (h'.k16 (by simpa using q)).imp fun _ g => ⟨put_ne _ (by decide) (g.1), g.2⟩, k17 := fun q => put_ne _ (by decide) (h'.k17 (by simpa using q)), k18 := fun q => put_ne _ (by decide) (h'.k18 (by simpa using q)), k19 := fun q => (h'.k19 (by simpa using q)).imp fun _ g => ⟨put_ne _ (by decide) (g.1), g.2⟩, k20 := fun q q' => (h'.k20 (by simpa using q) (by simpa using q')).imp fun _ g => ⟨put_ne _ (by decide) (g.1), g.2⟩, k21 := fun q => (h'.k21 (by simpa using q)).imp fun _ g => g.imp fun _ g => ⟨put_ne _ (by decide) (g.1), g.2.1, g.2.2.1, g.2.2.2⟩ }
          | 15, ho, hLi, hK' =>
            cases ho
            obtain ⟨h14, n14, ea, q140, q141⟩ := h'.k14 (hdeps ⟨14, .data⟩ (by simp) (by rfl))
            have : n14 = 0 ∨ n14 = 1 ∨ n14 = 2 ∨ n14 = 3 := by omega
            rcases this with rfl | rfl | rfl | rfl
            · have ec := q140.c 0 (0) rfl
              go_simp
              exact hK' _ _ { off := h'.off.put (by decide) _, ac := h'.ac, it := h'.it, rt := h'.rt, ct := h'.ct, hr := h'.hr, d21_20 := fun q => by simpa using h'.d21_20 (by simpa using q), k0 := fun q => put_ne _ (by decide) (h'.k0 (by simpa using q)), k1 := fun q => put_ne _ (by decide) (h'.k1 (by simpa using q)), k2 := fun q => put_ne _ (by decide) (h'.k2 (by simpa using q)), k3 := fun q => put_ne _ (by decide) (h'.k3 (by simpa using q)), k4 := fun q => put_ne _ (by decide) (h'.k4 (by simpa using q)), k5 := fun q => put_ne _ (by decide) (h'.k5 (by simpa using q)), k6 := fun q => put_ne _ (by decide) (h'.k6 (by simpa using q)), k7 := fun q => put_ne _ (by decide) (h'.k7 (by simpa using q)), k8 := fun q => put_ne _ (by decide) (h'.k8 (by simpa using q)), k9 := fun q => put_ne _ (by decide) (h'.k9 (by simpa using q)), k10 := fun q => put_ne _ (by decide) (h'.k10 (by simpa using q)), k11 := fun q => (h'.k11 (by simpa using q)).imp fun _ g => ⟨put_ne _ (by decide) (g.1), g.2⟩, k12 := fun q => put_ne _ (by decide) (h'.k12 (by simpa using q)), k13 := fun q => (h'.k13 (by simpa using q)).imp fun _ g => ⟨put_ne _ (by decide) (g.1), g.2.1, g.2.2⟩, k14 := fun q => (h'.k14 (by simpa using q)).imp fun _ g => g.imp fun _ g => ⟨put_ne _ (by decide) (g.1), g.2.1, g.2.2⟩, k15 := fun _ => ⟨0, put_at _ (by have := h'.off.size; omega), by decide⟩, k16 := fun q => (h'.k16 (by simpa using q)).imp fun _ g => ⟨put_ne _ (by decide) (g.1), g.2⟩, k17 := fun q => put_ne _ (by decide) (h'.k17 (by simpa using q)), k18 := fun q => put_ne _ (by decide) (h'.k18 (by simpa using q)), k19 := fun q => (h'.k19 (by simpa using q)).imp fun _ g => ⟨put_ne _ (by decide) (g.1), g.2⟩, k20 := fun q q' => (h'.k20 (by simpa using q) (by simpa using q')).imp fun _ g => ⟨put_ne _ (by decide) (g.1), g.2⟩, k21 := fun q => (h'.k21 (by simpa using q)).imp fun _ g => g.imp fun _ g => ⟨put_ne _ (by decide) (g.1), g.2.1, g.2.2.1, g.2.2.2⟩ }
            · have ec := q140.c 1 (0) rfl
              go_simp
              exact hK' _ _ { off := h'.off.put (by decide) _, ac := h'.ac, it := h'.it, rt := h'.rt, ct := h'.ct, hr := h'.hr, d21_20 := fun q => by simpa using h'.d21_20 (by simpa using q), k0 := fun q => put_ne _ (by decide) (h'.k0 (by simpa using q)), k1 := fun q => put_ne _ (by decide) (h'.k1 (by simpa using q)), k2 := fun q => put_ne _ (by decide) (h'.k2 (by simpa using q)), k3 := fun q => put_ne _ (by decide) (h'.k3 (by simpa using q)), k4 := fun q => put_ne _ (by decide) (h'.k4 (by simpa using q)), k5 := fun q => put_ne _ (by decide) (h'.k5 (by simpa using q)), k6 := fun q => put_ne _ (by decide) (h'.k6 (by simpa using q)), k7 := fun q => put_ne _ (by decide) (h'.k7 (by simpa using q)), k8 := fun q => put_ne _ (by decide) (h'.k8 (by simpa using q)), k9 := fun q => put_ne _ (by decide) (h'.k9 (by simpa using q)), k10 := fun q => put_ne _ (by decide) (h'.k10 (by simpa using q)), k11 := fun q => (h'.k11 (by simpa using q)).imp fun _ g => ⟨put_ne _ (by decide) (g.1), g.2⟩, k12 := fun q => put_ne _ (by decide) (h'.k12 (by simpa using q)), k13 := fun q => (h'.k13 (by simpa using q)).imp fun _ g => ⟨put_ne _ (by decide) (g.1), g.2.1, g.2.2⟩, k14 := fun q => (h'.k14 (by simpa using q)).imp fun _ g => g.imp fun _ g => ⟨put_ne _ (by decide) (g.1), g.2.1, g.2.2⟩, k15 := fun _ => ⟨0, put_at _ (by have := h'.off.size; omega), by decide⟩, k16 := fun q => (h'.k16 (by simpa using q)).imp fun _ g => ⟨put_ne _ (by decide) (g.1), g.2⟩, k17 := fun q => put_ne _ (by decide) (h'.k17 (by simpa using q)), k18 := fun q => put_ne _ (by decide) (h'.k18 (by simpa using q)), k19 := fun q => (h'.k19 (by simpa using q)).imp fun _ g => ⟨put_ne _ (by decide) (g.1), g.2⟩, k20 := fun q q' => (h'.k20 (by simpa using q) (by simpa using q')).imp fun _ g => ⟨put_ne _ (by decide) (g.1), g.2⟩, k21 := fun q => (h'.k21 (by simpa using q)).imp fun _ g => g.imp fun _ g => ⟨put_ne _ (by decide) (g.1), g.2.1, g.2.2.1, g.2.2.2⟩ }
            · have ec := q140.c 2 (7) rfl
              go_simp
              exact hK' _ _ { off := h'.off.put (by decide) _, ac := h'.ac, it := h'.it, rt := h'.rt, ct := h'.ct, hr := h'.hr, d21_20 := fun q => by simpa using h'.d21_20 (by simpa using q), k0 := fun q => put_ne _ (by decide) (h'.k0 (by simpa using q)), k1 := fun q => put_ne _ (by decide) (h'.k1 (by simpa using q)), k2 := fun q => put_ne _ (by decide) (h'.k2 (by simpa using q)), k3 := fun q => put_ne _ (by decide) (h'.k3 (by simpa using q)), k4 := fun q => put_ne _ (by decide) (h'.k4 (by simpa using q)), k5 := fun q => put_ne _ (by decide) (h'.k5 (by simpa using q)), k6 := fun q => put_ne _ (by decide) (h'.k6 (by simpa using q)), k7 := fun q => put_ne _ (by decide) (h'.k7 (by simpa using q)), k8 := fun q => put_ne _ (by decide) (h'.k8 (by simpa using q)), k9 := fun q => put_ne _ (by decide) (h'.k9 (by simpa using q)), k10 := fun q => put_ne _ (by decide) (h'.k10 (by simpa using q)), k11 := fun q => (h'.k11 (by simpa using q)).imp fun _ g => ⟨put_ne _ (by decide) (g.1), g.2⟩, k12 := fun q => put_ne _ (by decide) (h'.k12 (by simpa using q)), k13 := fun q => (h'.k13 (by simpa using q)).imp fun _ g => ⟨put_ne _ (by decide) (g.1), g.2.1, g.2.2⟩, k14 := fun q => (h'.k14 (by simpa using q)).imp fun _ g => g.imp fun _ g => ⟨put_ne _ (by decide) (g.1), g.2.1, g.2.2⟩, k15 := fun _ => ⟨7, put_at _ (by have := h'.off.size; omega), by decide⟩, k16 := fun q => (h'.k16 (by simpa using q)).imp fun _ g => ⟨put_ne _ (by decide) (g.1), g.2⟩, k17 := fun q => put_ne _ (by decide) (h'.k17 (by simpa using q)), k18 := fun q => put_ne _ (by decide) (h'.k18 (by simpa using q)), k19 := fun q => (h'.k19 (by simpa using q)).imp fun _ g => ⟨put_ne _ (by decide) (g.1), g.2⟩, k20 := fun q q' => (h'.k20 (by simpa using q) (by simpa using q')).imp fun _ g => ⟨put_ne _ (by decide) (g.1), g.2⟩, k21 := fun q => (h'.k21 (by simpa using q)).imp fun _ g => g.imp fun _ g => ⟨put_ne _ (by decide) (g.1), g.2.1, g.2.2.1, g.2.2.2⟩ }
            · have ec := q140.c 3 (-12) rfl
              go_simp
              exact hK' _ _ { off := h'.off.put (by decide) _, ac := h'.ac, it := h'.it, rt := h'.rt, ct := h'.ct, hr := h'.hr, d21_20 := fun q => by simpa using h'.d21_20 (by simpa using q), k0 := fun q => put_ne _ (by decide) (h'.k0 (by simpa using q)), k1 := fun q => put_ne _ (by decide) (h'.k1 (by simpa using q)), k2 := fun q => put_ne _ (by decide) (h'.k2 (by simpa using q)), k3 := fun q => put_ne _ (by decide) (h'.k3 (by simpa using q)), k4 := fun q => put_ne _ (by decide) (h'.k4 (by simpa using q)), k5 := fun q => put_ne _ (by decide) (h'.k5 (by simpa using q)), k6 := fun q => put_ne _ (by decide) (h'.k6 (by simpa using q)), k7 := fun q => put_ne _ (by decide) (h'.k7 (by simpa using q)), k8 := fun q => put_ne _ (by decide) (h'.k8 (by simpa using q)), k9 := fun q => put_ne _ (by decide) (h'.k9 (by simpa using q)), k10 := fun q => put_ne _ (by decide) (h'.k10 (by simpa using q)), k11 := fun q => (h'.k11 (by simpa using q)).imp fun _ g => ⟨put_ne _ (by decide) (g.1), g.2⟩, k12 := fun q => put_ne _ (by decide) (h'.k12 (by simpa using q)), k13 := fun q => (h'.k13 (by simpa using q)).imp fun _ g => ⟨put_ne _ (by decide) (g.1), g.2.1, g.2.2⟩, k14 := fun q => (h'.k14 (by simpa using q)).imp fun _ g => g.imp fun _ g => ⟨put_ne _ (by decide) (g.1), g.2.1, g.2.2⟩, k15 := fun _ => ⟨-12, put_at _ (by have := h'.off.size; omega), by decide⟩, k16 := fun q => (h'.k16 (by simpa using q)).imp fun _ g => ⟨put_ne _ (by decide) (g.1), g.2⟩, k17 := fun q => put_ne _ (by decide) (h'.k17 (by simpa using q)), k18 := fun q => put_ne _ (by decide) (h'.k18 (by simpa using q)), k19 := fun q => (h'.k19 (by simpa using q)).imp fun _ g => ⟨put_ne _ (by decide) (g.1), g.2⟩, k20 := fun q q' => (h'.k20 (by simpa using q) (by simpa using q')).imp fun _ g => ⟨put_ne _ (by decide) (g.1), g.2⟩, k21 := fun q => (h'.k21 (by simpa using q)).imp fun _ g => g.imp fun _ g => ⟨put_ne _ (by decide) (g.1), g.2.1, g.2.2.1, g.2.2.2⟩ }
          | 16, ho, hLi, hK' =>
            cases ho
            have ea := h'.k10 (hdeps ⟨10, .data⟩ (by simp) (by rfl))
            obtain ⟨o15, eb, q150⟩ := h'.k15 (hdeps ⟨15, .data⟩ (by simp) (by rfl))
            have wm : IntKind.i64.wrap (H + o15) = H + o15 := wr_in (by omega) (by omega)
            go_simp
            try rewrite [wm]
            exact hK' _ _ { off := h'.off.put (by decide) _, ac := h'.ac, it := h'.it, rt := h'.rt, ct := h'.ct, hr := h'.hr, d21_20 := fun q => by simpa using h'.d21_20 (by simpa using q), k0 := fun q => put_ne _ (by decide) (h'.k0 (by simpa using q)), k1 := fun q => put_ne _ (by decide) (h'.k1 (by simpa using q)), k2 := fun q => put_ne _ (by decide) (h'.k2 (by simpa using q)), k3 := fun q => put_ne _ (by decide) (h'.k3 (by simpa using q)), k4 := fun q => put_ne _ (by decide) (h'.k4 (by simpa using q)), k5 := fun q => put_ne _ (by decide) (h'.k5 (by simpa using q)), k6 := fun q => put_ne _ (by decide) (h'.k6 (by simpa using q)), k7 := fun q => put_ne _ (by decide) (h'.k7 (by simpa using q)), k8 := fun q => put_ne _ (by decide) (h'.k8 (by simpa using q)), k9 := fun q => put_ne _ (by decide) (h'.k9 (by simpa using q)), k10 := fun q => put_ne _ (by decide) (h'.k10 (by simpa using q)), k11 := fun q => (h'.k11 (by simpa using q)).imp fun _ g => ⟨put_ne _ (by decide) (g.1), g.2⟩, k12 := fun q => put_ne _ (by decide) (h'.k12 (by simpa using q)), k13 := fun q => (h'.k13 (by simpa using q)).imp fun _ g => ⟨put_ne _ (by decide) (g.1), g.2.1, g.2.2⟩, k14 := fun q => (h'.k14 (by simpa using q)).imp fun _ g => g.imp fun _ g => ⟨put_ne _ (by decide) (g.1), g.2.1, g.2.2⟩, k15 := fun q => (h'.k15 (by simpa using q)).imp fun _ g => ⟨put_ne _ (by decide) (g.1), g.2⟩, k16 := fun _ => ⟨o15, put_at _ (by have := h'.off.size; omega), q150⟩, k17 := fun q => put_ne _ (by decide) (h'.k17 (by simpa using q)), k18 := fun q => put_ne _ (by decide) (h'.k18 (by simpa using q)), k19 := fun q => (h'.k19 (by simpa using q)).imp fun _ g => ⟨put_ne _ (by decide) (g.1), g.2⟩, k20 := fun q q' => (h'.k20 (by simpa using q) (by simpa using q')).imp fun _ g => ⟨put_ne _ (by decide) (g.1), g.2⟩, k21 := fun q => (h'.k21 (by simpa using q)).imp fun _ g => g.imp fun _ g => ⟨put_ne _ (by decide) (g.1), g.2.1, g.2.2.1, g.2.2.2⟩ }
          | 17, ho, hLi, hK' =>
            cases ho
            have ea := (h'.off.off 7 (by decide)).trans hA7
            go_simp
            exact hK' _ _ { off := h'.off.put (by decide) _, ac := h'.ac, it := h'.it, rt := h'.rt, ct := h'.ct, hr := h'.hr, d21_20 := fun q => by simpa using h'.d21_20 (by simpa using q), k0 := fun q => put_ne _ (by decide) (h'.k0 (by simpa using q)), k1 := fun q => put_ne _ (by decide) (h'.k1 (by simpa using q)), k2 := fun q => put_ne _ (by decide) (h'.k2 (by simpa using q)), k3 := fun q => put_ne _ (by decide) (h'.k3 (by simpa using q)), k4 := fun q => put_ne _ (by decide) (h'.k4 (by simpa using q)), k5 := fun q => put_ne _ (by decide) (h'.k5 (by simpa using q)), k6 := fun q => put_ne _ (by decide) (h'.k6 (by simpa using q)), k7 := fun q => put_ne _ (by decide) (h'.k7 (by simpa using q)), k8 := fun q => put_ne _ (by decide) (h'.k8 (by simpa using q)), k9 := fun q => put_ne _ (by decide) (h'.k9 (by simpa using q)), k10 := fun q => put_ne _ (by decide) (h'.k10 (by simpa using q)), k11 := fun q => (h'.k11 (by simpa using q)).imp fun _ g => ⟨put_ne _ (by decide) (g.1), g.2⟩, k12 := fun q => put_ne _ (by decide) (h'.k12 (by simpa using q)), k13 := fun q => (h'.k13 (by simpa using q)).imp fun _ g => ⟨put_ne _ (by decide) (g.1), g.2.1, g.2.2⟩, k14 := fun q => (h'.k14 (by simpa using q)).imp fun _ g => g.imp fun _ g => ⟨put_ne _ (by decide) (g.1), g.2.1, g.2.2⟩, k15 := fun q => (h'.k15 (by simpa using q)).imp fun _ g => ⟨put_ne _ (by decide) (g.1), g.2⟩, k16 := fun q => (h'.k16 (by simpa using q)).imp fun _ g => ⟨put_ne _ (by decide) (g.1), g.2⟩, k17 := fun _ => put_at _ (by have := h'.off.size; omega), k18 := fun q => put_ne _ (by decide) (h'.k18 (by simpa using q)), k19 := fun q => (h'.k19 (by simpa using q)).imp fun _ g => ⟨put_ne _ (by decide) (g.1), g.2⟩, k20 := fun q q' => (h'.k20 (by simpa using q) (by simpa using q')).imp fun _ g => ⟨put_ne _ (by decide) (g.1), g.2⟩, k21 := fun q => (h'.k21 (by simpa using q)).imp fun _ g => g.imp fun _ g => ⟨put_ne _ (by decide) (g.1), g.2.1, g.2.2.1, g.2.2.2⟩ }
          | 18, ho, hLi, hK' =>
            cases ho
            have ea := h'.k17 (hdeps ⟨17, .data⟩ (by simp) (by rfl))
            have y8 : wx.cell? ⟨g, 8, none⟩ = some (.int .i64 p) := h'.it.c.rg 8 (.int .i64 p) rfl
            go_simp
            exact hK' _ _ { off := h'.off.put (by decide) _, ac := h'.ac, it := h'.it, rt := h'.rt, ct := h'.ct, hr := h'.hr, d21_20 := fun q => by simpa using h'.d21_20 (by simpa using q), k0 := fun q => put_ne _ (by decide) (h'.k0 (by simpa using q)), k1 := fun q => put_ne _ (by decide) (h'.k1 (by simpa using q)), k2 := fun q => put_ne _ (by decide) (h'.k2 (by simpa using q)), k3 := fun q => put_ne _ (by decide) (h'.k3 (by simpa using q)), k4 := fun q => put_ne _ (by decide) (h'.k4 (by simpa using q)), k5 := fun q => put_ne _ (by decide) (h'.k5 (by simpa using q)), k6 := fun q => put_ne _ (by decide) (h'.k6 (by simpa using q)), k7 := fun q => put_ne _ (by decide) (h'.k7 (by simpa using q)), k8 := fun q => put_ne _ (by decide) (h'.k8 (by simpa using q)), k9 := fun q => put_ne _ (by decide) (h'.k9 (by simpa using q)), k10 := fun q => put_ne _ (by decide) (h'.k10 (by simpa using q)), k11 := fun q => (h'.k11 (by simpa using q)).imp fun _ g => ⟨put_ne _ (by decide) (g.1), g.2⟩, k12 := fun q => put_ne _ (by decide) (h'.k12 (by simpa using q)), k13 := fun q => (h'.k13 (by simpa using q)).imp fun _ g => ⟨put_ne _ (by decide) (g.1), g.2.1, g.2.2⟩, k14 := fun q => (h'.k14 (by simpa using q)).imp fun _ g => g.imp fun _ g => ⟨put_ne _ (by decide) (g.1), g.2.1, g.2.2⟩, k15 := fun q => (h'.k15 (by simpa using q)).imp fun _ g => ⟨put_ne _ (by decide) (g.1), g.2⟩, k16 := fun q => (h'.k16 (by simpa using q)).imp fun _ g => ⟨put_ne _ (by decide) (g.1), g.2⟩, k17 := fun q => put_ne _ (by decide) (h'.k17 (by simpa using q)), k18 := fun _ => put_at _ (by have := h'.off.size; omega), k19 := fun q => (h'.k19 (by simpa using q)).imp fun _ g => ⟨put_ne _ (by decide) (g.1), g.2⟩, k20 := fun q q' => (h'.k20 (by simpa using q) (by simpa using q')).imp fun _ g => ⟨put_ne _ (by decide) (g.1), g.2⟩, k21 := fun q => (h'.k21 (by simpa using q)).imp fun _ g => g.imp fun _ g => ⟨put_ne _ (by decide) (g.1), g.2.1, g.2.2.1, g.2.2.2⟩ }
          | 19, ho, hLi, hK' =>
            cases ho
            have ea := h'.k4 (hdeps ⟨4, .data⟩ (by simp) (by rfl))
            have eb := h'.k9 (hdeps ⟨9, .data⟩ (by simp) (by rfl))
            obtain ⟨o16, ec, q160⟩ := h'.k16 (hdeps ⟨16, .data⟩ (by simp) (by rfl))
            have ed := h'.k18 (hdeps ⟨18, .data⟩ (by simp) (by rfl))
            go_simp
            refine (SP _ _ _ wx).out.mono ?_
            rintro e w2 ⟨rfl, hb⟩
            have hc := Chg.of (sb := sb) hb
            exact hK' _ _ { off := h'.off.put (by decide) _, ac := h'.ac.next hb, it := h'.it.draw hc, rt := h'.rt.draw hc h'.hr, ct := h'.ct.draw hc, hr := h'.hr, d21_20 := fun q => by simpa using h'.d21_20 (by simpa using q), k0 := fun q => put_ne _ (by decide) (h'.k0 (by simpa using q)), k1 := fun q => put_ne _ (by decide) (h'.k1 (by simpa using q)), k2 := fun q => put_ne _ (by decide) (h'.k2 (by simpa using q)), k3 := fun q => put_ne _ (by decide) (h'.k3 (by simpa using q)), k4 := fun q => put_ne _ (by decide) (h'.k4 (by simpa using q)), k5 := fun q => put_ne _ (by decide) (h'.k5 (by simpa using q)), k6 := fun q => put_ne _ (by decide) (h'.k6 (by simpa using q)), k7 := fun q => put_ne _ (by decide) (h'.k7 (by simpa using q)), k8 := fun q => put_ne _ (by decide) (h'.k8 (by simpa using q)), k9 := fun q => put_ne _ (by decide) (h'.k9 (by simpa using q)), k10 := fun q => put_ne _ (by decide) (h'.k10 (by simpa using q)), k11 := fun q => (h'.k11 (by simpa using q)).imp fun _ g => ⟨put_ne _ (by decide) (g.1), (g.2).draw hc⟩, k12 := fun q => put_ne _ (by decide) (h'.k12 (by simpa using q)), k13 := fun q => (h'.k13 (by simpa using q)).imp fun _ g => ⟨put_ne _ (by decide) (g.1), g.2.1, g.2.2⟩, k14 := fun q => (h'.k14 (by simpa using q)).imp fun _ g => g.imp fun _ g => ⟨put_ne _ (by decide) (g.1), (g.2.1).draw hc, g.2.2⟩, k15 := fun q => (h'.k15 (by simpa using q)).imp fun _ g => ⟨put_ne _ (by decide) (g.1), g.2⟩, k16 := fun q => (h'.k16 (by simpa using q)).imp fun _ g => ⟨put_ne _ (by decide) (g.1), g.2⟩, k17 := fun q => put_ne _ (by decide) (h'.k17 (by simpa using q)), k18 := fun q => put_ne _ (by decide) (h'.k18 (by simpa using q)), k19 := fun _ => ⟨o16, put_at _ (by have := h'.off.size; omega), q160⟩, k20 := fun q q' => (h'.k20 (by simpa using q) (by simpa using q')).imp fun _ g => ⟨put_ne _ (by decide) (g.1), (g.2).draw hc⟩, k21 := fun q => (h'.k21 (by simpa using q)).imp fun _ g => g.imp fun _ g => ⟨put_ne _ (by decide) (g.1), (g.2.1).draw hc, g.2.2.1, g.2.2.2⟩ }
          | 20, ho, hLi, hK' =>
            cases ho
            have hb := (Below.refl wx.heap.size wx).alloc (Nat.le_refl _) (.cells #[.int .i64 0, .int .i64 0, .int .i64 0] 47)
            have hc := Chg.of (sb := sb) hb
            have hlt := Nat.lt_of_lt_of_le hsb h'.ac.ch.size
            have hge := h'.ct.lt
            go_simp
            exact hK' _ _ { off := h'.off.put (by decide) _, ac := h'.ac.next hb, it := h'.it.draw hc, rt := h'.rt.draw hc h'.hr, ct := h'.ct.draw hc, hr := h'.hr, d21_20 := fun _ => by simp, k0 := fun q => put_ne _ (by decide) (h'.k0 (by simpa using q)), k1 := fun q => put_ne _ (by decide) (h'.k1 (by simpa using q)), k2 := fun q => put_ne _ (by decide) (h'.k2 (by simpa using q)), k3 := fun q => put_ne _ (by decide) (h'.k3 (by simpa using q)), k4 := fun q => put_ne _ (by decide) (h'.k4 (by simpa using q)), k5 := fun q => put_ne _ (by decide) (h'.k5 (by simpa using q)), k6 := fun q => put_ne _ (by decide) (h'.k6 (by simpa using q)), k7 := fun q => put_ne _ (by decide) (h'.k7 (by simpa using q)), k8 := fun q => put_ne _ (by decide) (h'.k8 (by simpa using q)), k9 := fun q => put_ne _ (by decide) (h'.k9 (by simpa using q)), k10 := fun q => put_ne _ (by decide) (h'.k10 (by simpa using q)), k11 := fun q => (h'.k11 (by simpa using q)).imp fun _ g => ⟨put_ne _ (by decide) (g.1), (g.2).draw hc⟩, k12 := fun q => put_ne _ (by decide) (h'.k12 (by simpa using q)), k13 := fun q => (h'.k13 (by simpa using q)).imp fun _ g => ⟨put_ne _ (by decide) (g.1), g.2.1, g.2.2⟩, k14 := fun q => (h'.k14 (by simpa using q)).imp fun _ g => g.imp fun _ g => ⟨put_ne _ (by decide) (g.1), (g.2.1).draw hc, g.2.2⟩, k15 := fun q => (h'.k15 (by simpa using q)).imp fun _ g => ⟨put_ne _ (by decide) (g.1), g.2⟩, k16 := fun q => (h'.k16 (by simpa using q)).imp fun _ g => ⟨put_ne _ (by decide) (g.1), g.2⟩, k17 := fun q => put_ne _ (by decide) (h'.k17 (by simpa using q)), k18 := fun q => put_ne _ (by decide) (h'.k18 (by simpa using q)), k19 := fun q => (h'.k19 (by simpa using q)).imp fun _ g => ⟨put_ne _ (by decide) (g.1), g.2⟩, k20 := fun _ _ => ⟨wx.heap.size, put_at _ (by have := h'.off.size; omega), Nw.fresh3 wx _ sb _ hge hlt⟩, k21 := fun q => absurd (h'.d21_20 (by simpa using q)) (by simp [hLi]) }
          | 21, ho, hLi, hK' =>
            cases ho
            have l20 := (hdeps ⟨20, .data⟩ (by simp) (by rfl))
            obtain ⟨k', ea, hN⟩ := h'.k20 l20 hLi
            obtain ⟨o, eb, ho⟩ := h'.k19 (hdeps ⟨19, .data⟩ (by simp) (by rfl))
            have hge := hN.ge
            have hsg : sb ≠ k' := fun e => hN.ne e.symm
            have hbg : b0 ≤ k' := by omega
            have hwg : w.heap.size ≤ k' := by omega
            have hig : g ≠ k' := by omega
            have h2g : g2 ≠ k' := by omega
            refine wp_store_mid 47 (.tmp 19) (.tmp 119) rfl k' 0 #[.int .i64 (spX p (U - a + c2) (W - b + f2) (H + o)), .int .i64 (spY p (U - a + c2) (W - b + f2) (H + o)), .int .i64 (spZ p (U - a + c2) (W - b + f2) (H + o))] (eval_of ea) (eval_of eb) hN.th (by kernel_rfl) (by simp [Value.oneCell']) ?_
            exact hK' _ _ { off := h'.off, ac := h'.ac.far hsg hbg hwg _ _, it := h'.it.far hig _, rt := h'.rt.far _, ct := h'.ct.far h2g _, hr := h'.hr, d21_20 := fun _ => by simpa using l20, k0 := fun q => (h'.k0 (by simpa using q)), k1 := fun q => (h'.k1 (by simpa using q)), k2 := fun q => (h'.k2 (by simpa using q)), k3 := fun q => (h'.k3 (by simpa using q)), k4 := fun q => (h'.k4 (by simpa using q)), k5 := fun q => (h'.k5 (by simpa using q)), k6 := fun q => (h'.k6 (by simpa using q)), k7 := fun q => (h'.k7 (by simpa using q)), k8 := fun q => (h'.k8 (by simpa using q)), k9 := fun q => (h'.k9 (by simpa using q)), k10 := fun q => (h'.k10 (by simpa using q)), k11 := fun q => (h'.k11 (by simpa using q)).imp fun _ g => ⟨g.1, (g.2).far ((g.2).off hN rfl (by decide)) _⟩, k12 := fun q => (h'.k12 (by simpa using q)), k13 := fun q => (h'.k13 (by simpa using q)).imp fun _ g => ⟨g.1, g.2.1, g.2.2⟩, k14 := fun q => (h'.k14 (by simpa using q)).imp fun _ g => g.imp fun _ g => ⟨g.1, (g.2.1).far ((g.2.1).off hN rfl (by decide)) _, g.2.2⟩, k15 := fun q => (h'.k15 (by simpa using q)).imp fun _ g => ⟨g.1, g.2⟩, k16 := fun q => (h'.k16 (by simpa using q)).imp fun _ g => ⟨g.1, g.2⟩, k17 := fun q => (h'.k17 (by simpa using q)), k18 := fun q => (h'.k18 (by simpa using q)), k19 := fun q => (h'.k19 (by simpa using q)).imp fun _ g => ⟨g.1, g.2⟩, k20 := fun _ q => absurd q (by simp), k21 := fun _ => ⟨k', o, ea, Lit.put hN, ho, by omega⟩ }
          | i + 22, ho, hLi, hK' => cases ho
        · intro L aa wx h' hall
          have z0 := h'.k0 (hall 0 (by decide))
          have z1 := h'.k1 (hall 1 (by decide))
          have z2 := h'.k2 (hall 2 (by decide))
          have z3 := h'.k3 (hall 3 (by decide))
          have z4 := h'.k4 (hall 4 (by decide))
          have z5 := h'.k5 (hall 5 (by decide))
          have z6 := h'.k6 (hall 6 (by decide))
          have z7 := h'.k7 (hall 7 (by decide))
          have z8 := h'.k8 (hall 8 (by decide))
          have z9 := h'.k9 (hall 9 (by decide))
          have z10 := h'.k10 (hall 10 (by decide))
          obtain ⟨h11, z11, q110⟩ := h'.k11 (hall 11 (by decide))
          have z12 := h'.k12 (hall 12 (by decide))
          obtain ⟨n13, z13, q130, q131⟩ := h'.k13 (hall 13 (by decide))
          obtain ⟨h14, n14, z14, q140, q141⟩ := h'.k14 (hall 14 (by decide))
          obtain ⟨o15, z15, q150⟩ := h'.k15 (hall 15 (by decide))
          obtain ⟨o16, z16, q160⟩ := h'.k16 (hall 16 (by decide))
          have z17 := h'.k17 (hall 17 (by decide))
          have z18 := h'.k18 (hall 18 (by decide))
          obtain ⟨o19, z19, q190⟩ := h'.k19 (hall 19 (by decide))
          obtain ⟨k21, o21, z21, q210, q211, q212⟩ := h'.k21 (hall 21 (by decide))
          have hfr := h'.off.rebuild (fun d' => if d' = 100 then .int .i64 (U) else if d' = 101 then .int .i64 (a) else if d' = 102 then .int .i64 (U - a) else if d' = 103 then .int .i64 (c2) else if d' = 104 then .int .i64 (U - a + c2) else if d' = 105 then .int .i64 (W) else if d' = 106 then .int .i64 (b) else if d' = 107 then .int .i64 (W - b) else if d' = 108 then .int .i64 (f2) else if d' = 109 then .int .i64 (W - b + f2) else if d' = 110 then .int .i64 (H) else if d' = 111 then .slice (some ⟨h11, 0, none⟩) 4 4 else if d' = 112 then .pointer (some ⟨sb, 0, none⟩) else if d' = 113 then .int .i64 (n13) else if d' = 114 then .pointer (some ⟨h14, n14, none⟩) else if d' = 115 then .int .i64 (o15) else if d' = 116 then .int .i64 (H + o16) else if d' = 117 then .pointer (some ⟨g, 8, none⟩) else if d' = 118 then .int .i64 (p) else if d' = 119 then .agg #[.int .i64 (spX p (U - a + c2) (W - b + f2) (H + o19)), .int .i64 (spY p (U - a + c2) (W - b + f2) (H + o19)), .int .i64 (spZ p (U - a + c2) (W - b + f2) (H + o19))] else if d' = 19 then .pointer (some ⟨k21, 0, none⟩) else undef) (by
            intro d' hd'
            simp only [List.mem_cons, List.not_mem_nil, or_false] at hd'
            rcases hd' with rfl | rfl | rfl | rfl | rfl | rfl | rfl | rfl | rfl | rfl | rfl | rfl | rfl | rfl | rfl | rfl | rfl | rfl | rfl | rfl | rfl
            · exact z0
            · exact z1
            · exact z2
            · exact z3
            · exact z4
            · exact z5
            · exact z6
            · exact z7
            · exact z8
            · exact z9
            · exact z10
            · exact z11
            · exact z12
            · exact z13
            · exact z14
            · exact z15
            · exact z16
            · exact z17
            · exact z18
            · exact z19
            · exact z21
            )
          simp only [List.foldl_cons, List.foldl_nil] at hfr
          rw [← HA.out] at hfr
          have hAc := h'.ac
          have hIt := h'.it
          have hRt := h'.rt
          have hCt := h'.ct
          have hEt := q210
          have ho := q211
          have hk := q212
          rw [hfr]
          clear hfr h' hall HA hsz q210 q211 q212
          generalize k21 = g3 at *
          generalize o21 = o at *
          simp [Act.put]
          --CUT7
          obtain ⟨fq, hfq, eq⟩ : ∃ fq : Bool, (q == 0) = fq ∧ fq = decide (q = 0) := ⟨_, rfl, by by_cases h : q = 0 <;> simp [h]⟩
          have HQ := Lib.hid eq
          clear eq
          go_upto_region 10 with fail
          generalize hA : (Act.mk _ _) = A
          have hsz : A.tmps.size = 140 := by rw [← hA]; rfl
          have hA7 : A.tmps[7]? = some (.pointer (some ⟨g, 0, none⟩)) := by rw [← hA]; rfl
          have hA10 : A.tmps[10]? = some (.int .i64 (q)) := by rw [← hA]; rfl
          have hA18 : A.tmps[18]? = some (.pointer (some ⟨g2, 0, none⟩)) := by rw [← hA]; rfl
          have hA19 : A.tmps[19]? = some (.pointer (some ⟨g3, 0, none⟩)) := by rw [← hA]; rfl
          have HA := Lib.hid hA
          clear hA
          refine wp_region_inv (fun L aa wx => A10 b0 sb ((⟨3, 0, x, y, z, 0, 0, 0, p, 0, 0, 0, d, false, 0, false, 0, 0, 0, 0, 0, false⟩ : Itm)) ((⟨3, 0, x, y, z, 0, 0, 0, p, spX p (U - a) (W - b) H, spY p (U - a) (W - b) H, spZ p (U - a) (W - b) H, d, false, 0, false, 0, 0, 0, 0, 0, false⟩ : Itm)) ((⟨3, 0, x, y, z, spX p (U - a + c2) (W - b + f2) (H + o), spY p (U - a + c2) (W - b + f2) (H + o), spZ p (U - a + c2) (W - b + f2) (H + o), p, spX p (U - a) (W - b) H, spY p (U - a) (W - b) H, spZ p (U - a) (W - b) H, d, false, 0, false, 0, 0, 0, 0, 0, false⟩ : Itm)) ((⟨3, 0, x, y, z, spX p (U - a + c2) (W - b + f2) (H + o), spY p (U - a + c2) (W - b + f2) (H + o), spZ p (U - a + c2) (W - b + f2) (H + o), p, spX p (U - a) (W - b) H, spY p (U - a) (W - b) H, spZ p (U - a) (W - b) H, d, fq, 0, false, 0, 0, 0, 0, 0, false⟩ : Itm)) g g2 g3 (w.heap.size + 1) (spX p (U - a) (W - b) H) (spY p (U - a) (W - b) H) (spZ p (U - a) (W - b) H) (spX p (U - a + c2) (W - b + f2) (H + o)) (spY p (U - a + c2) (W - b + f2) (H + o)) (spZ p (U - a + c2) (W - b + f2) (H + o)) q fq w A L aa wx) (by kernel_rfl) (by kernel_rfl) ?_ ?_ ?_
          · have hD := (Below.refl wx.heap.size wx).drew
            have hc := Chg.of (sb := sb) hD
            exact (by constructor <;> first | exact OffOf.refl _ _ | exact hAc.next hD | exact hRt.draw hc (show w.heap.size + 1 ≠ sb by omega) | exact hCt.draw hc | exact (show w.heap.size + 1 ≠ sb by omega) | exact hEt.draw hc | exact fun _ => hIt.draw hc | (intro h; exact nomatch h) | (intro h _; exact nomatch h))
          · intro i o ho L aa wx h' hLi hdeps K hK'
            match i, ho, hLi, hK' with
            | 0, ho, hLi, hK' =>
              cases ho
              have ea := (h'.off.off 18 (by decide)).trans hA18
              go_simp
              exact hK' _ _ { off := h'.off.put (by decide) _, ac := h'.ac, rt := h'.rt, ct := h'.ct, et := h'.et, hr := h'.hr, d19_17 := fun q => by simpa using h'.d19_17 (by simpa using q), d21_19 := fun q => by simpa using h'.d21_19 (by simpa using q), k0 := fun _ => put_at _ (by have := h'.off.size; omega), k1 := fun q => put_ne _ (by decide) (h'.k1 (by simpa using q)), k2 := fun q => put_ne _ (by decide) (h'.k2 (by simpa using q)), k3 := fun q => put_ne _ (by decide) (h'.k3 (by simpa using q)), k4 := fun q => put_ne _ (by decide) (h'.k4 (by simpa using q)), k5 := fun q => put_ne _ (by decide) (h'.k5 (by simpa using q)), k6 := fun q => put_ne _ (by decide) (h'.k6 (by simpa using q)), k7 := fun q => put_ne _ (by decide) (h'.k7 (by simpa using q)), k8 := fun q => put_ne _ (by decide) (h'.k8 (by simpa using q)), k9 := fun q => put_ne _ (by decide) (h'.k9 (by simpa using q)), k10 := fun q => put_ne _ (by decide) (h'.k10 (by simpa using q)), k11 := fun q => put_ne _ (by decide) (h'.k11 (by simpa using q)), k12 := fun q => put_ne _ (by decide) (h'.k12 (by simpa using q)), k13 := fun q => put_ne _ (by decide) (h'.k13 (by simpa using q)), k14 := fun q => put_ne _ (by decide) (h'.k14 (by simpa using q)), k15 := fun q => put_ne _ (by decide) (h'.k15 (by simpa using q)), k16 := fun q => put_ne _ (by decide) (h'.k16 (by simpa using q)), k18 := fun q => put_ne _ (by decide) (h'.k18 (by simpa using q)), k20 := fun q => put_ne _ (by decide) (h'.k20 (by simpa using q)), i0 := fun q => h'.i0 (by simpa using q), i1 := fun q r => h'.i1 (by simpa using q) (by simpa using r), i2 := fun q r => h'.i2 (by simpa using q) (by simpa using r), i3 := fun q => h'.i3 (by simpa using q) }
            | 1, ho, hLi, hK' =>
              cases ho
              have ea := h'.k0 (hdeps ⟨0, .data⟩ (by simp) (by rfl))
              have ec := h'.ct.c 0 (spX p (U - a) (W - b) H) rfl
              go_simp
              exact hK' _ _ { off := h'.off.put (by decide) _, ac := h'.ac, rt := h'.rt, ct := h'.ct, et := h'.et, hr := h'.hr, d19_17 := fun q => by simpa using h'.d19_17 (by simpa using q), d21_19 := fun q => by simpa using h'.d21_19 (by simpa using q), k0 := fun q => put_ne _ (by decide) (h'.k0 (by simpa using q)), k1 := fun _ => put_at _ (by have := h'.off.size; omega), k2 := fun q => put_ne _ (by decide) (h'.k2 (by simpa using q)), k3 := fun q => put_ne _ (by decide) (h'.k3 (by simpa using q)), k4 := fun q => put_ne _ (by decide) (h'.k4 (by simpa using q)), k5 := fun q => put_ne _ (by decide) (h'.k5 (by simpa using q)), k6 := fun q => put_ne _ (by decide) (h'.k6 (by simpa using q)), k7 := fun q => put_ne _ (by decide) (h'.k7 (by simpa using q)), k8 := fun q => put_ne _ (by decide) (h'.k8 (by simpa using q)), k9 := fun q => put_ne _ (by decide) (h'.k9 (by simpa using q)), k10 := fun q => put_ne _ (by decide) (h'.k10 (by simpa using q)), k11 := fun q => put_ne _ (by decide) (h'.k11 (by simpa using q)), k12 := fun q => put_ne _ (by decide) (h'.k12 (by simpa using q)), k13 := fun q => put_ne _ (by decide) (h'.k13 (by simpa using q)), k14 := fun q => put_ne _ (by decide) (h'.k14 (by simpa using q)), k15 := fun q => put_ne _ (by decide) (h'.k15 (by simpa using q)), k16 := fun q => put_ne _ (by decide) (h'.k16 (by simpa using q)), k18 := fun q => put_ne _ (by decide) (h'.k18 (by simpa using q)), k20 := fun q => put_ne _ (by decide) (h'.k20 (by simpa using q)), i0 := fun q => h'.i0 (by simpa using q), i1 := fun q r => h'.i1 (by simpa using q) (by simpa using r), i2 := fun q r => h'.i2 (by simpa using q) (by simpa using r), i3 := fun q => h'.i3 (by simpa using q) }
            | 2, ho, hLi, hK' =>
              cases ho
              have ea := (h'.off.off 18 (by decide)).trans hA18
              go_simp
              exact hK' _ _ { off := h'.off.put (by decide) _, ac := h'.ac, rt := h'.rt, ct := h'.ct, et := h'.et, hr := h'.hr, d19_17 := fun q => by simpa using h'.d19_17 (by simpa using q), d21_19 := fun q => by simpa using h'.d21_19 (by simpa using q), k0 := fun q => put_ne _ (by decide) (h'.k0 (by simpa using q)), k1 := fun q => put_ne _ (by decide) (h'.k1 (by simpa using q)), k2 := fun _ => put_at _ (by have := h'.off.size; omega), k3 := fun q => put_ne _ (by decide) (h'.k3 (by simpa using q)), k4 := fun q => put_ne _ (by decide) (h'.k4 (by simpa using q)), k5 := fun q => put_ne _ (by decide) (h'.k5 (by simpa using q)), k6 := fun q => put_ne _ (by decide) (h'.k6 (by simpa using q)), k7 := fun q => put_ne _ (by decide) (h'.k7 (by simpa using q)), k8 := fun q => put_ne _ (by decide) (h'.k8 (by simpa using q)), k9 := fun q => put_ne _ (by decide) (h'.k9 (by simpa using q)), k10 := fun q => put_ne _ (by decide) (h'.k10 (by simpa using q)), k11 := fun q => put_ne _ (by decide) (h'.k11 (by simpa using q)), k12 := fun q => put_ne _ (by decide) (h'.k12 (by simpa using q)), k13 := fun q => put_ne _ (by decide) (h'.k13 (by simpa using q)), k14 := fun q => put_ne _ (by decide) (h'.k14 (by simpa using q)), k15 := fun q => put_ne _ (by decide) (h'.k15 (by simpa using q)), k16 := fun q => put_ne _ (by decide) (h'.k16 (by simpa using q)), k18 := fun q => put_ne _ (by decide) (h'.k18 (by simpa using q)), k20 := fun q => put_ne _ (by decide) (h'.k20 (by simpa using q)), i0 := fun q => h'.i0 (by simpa using q), i1 := fun q r => h'.i1 (by simpa using q) (by simpa using r), i2 := fun q r => h'.i2 (by simpa using q) (by simpa using r), i3 := fun q => h'.i3 (by simpa using q) }
            | 3, ho, hLi, hK' =>
              cases ho
              have ea := h'.k2 (hdeps ⟨2, .data⟩ (by simp) (by rfl))
              have ec := h'.ct.c 1 (spY p (U - a) (W - b) H) rfl
              go_simp
              exact hK' _ _ { off := h'.off.put (by decide) _, ac := h'.ac, rt := h'.rt, ct := h'.ct, et := h'.et, hr := h'.hr, d19_17 := fun q => by simpa using h'.d19_17 (by simpa using q), d21_19 := fun q => by simpa using h'.d21_19 (by simpa using q), k0 := fun q => put_ne _ (by decide) (h'.k0 (by simpa using q)), k1 := fun q => put_ne _ (by decide) (h'.k1 (by simpa using q)), k2 := fun q => put_ne _ (by decide) (h'.k2 (by simpa using q)), k3 := fun _ => put_at _ (by have := h'.off.size; omega), k4 := fun q => put_ne _ (by decide) (h'.k4 (by simpa using q)), k5 := fun q => put_ne _ (by decide) (h'.k5 (by simpa using q)), k6 := fun q => put_ne _ (by decide) (h'.k6 (by simpa using q)), k7 := fun q => put_ne _ (by decide) (h'.k7 (by simpa using q)), k8 := fun q => put_ne _ (by decide) (h'.k8 (by simpa using q)), k9 := fun q => put_ne _ (by decide) (h'.k9 (by simpa using q)), k10 := fun q => put_ne _ (by decide) (h'.k10 (by simpa using q)), k11 := fun q => put_ne _ (by decide) (h'.k11 (by simpa using q)), k12 := fun q => put_ne _ (by decide) (h'.k12 (by simpa using q)), k13 := fun q => put_ne _ (by decide) (h'.k13 (by simpa using q)), k14 := fun q => put_ne _ (by decide) (h'.k14 (by simpa using q)), k15 := fun q => put_ne _ (by decide) (h'.k15 (by simpa using q)), k16 := fun q => put_ne _ (by decide) (h'.k16 (by simpa using q)), k18 := fun q => put_ne _ (by decide) (h'.k18 (by simpa using q)), k20 := fun q => put_ne _ (by decide) (h'.k20 (by simpa using q)), i0 := fun q => h'.i0 (by simpa using q), i1 := fun q r => h'.i1 (by simpa using q) (by simpa using r), i2 := fun q r => h'.i2 (by simpa using q) (by simpa using r), i3 := fun q => h'.i3 (by simpa using q) }
            | 4, ho, hLi, hK' =>
              cases ho
              have ea := (h'.off.off 18 (by decide)).trans hA18
              go_simp
              exact hK' _ _ { off := h'.off.put (by decide) _, ac := h'.ac, rt := h'.rt, ct := h'.ct, et := h'.et, hr := h'.hr, d19_17 := fun q => by simpa using h'.d19_17 (by simpa using q), d21_19 := fun q => by simpa using h'.d21_19 (by simpa using q), k0 := fun q => put_ne _ (by decide) (h'.k0 (by simpa using q)), k1 := fun q => put_ne _ (by decide) (h'.k1 (by simpa using q)), k2 := fun q => put_ne _ (by decide) (h'.k2 (by simpa using q)), k3 := fun q => put_ne _ (by decide) (h'.k3 (by simpa using q)), k4 := fun _ => put_at _ (by have := h'.off.size; omega), k5 := fun q => put_ne _ (by decide) (h'.k5 (by simpa using q)), k6 := fun q => put_ne _ (by decide) (h'.k6 (by simpa using q)), k7 := fun q => put_ne _ (by decide) (h'.k7 (by simpa using q)), k8 := fun q => put_ne _ (by decide) (h'.k8 (by simpa using q)), k9 := fun q => put_ne _ (by decide) (h'.k9 (by simpa using q)), k10 := fun q => put_ne _ (by decide) (h'.k10 (by simpa using q)), k11 := fun q => put_ne _ (by decide) (h'.k11 (by simpa using q)), k12 := fun q => put_ne _ (by decide) (h'.k12 (by simpa using q)), k13 := fun q => put_ne _ (by decide) (h'.k13 (by simpa using q)), k14 := fun q => put_ne _ (by decide) (h'.k14 (by simpa using q)), k15 := fun q => put_ne _ (by decide) (h'.k15 (by simpa using q)), k16 := fun q => put_ne _ (by decide) (h'.k16 (by simpa using q)), k18 := fun q => put_ne _ (by decide) (h'.k18 (by simpa using q)), k20 := fun q => put_ne _ (by decide) (h'.k20 (by simpa using q)), i0 := fun q => h'.i0 (by simpa using q), i1 := fun q r => h'.i1 (by simpa using q) (by simpa using r), i2 := fun q r => h'.i2 (by simpa using q) (by simpa using r), i3 := fun q => h'.i3 (by simpa using q) }
            | 5, ho, hLi, hK' =>
              cases ho
              have ea := h'.k4 (hdeps ⟨4, .data⟩ (by simp) (by rfl))
              have ec := h'.ct.c 2 (spZ p (U - a) (W - b) H) rfl
              go_simp
              exact hK' _ _ { off := h'.off.put (by decide) _, ac := h'.ac, rt := h'.rt, ct := h'.ct, et := h'.et, hr := h'.hr, d19_17 := fun q => by simpa using h'.d19_17 (by simpa using q), d21_19 := fun q => by simpa using h'.d21_19 (by simpa using q), k0 := fun q => put_ne _ (by decide) (h'.k0 (by simpa using q)), k1 := fun q => put_ne _ (by decide) (h'.k1 (by simpa using q)), k2 := fun q => put_ne _ (by decide) (h'.k2 (by simpa using q)), k3 := fun q => put_ne _ (by decide) (h'.k3 (by simpa using q)), k4 := fun q => put_ne _ (by decide) (h'.k4 (by simpa using q)), k5 := fun _ => put_at _ (by have := h'.off.size; omega), k6 := fun q => put_ne _ (by decide) (h'.k6 (by simpa using q)), k7 := fun q => put_ne _ (by decide) (h'.k7 (by simpa using q)), k8 := fun q => put_ne _ (by decide) (h'.k8 (by simpa using q)), k9 := fun q => put_ne _ (by decide) (h'.k9 (by simpa using q)), k10 := fun q => put_ne _ (by decide) (h'.k10 (by simpa using q)), k11 := fun q => put_ne _ (by decide) (h'.k11 (by simpa using q)), k12 := fun q => put_ne _ (by decide) (h'.k12 (by simpa using q)), k13 := fun q => put_ne _ (by decide) (h'.k13 (by simpa using q)), k14 := fun q => put_ne _ (by decide) (h'.k14 (by simpa using q)), k15 := fun q => put_ne _ (by decide) (h'.k15 (by simpa using q)), k16 := fun q => put_ne _ (by decide) (h'.k16 (by simpa using q)), k18 := fun q => put_ne _ (by decide) (h'.k18 (by simpa using q)), k20 := fun q => put_ne _ (by decide) (h'.k20 (by simpa using q)), i0 := fun q => h'.i0 (by simpa using q), i1 := fun q r => h'.i1 (by simpa using q) (by simpa using r), i2 := fun q r => h'.i2 (by simpa using q) (by simpa using r), i3 := fun q => h'.i3 (by simpa using q) }
            | 6, ho, hLi, hK' =>
              cases ho
              have ea := h'.k1 (hdeps ⟨1, .data⟩ (by simp) (by rfl))
              have eb := h'.k3 (hdeps ⟨3, .data⟩ (by simp) (by rfl))
              have ec := h'.k5 (hdeps ⟨5, .data⟩ (by simp) (by rfl))
              go_simp
              exact hK' _ _ { off := h'.off.put (by decide) _, ac := h'.ac, rt := h'.rt, ct := h'.ct, et := h'.et, hr := h'.hr, d19_17 := fun q => by simpa using h'.d19_17 (by simpa using q), d21_19 := fun q => by simpa using h'.d21_19 (by simpa using q), k0 := fun q => put_ne _ (by decide) (h'.k0 (by simpa using q)), k1 := fun q => put_ne _ (by decide) (h'.k1 (by simpa using q)), k2 := fun q => put_ne _ (by decide) (h'.k2 (by simpa using q)), k3 := fun q => put_ne _ (by decide) (h'.k3 (by simpa using q)), k4 := fun q => put_ne _ (by decide) (h'.k4 (by simpa using q)), k5 := fun q => put_ne _ (by decide) (h'.k5 (by simpa using q)), k6 := fun _ => put_at _ (by have := h'.off.size; omega), k7 := fun q => put_ne _ (by decide) (h'.k7 (by simpa using q)), k8 := fun q => put_ne _ (by decide) (h'.k8 (by simpa using q)), k9 := fun q => put_ne _ (by decide) (h'.k9 (by simpa using q)), k10 := fun q => put_ne _ (by decide) (h'.k10 (by simpa using q)), k11 := fun q => put_ne _ (by decide) (h'.k11 (by simpa using q)), k12 := fun q => put_ne _ (by decide) (h'.k12 (by simpa using q)), k13 := fun q => put_ne _ (by decide) (h'.k13 (by simpa using q)), k14 := fun q => put_ne _ (by decide) (h'.k14 (by simpa using q)), k15 := fun q => put_ne _ (by decide) (h'.k15 (by simpa using q)), k16 := fun q => put_ne _ (by decide) (h'.k16 (by simpa using q)), k18 := fun q => put_ne _ (by decide) (h'.k18 (by simpa using q)), k20 := fun q => put_ne _ (by decide) (h'.k20 (by simpa using q)), i0 := fun q => h'.i0 (by simpa using q), i1 := fun q r => h'.i1 (by simpa using q) (by simpa using r), i2 := fun q r => h'.i2 (by simpa using q) (by simpa using r), i3 := fun q => h'.i3 (by simpa using q) }
            | 7, ho, hLi, hK' =>
              cases ho
              have ea := (h'.off.off 19 (by decide)).trans hA19
              go_simp
              exact hK' _ _ { off := h'.off.put (by decide) _, ac := h'.ac, rt := h'.rt, ct := h'.ct, et := h'.et, hr := h'.hr, d19_17 := fun q => by simpa using h'.d19_17 (by simpa using q), d21_19 := fun q => by simpa using h'.d21_19 (by simpa using q), k0 := fun q => put_ne _ (by decide) (h'.k0 (by simpa using q)), k1 := fun q => put_ne _ (by decide) (h'.k1 (by simpa using q)), k2 := fun q => put_ne _ (by decide) (h'.k2 (by simpa using q)), k3 := fun q => put_ne _ (by decide) (h'.k3 (by simpa using q)), k4 := fun q => put_ne _ (by decide) (h'.k4 (by simpa using q)), k5 := fun q => put_ne _ (by decide) (h'.k5 (by simpa using q)), k6 := fun q => put_ne _ (by decide) (h'.k6 (by simpa using q)), k7 := fun _ => put_at _ (by have := h'.off.size; omega), k8 := fun q => put_ne _ (by decide) (h'.k8 (by simpa using q)), k9 := fun q => put_ne _ (by decide) (h'.k9 (by simpa using q)), k10 := fun q => put_ne _ (by decide) (h'.k10 (by simpa using q)), k11 := fun q => put_ne _ (by decide) (h'.k11 (by simpa using q)), k12 := fun q => put_ne _ (by decide) (h'.k12 (by simpa using q)), k13 := fun q => put_ne _ (by decide) (h'.k13 (by simpa using q)), k14 := fun q => put_ne _ (by decide) (h'.k14 (by simpa using q)), k15 := fun q => put_ne _ (by decide) (h'.k15 (by simpa using q)), k16 := fun q => put_ne _ (by decide) (h'.k16 (by simpa using q)), k18 := fun q => put_ne _ (by decide) (h'.k18 (by simpa using q)), k20 := fun q => put_ne _ (by decide) (h'.k20 (by simpa using q)), i0 := fun q => h'.i0 (by simpa using q), i1 := fun q r => h'.i1 (by simpa using q) (by simpa using r), i2 := fun q r => h'.i2 (by simpa using q) (by simpa using r), i3 := fun q => h'.i3 (by simpa using q) }
            | 8, ho, hLi, hK' =>
              cases ho
              have ea := h'.k7 (hdeps ⟨7, .data⟩ (by simp) (by rfl))
              have ec := h'.et.c 0 (spX p (U - a + c2) (W - b + f2) (H + o)) rfl
              go_simp
              exact hK' _ _ { off := h'.off.put (by decide) _, ac := h'.ac, rt := h'.rt, ct := h'.ct, et := h'.et, hr := h'.hr, d19_17 := fun q => by simpa using h'.d19_17 (by simpa using q), d21_19 := fun q => by simpa using h'.d21_19 (by simpa using q), k0 := fun q => put_ne _ (by decide) (h'.k0 (by simpa using q)), k1 := fun q => put_ne _ (by decide) (h'.k1 (by simpa using q)), k2 := fun q => put_ne _ (by decide) (h'.k2 (by simpa using q)), k3 := fun q => put_ne _ (by decide) (h'.k3 (by simpa using q)), k4 := fun q => put_ne _ (by decide) (h'.k4 (by simpa using q)), k5 := fun q => put_ne _ (by decide) (h'.k5 (by simpa using q)), k6 := fun q => put_ne _ (by decide) (h'.k6 (by simpa using q)), k7 := fun q => put_ne _ (by decide) (h'.k7 (by simpa using q)), k8 := fun _ => put_at _ (by have := h'.off.size; omega), k9 := fun q => put_ne _ (by decide) (h'.k9 (by simpa using q)), k10 := fun q => put_ne _ (by decide) (h'.k10 (by simpa using q)), k11 := fun q => put_ne _ (by decide) (h'.k11 (by simpa using q)), k12 := fun q => put_ne _ (by decide) (h'.k12 (by simpa using q)), k13 := fun q => put_ne _ (by decide) (h'.k13 (by simpa using q)), k14 := fun q => put_ne _ (by decide) (h'.k14 (by simpa using q)), k15 := fun q => put_ne _ (by decide) (h'.k15 (by simpa using q)), k16 := fun q => put_ne _ (by decide) (h'.k16 (by simpa using q)), k18 := fun q => put_ne _ (by decide) (h'.k18 (by simpa using q)), k20 := fun q => put_ne _ (by decide) (h'.k20 (by simpa using q)), i0 := fun q => h'.i0 (by simpa using q), i1 := fun q r => h'.i1 (by simpa using q) (by simpa using r), i2 := fun q r => h'.i2 (by simpa using q) (by simpa using r), i3 := fun q => h'.i3 (by simpa using q) }
            | 9, ho, hLi, hK' =>
              cases ho
              have ea := (h'.off.off 19 (by decide)).trans hA19
              go_simp
              exact hK' _ _ { off := h'.off.put (by decide) _, ac := h'.ac, rt := h'.rt, ct := h'.ct, et := h'.et, hr := h'.hr, d19_17 := fun q => by simpa using h'.d19_17 (by simpa using q), d21_19 := fun q => by simpa using h'.d21_19 (by simpa using q), k0 := fun q => put_ne _ (by decide) (h'.k0 (by simpa using q)), k1 := fun q => put_ne _ (by decide) (h'.k1 (by simpa using q)), k2 := fun q => put_ne _ (by decide) (h'.k2 (by simpa using q)), k3 := fun q => put_ne _ (by decide) (h'.k3 (by simpa using q)), k4 := fun q => put_ne _ (by decide) (h'.k4 (by simpa using q)), k5 := fun q => put_ne _ (by decide) (h'.k5 (by simpa using q)), k6 := fun q => put_ne _ (by decide) (h'.k6 (by simpa using q)), k7 := fun q => put_ne _ (by decide) (h'.k7 (by simpa using q)), k8 := fun q => put_ne _ (by decide) (h'.k8 (by simpa using q)), k9 := fun _ => put_at _ (by have := h'.off.size; omega), k10 := fun q => put_ne _ (by decide) (h'.k10 (by simpa using q)), k11 := fun q => put_ne _ (by decide) (h'.k11 (by simpa using q)), k12 := fun q => put_ne _ (by decide) (h'.k12 (by simpa using q)), k13 := fun q => put_ne _ (by decide) (h'.k13 (by simpa using q)), k14 := fun q => put_ne _ (by decide) (h'.k14 (by simpa using q)), k15 := fun q => put_ne _ (by decide) (h'.k15 (by simpa using q)), k16 := fun q => put_ne _ (by decide) (h'.k16 (by simpa using q)), k18 := fun q => put_ne _ (by decide) (h'.k18 (by simpa using q)), k20 := fun q => put_ne _ (by decide) (h'.k20 (by simpa using q)), i0 := fun q => h'.i0 (by simpa using q), i1 := fun q r => h'.i1 (by simpa using q) (by simpa using r), i2 := fun q r => h'.i2 (by simpa using q) (by simpa using r), i3 := fun q => h'.i3 (by simpa using q) }
            | 10, ho, hLi, hK' =>
              cases ho
              have ea := h'.k9 (hdeps ⟨9, .data⟩ (by simp) (by rfl))
              have ec := h'.et.c 1 (spY p (U - a + c2) (W - b + f2) (H + o)) rfl
              go_simp
              exact hK' _ _ { off := h'.off.put (by decide) _, ac := h'.ac, rt := h'.rt, ct := h'.ct, et := h'.et, hr := h'.hr, d19_17 := fun q => by simpa using h'.d19_17 (by simpa using q), d21_19 := fun q => by simpa using h'.d21_19 (by simpa using q), k0 := fun q => put_ne _ (by decide) (h'.k0 (by simpa using q)), k1 := fun q => put_ne _ (by decide) (h'.k1 (by simpa using q)), k2 := fun q => put_ne _ (by decide) (h'.k2 (by simpa using q)), k3 := fun q => put_ne _ (by decide) (h'.k3 (by simpa using q)), k4 := fun q => put_ne _ (by decide) (h'.k4 (by simpa using q)), k5 := fun q => put_ne _ (by decide) (h'.k5 (by simpa using q)), k6 := fun q => put_ne _ (by decide) (h'.k6 (by simpa using q)), k7 := fun q => put_ne _ (by decide) (h'.k7 (by simpa using q)), k8 := fun q => put_ne _ (by decide) (h'.k8 (by simpa using q)), k9 := fun q => put_ne _ (by decide) (h'.k9 (by simpa using q)), k10 := fun _ => put_at _ (by have := h'.off.size; omega), k11 := fun q => put_ne _ (by decide) (h'.k11 (by simpa using q)), k12 := fun q => put_ne _ (by decide) (h'.k12 (by simpa using q)), k13 := fun q => put_ne _ (by decide) (h'.k13 (by simpa using q)), k14 := fun q => put_ne _ (by decide) (h'.k14 (by simpa using q)), k15 := fun q => put_ne _ (by decide) (h'.k15 (by simpa using q)), k16 := fun q => put_ne _ (by decide) (h'.k16 (by simpa using q)), k18 := fun q => put_ne _ (by decide) (h'.k18 (by simpa using q)), k20 := fun q => put_ne _ (by decide) (h'.k20 (by simpa using q)), i0 := fun q => h'.i0 (by simpa using q), i1 := fun q r => h'.i1 (by simpa using q) (by simpa using r), i2 := fun q r => h'.i2 (by simpa using q) (by simpa using r), i3 := fun q => h'.i3 (by simpa using q) }
            | 11, ho, hLi, hK' =>
              cases ho
              have ea := (h'.off.off 19 (by decide)).trans hA19
              go_simp
              exact hK' _ _ { off := h'.off.put (by decide) _, ac := h'.ac, rt := h'.rt, ct := h'.ct, et := h'.et, hr := h'.hr, d19_17 := fun q => by simpa using h'.d19_17 (by simpa using q), d21_19 := fun q => by simpa using h'.d21_19 (by simpa using q), k0 := fun q => put_ne _ (by decide) (h'.k0 (by simpa using q)), k1 := fun q => put_ne _ (by decide) (h'.k1 (by simpa using q)), k2 := fun q => put_ne _ (by decide) (h'.k2 (by simpa using q)), k3 := fun q => put_ne _ (by decide) (h'.k3 (by simpa using q)), k4 := fun q => put_ne _ (by decide) (h'.k4 (by simpa using q)), k5 := fun q => put_ne _ (by decide) (h'.k5 (by simpa using q)), k6 := fun q => put_ne _ (by decide) (h'.k6 (by simpa using q)), k7 := fun q => put_ne _ (by decide) (h'.k7 (by simpa using q)), k8 := fun q => put_ne _ (by decide) (h'.k8 (by simpa using q)), k9 := fun q => put_ne _ (by decide) (h'.k9 (by simpa using q)), k10 := fun q => put_ne _ (by decide) (h'.k10 (by simpa using q)), k11 := fun _ => put_at _ (by have := h'.off.size; omega), k12 := fun q => put_ne _ (by decide) (h'.k12 (by simpa using q)), k13 := fun q => put_ne _ (by decide) (h'.k13 (by simpa using q)), k14 := fun q => put_ne _ (by decide) (h'.k14 (by simpa using q)), k15 := fun q => put_ne _ (by decide) (h'.k15 (by simpa using q)), k16 := fun q => put_ne _ (by decide) (h'.k16 (by simpa using q)), k18 := fun q => put_ne _ (by decide) (h'.k18 (by simpa using q)), k20 := fun q => put_ne _ (by decide) (h'.k20 (by simpa using q)), i0 := fun q => h'.i0 (by simpa using q), i1 := fun q r => h'.i1 (by simpa using q) (by simpa using r), i2 := fun q r => h'.i2 (by simpa using q) (by simpa using r), i3 := fun q => h'.i3 (by simpa using q) }
            | 12, ho, hLi, hK' =>
              cases ho
              have ea := h'.k11 (hdeps ⟨11, .data⟩ (by simp) (by rfl))
              have ec := h'.et.c 2 (spZ p (U - a + c2) (W - b + f2) (H + o)) rfl
              go_simp
              exact hK' _ _ { off := h'.off.put (by decide) _, ac := h'.ac, rt := h'.rt, ct := h'.ct, et := h'.et, hr := h'.hr, d19_17 := fun q => by simpa using h'.d19_17 (by simpa using q), d21_19 := fun q => by simpa using h'.d21_19 (by simpa using q), k0 := fun q => put_ne _ (by decide) (h'.k0 (by simpa using q)), k1 := fun q => put_ne _ (by decide) (h'.k1 (by simpa using q)), k2 := fun q => put_ne _ (by decide) (h'.k2 (by simpa using q)), k3 := fun q => put_ne _ (by decide) (h'.k3 (by simpa using q)), k4 := fun q => put_ne _ (by decide) (h'.k4 (by simpa using q)), k5 := fun q => put_ne _ (by decide) (h'.k5 (by simpa using q)), k6 := fun q => put_ne _ (by decide) (h'.k6 (by simpa using q)), k7 := fun q => put_ne _ (by decide) (h'.k7 (by simpa using q)), k8 := fun q => put_ne _ (by decide) (h'.k8 (by simpa using q)), k9 := fun q => put_ne _ (by decide) (h'.k9 (by simpa using q)), k10 := fun q => put_ne _ (by decide) (h'.k10 (by simpa using q)), k11 := fun q => put_ne _ (by decide) (h'.k11 (by simpa using q)), k12 := fun _ => put_at _ (by have := h'.off.size; omega), k13 := fun q => put_ne _ (by decide) (h'.k13 (by simpa using q)), k14 := fun q => put_ne _ (by decide) (h'.k14 (by simpa using q)), k15 := fun q => put_ne _ (by decide) (h'.k15 (by simpa using q)), k16 := fun q => put_ne _ (by decide) (h'.k16 (by simpa using q)), k18 := fun q => put_ne _ (by decide) (h'.k18 (by simpa using q)), k20 := fun q => put_ne _ (by decide) (h'.k20 (by simpa using q)), i0 := fun q => h'.i0 (by simpa using q), i1 := fun q r => h'.i1 (by simpa using q) (by simpa using r), i2 := fun q r => h'.i2 (by simpa using q) (by simpa using r), i3 := fun q => h'.i3 (by simpa using q) }
            | 13, ho, hLi, hK' =>
              cases ho
              have ea := h'.k8 (hdeps ⟨8, .data⟩ (by simp) (by rfl))
              have eb := h'.k10 (hdeps ⟨10, .data⟩ (by simp) (by rfl))
              have ec := h'.k12 (hdeps ⟨12, .data⟩ (by simp) (by rfl))
              go_simp
              exact hK' _ _ { off := h'.off.put (by decide) _, ac := h'.ac, rt := h'.rt, ct := h'.ct, et := h'.et, hr := h'.hr, d19_17 := fun q => by simpa using h'.d19_17 (by simpa using q), d21_19 := fun q => by simpa using h'.d21_19 (by simpa using q), k0 := fun q => put_ne _ (by decide) (h'.k0 (by simpa using q)), k1 := fun q => put_ne _ (by decide) (h'.k1 (by simpa using q)), k2 := fun q => put_ne _ (by decide) (h'.k2 (by simpa using q)), k3 := fun q => put_ne _ (by decide) (h'.k3 (by simpa using q)), k4 := fun q => put_ne _ (by decide) (h'.k4 (by simpa using q)), k5 := fun q => put_ne _ (by decide) (h'.k5 (by simpa using q)), k6 := fun q => put_ne _ (by decide) (h'.k6 (by simpa using q)), k7 := fun q => put_ne _ (by decide) (h'.k7 (by simpa using q)), k8 := fun q => put_ne _ (by decide) (h'.k8 (by simpa using q)), k9 := fun q => put_ne _ (by decide) (h'.k9 (by simpa using q)), k10 := fun q => put_ne _ (by decide) (h'.k10 (by simpa using q)), k11 := fun q => put_ne _ (by decide) (h'.k11 (by simpa using q)), k12 := fun q => put_ne _ (by decide) (h'.k12 (by simpa using q)), k13 := fun _ => put_at _ (by have := h'.off.size; omega), k14 := fun q => put_ne _ (by decide) (h'.k14 (by simpa using q)), k15 := fun q => put_ne _ (by decide) (h'.k15 (by simpa using q)), k16 := fun q => put_ne _ (by decide) (h'.k16 (by simpa using q)), k18 := fun q => put_ne _ (by decide) (h'.k18 (by simpa using q)), k20 := fun q => put_ne _ (by decide) (h'.k20 (by simpa using q)), i0 := fun q => h'.i0 (by simpa using q), i1 := fun q r => h'.i1 (by simpa using q) (by simpa using r), i2 := fun q r => h'.i2 (by simpa using q) (by simpa using r), i3 := fun q => h'.i3 (by simpa using q) }
            | 14, ho, hLi, hK' =>
              cases ho
              have ea := (h'.off.off 10 (by decide)).trans hA10
              go_simp
              exact hK' _ _ { off := h'.off.put (by decide) _, ac := h'.ac, rt := h'.rt, ct := h'.ct, et := h'.et, hr := h'.hr, d19_17 := fun q => by simpa using h'.d19_17 (by simpa using q), d21_19 := fun q => by simpa using h'.d21_19 (by simpa using q), k0 := fun q => put_ne _ (by decide) (h'.k0 (by simpa using q)), k1 := fun q => put_ne _ (by decide) (h'.k1 (by simpa using q)), k2 := fun q => put_ne _ (by decide) (h'.k2 (by simpa using q)), k3 := fun q => put_ne _ (by decide) (h'.k3 (by simpa using q)), k4 := fun q => put_ne _ (by decide) (h'.k4 (by simpa using q)), k5 := fun q => put_ne _ (by decide) (h'.k5 (by simpa using q)), k6 := fun q => put_ne _ (by decide) (h'.k6 (by simpa using q)), k7 := fun q => put_ne _ (by decide) (h'.k7 (by simpa using q)), k8 := fun q => put_ne _ (by decide) (h'.k8 (by simpa using q)), k9 := fun q => put_ne _ (by decide) (h'.k9 (by simpa using q)), k10 := fun q => put_ne _ (by decide) (h'.k10 (by simpa using q)), k11 := fun q => put_ne _ (by decide) (h'.k11 (by simpa using q)), k12 := fun q => put_ne _ (by decide) (h'.k12 (by simpa using q)), k13 := fun q => put_ne _ (by decide) (h'.k13 (by simpa using q)), k14 := fun _ => put_at _ (by have := h'.off.size; omega), k15 := fun q => put_ne _ (by decide) (h'.k15 (by simpa using q)), k16 := fun q => put_ne _ (by decide) (h'.k16 (by simpa using q)), k18 := fun q => put_ne _ (by decide) (h'.k18 (by simpa using q)), k20 := fun q => put_ne _ (by decide) (h'.k20 (by simpa using q)), i0 := fun q => h'.i0 (by simpa using q), i1 := fun q r => h'.i1 (by simpa using q) (by simpa using r), i2 := fun q r => h'.i2 (by simpa using q) (by simpa using r), i3 := fun q => h'.i3 (by simpa using q) }
            | 15, ho, hLi, hK' =>
              cases ho
              have ea := h'.k14 (hdeps ⟨14, .data⟩ (by simp) (by rfl))
              go_simp
              try rewrite [hfq]
              exact hK' _ _ { off := h'.off.put (by decide) _, ac := h'.ac, rt := h'.rt, ct := h'.ct, et := h'.et, hr := h'.hr, d19_17 := fun q => by simpa using h'.d19_17 (by simpa using q), d21_19 := fun q => by simpa using h'.d21_19 (by simpa using q), k0 := fun q => put_ne _ (by decide) (h'.k0 (by simpa using q)), k1 := fun q => put_ne _ (by decide) (h'.k1 (by simpa using q)), k2 := fun q => put_ne _ (by decide) (h'.k2 (by simpa using q)), k3 := fun q => put_ne _ (by decide) (h'.k3 (by simpa using q)), k4 := fun q => put_ne _ (by decide) (h'.k4 (by simpa using q)), k5 := fun q => put_ne _ (by decide) (h'.k5 (by simpa using q)), k6 := fun q => put_ne _ (by decide) (h'.k6 (by simpa using q)), k7 := fun q => put_ne _ (by decide) (h'.k7 (by simpa using q)), k8 := fun q => put_ne _ (by decide) (h'.k8 (by simpa using q)), k9 := fun q => put_ne _ (by decide) (h'.k9 (by simpa using q)), k10 := fun q => put_ne _ (by decide) (h'.k10 (by simpa using q)), k11 := fun q => put_ne _ (by decide) (h'.k11 (by simpa using q)), k12 := fun q => put_ne _ (by decide) (h'.k12 (by simpa using q)), k13 := fun q => put_ne _ (by decide) (h'.k13 (by simpa using q)), k14 := fun q => put_ne _ (by decide) (h'.k14 (by simpa using q)), k15 := fun _ => put_at _ (by have := h'.off.size; omega), k16 := fun q => put_ne _ (by decide) (h'.k16 (by simpa using q)), k18 := fun q => put_ne _ (by decide) (h'.k18 (by simpa using q)), k20 := fun q => put_ne _ (by decide) (h'.k20 (by simpa using q)), i0 := fun q => h'.i0 (by simpa using q), i1 := fun q r => h'.i1 (by simpa using q) (by simpa using r), i2 := fun q r => h'.i2 (by simpa using q) (by simpa using r), i3 := fun q => h'.i3 (by simpa using q) }
            | 16, ho, hLi, hK' =>
              cases ho
              have ea := (h'.off.off 7 (by decide)).trans hA7
              go_simp
              exact hK' _ _ { off := h'.off.put (by decide) _, ac := h'.ac, rt := h'.rt, ct := h'.ct, et := h'.et, hr := h'.hr, d19_17 := fun q => by simpa using h'.d19_17 (by simpa using q), d21_19 := fun q => by simpa using h'.d21_19 (by simpa using q), k0 := fun q => put_ne _ (by decide) (h'.k0 (by simpa using q)), k1 := fun q => put_ne _ (by decide) (h'.k1 (by simpa using q)), k2 := fun q => put_ne _ (by decide) (h'.k2 (by simpa using q)), k3 := fun q => put_ne _ (by decide) (h'.k3 (by simpa using q)), k4 := fun q => put_ne _ (by decide) (h'.k4 (by simpa using q)), k5 := fun q => put_ne _ (by decide) (h'.k5 (by simpa using q)), k6 := fun q => put_ne _ (by decide) (h'.k6 (by simpa using q)), k7 := fun q => put_ne _ (by decide) (h'.k7 (by simpa using q)), k8 := fun q => put_ne _ (by decide) (h'.k8 (by simpa using q)), k9 := fun q => put_ne _ (by decide) (h'.k9 (by simpa using q)), k10 := fun q => put_ne _ (by decide) (h'.k10 (by simpa using q)), k11 := fun q => put_ne _ (by decide) (h'.k11 (by simpa using q)), k12 := fun q => put_ne _ (by decide) (h'.k12 (by simpa using q)), k13 := fun q => put_ne _ (by decide) (h'.k13 (by simpa using q)), k14 := fun q => put_ne _ (by decide) (h'.k14 (by simpa using q)), k15 := fun q => put_ne _ (by decide) (h'.k15 (by simpa using q)), k16 := fun _ => put_at _ (by have := h'.off.size; omega), k18 := fun q => put_ne _ (by decide) (h'.k18 (by simpa using q)), k20 := fun q => put_ne _ (by decide) (h'.k20 (by simpa using q)), i0 := fun q => h'.i0 (by simpa using q), i1 := fun q r => h'.i1 (by simpa using q) (by simpa using r), i2 := fun q r => h'.i2 (by simpa using q) (by simpa using r), i3 := fun q => h'.i3 (by simpa using q) }
            | 17, ho, hLi, hK' =>
              cases ho
              have hIq := h'.i0 hLi
              have hsg : sb ≠ g := fun e => hIq.ne e.symm
              have hbg : b0 ≤ g := by omega
              have hwg : w.heap.size ≤ g := by omega
              have h2g : g2 ≠ g := by omega
              have h3g : g3 ≠ g := by omega
              have ea := h'.k16 (hdeps ⟨16, .data⟩ (by simp) (by rfl))
              have eb := h'.k6 (hdeps ⟨6, .data⟩ (by simp) (by rfl))
              refine wp_store_mid 25 (.tmp 136) (.tmp 126) rfl g 9 #[.int .i64 (spX p (U - a) (W - b) H), .int .i64 (spY p (U - a) (W - b) H), .int .i64 (spZ p (U - a) (W - b) H)] (eval_of ea) (eval_of eb) (fun j hj => by have := hIq.t'.th (9 + j) (by simp at hj; omega); rwa [Nat.zero_add] at this) (by kernel_rfl) (by simp [Value.oneCell']) ?_
              exact hK' _ _ { off := h'.off, ac := h'.ac.far hsg hbg hwg _ _, rt := h'.rt.far _, ct := h'.ct.far h2g _, et := h'.et.far h3g _, hr := h'.hr, d19_17 := fun _ => by simp, d21_19 := fun q => by simpa using h'.d21_19 (by simpa using q), k0 := fun q => (h'.k0 (by simpa using q)), k1 := fun q => (h'.k1 (by simpa using q)), k2 := fun q => (h'.k2 (by simpa using q)), k3 := fun q => (h'.k3 (by simpa using q)), k4 := fun q => (h'.k4 (by simpa using q)), k5 := fun q => (h'.k5 (by simpa using q)), k6 := fun q => (h'.k6 (by simpa using q)), k7 := fun q => (h'.k7 (by simpa using q)), k8 := fun q => (h'.k8 (by simpa using q)), k9 := fun q => (h'.k9 (by simpa using q)), k10 := fun q => (h'.k10 (by simpa using q)), k11 := fun q => (h'.k11 (by simpa using q)), k12 := fun q => (h'.k12 (by simpa using q)), k13 := fun q => (h'.k13 (by simpa using q)), k14 := fun q => (h'.k14 (by simpa using q)), k15 := fun q => (h'.k15 (by simpa using q)), k16 := fun q => (h'.k16 (by simpa using q)), k18 := fun q => (h'.k18 (by simpa using q)), k20 := fun q => (h'.k20 (by simpa using q)), i0 := fun q => absurd q (by simp), i1 := fun _ _ => (hIq.at 9 [.int .i64 (spX p (U - a) (W - b) H), .int .i64 (spY p (U - a) (W - b) H), .int .i64 (spZ p (U - a) (W - b) H)] (by simp) (by simp only [itL]; intro j hj; rcases j with _ | _ | _ | _ | _ | _ | _ | _ | _ | _ | _ | _ | _ | _ | _ | _ | _ | _ | _ | _ | _ | _ | j <;> first | rfl | omega)), i2 := fun q => absurd (h'.d19_17 (by simpa using q)) (by simp [hLi]), i3 := fun q => absurd (h'.d19_17 (h'.d21_19 (by simpa using q))) (by simp [hLi]) }
            | 18, ho, hLi, hK' =>
              cases ho
              have ea := (h'.off.off 7 (by decide)).trans hA7
              go_simp
              exact hK' _ _ { off := h'.off.put (by decide) _, ac := h'.ac, rt := h'.rt, ct := h'.ct, et := h'.et, hr := h'.hr, d19_17 := fun q => by simpa using h'.d19_17 (by simpa using q), d21_19 := fun q => by simpa using h'.d21_19 (by simpa using q), k0 := fun q => put_ne _ (by decide) (h'.k0 (by simpa using q)), k1 := fun q => put_ne _ (by decide) (h'.k1 (by simpa using q)), k2 := fun q => put_ne _ (by decide) (h'.k2 (by simpa using q)), k3 := fun q => put_ne _ (by decide) (h'.k3 (by simpa using q)), k4 := fun q => put_ne _ (by decide) (h'.k4 (by simpa using q)), k5 := fun q => put_ne _ (by decide) (h'.k5 (by simpa using q)), k6 := fun q => put_ne _ (by decide) (h'.k6 (by simpa using q)), k7 := fun q => put_ne _ (by decide) (h'.k7 (by simpa using q)), k8 := fun q => put_ne _ (by decide) (h'.k8 (by simpa using q)), k9 := fun q => put_ne _ (by decide) (h'.k9 (by simpa using q)), k10 := fun q => put_ne _ (by decide) (h'.k10 (by simpa using q)), k11 := fun q => put_ne _ (by decide) (h'.k11 (by simpa using q)), k12 := fun q => put_ne _ (by decide) (h'.k12 (by simpa using q)), k13 := fun q => put_ne _ (by decide) (h'.k13 (by simpa using q)), k14 := fun q => put_ne _ (by decide) (h'.k14 (by simpa using q)), k15 := fun q => put_ne _ (by decide) (h'.k15 (by simpa using q)), k16 := fun q => put_ne _ (by decide) (h'.k16 (by simpa using q)), k18 := fun _ => put_at _ (by have := h'.off.size; omega), k20 := fun q => put_ne _ (by decide) (h'.k20 (by simpa using q)), i0 := fun q => h'.i0 (by simpa using q), i1 := fun q r => h'.i1 (by simpa using q) (by simpa using r), i2 := fun q r => h'.i2 (by simpa using q) (by simpa using r), i3 := fun q => h'.i3 (by simpa using q) }
            | 19, ho, hLi, hK' =>
              cases ho
              have l17 := (hdeps ⟨17, .chain⟩ (by simp) (by rfl))
              have hIq := h'.i1 l17 hLi
              have hsg : sb ≠ g := fun e => hIq.ne e.symm
              have hbg : b0 ≤ g := by omega
              have hwg : w.heap.size ≤ g := by omega
              have h2g : g2 ≠ g := by omega
              have h3g : g3 ≠ g := by omega
              have ea := h'.k18 (hdeps ⟨18, .data⟩ (by simp) (by rfl))
              have eb := h'.k13 (hdeps ⟨13, .data⟩ (by simp) (by rfl))
              refine wp_store_mid 25 (.tmp 137) (.tmp 133) rfl g 5 #[.int .i64 (spX p (U - a + c2) (W - b + f2) (H + o)), .int .i64 (spY p (U - a + c2) (W - b + f2) (H + o)), .int .i64 (spZ p (U - a + c2) (W - b + f2) (H + o))] (eval_of ea) (eval_of eb) (fun j hj => by have := hIq.t'.th (5 + j) (by simp at hj; omega); rwa [Nat.zero_add] at this) (by kernel_rfl) (by simp [Value.oneCell']) ?_
              exact hK' _ _ { off := h'.off, ac := h'.ac.far hsg hbg hwg _ _, rt := h'.rt.far _, ct := h'.ct.far h2g _, et := h'.et.far h3g _, hr := h'.hr, d19_17 := fun _ => by simpa using l17, d21_19 := fun _ => by simp, k0 := fun q => (h'.k0 (by simpa using q)), k1 := fun q => (h'.k1 (by simpa using q)), k2 := fun q => (h'.k2 (by simpa using q)), k3 := fun q => (h'.k3 (by simpa using q)), k4 := fun q => (h'.k4 (by simpa using q)), k5 := fun q => (h'.k5 (by simpa using q)), k6 := fun q => (h'.k6 (by simpa using q)), k7 := fun q => (h'.k7 (by simpa using q)), k8 := fun q => (h'.k8 (by simpa using q)), k9 := fun q => (h'.k9 (by simpa using q)), k10 := fun q => (h'.k10 (by simpa using q)), k11 := fun q => (h'.k11 (by simpa using q)), k12 := fun q => (h'.k12 (by simpa using q)), k13 := fun q => (h'.k13 (by simpa using q)), k14 := fun q => (h'.k14 (by simpa using q)), k15 := fun q => (h'.k15 (by simpa using q)), k16 := fun q => (h'.k16 (by simpa using q)), k18 := fun q => (h'.k18 (by simpa using q)), k20 := fun q => (h'.k20 (by simpa using q)), i0 := fun q => absurd q (by simp [l17]), i1 := fun _ q => absurd q (by simp), i2 := fun _ _ => (hIq.at 5 [.int .i64 (spX p (U - a + c2) (W - b + f2) (H + o)), .int .i64 (spY p (U - a + c2) (W - b + f2) (H + o)), .int .i64 (spZ p (U - a + c2) (W - b + f2) (H + o))] (by simp) (by simp only [itL]; intro j hj; rcases j with _ | _ | _ | _ | _ | _ | _ | _ | _ | _ | _ | _ | _ | _ | _ | _ | _ | _ | _ | _ | _ | _ | j <;> first | rfl | omega)), i3 := fun q => absurd (h'.d21_19 (by simpa using q)) (by simp [hLi]) }
            | 20, ho, hLi, hK' =>
              cases ho
              have ea := (h'.off.off 7 (by decide)).trans hA7
              go_simp
              exact hK' _ _ { off := h'.off.put (by decide) _, ac := h'.ac, rt := h'.rt, ct := h'.ct, et := h'.et, hr := h'.hr, d19_17 := fun q => by simpa using h'.d19_17 (by simpa using q), d21_19 := fun q => by simpa using h'.d21_19 (by simpa using q), k0 := fun q => put_ne _ (by decide) (h'.k0 (by simpa using q)), k1 := fun q => put_ne _ (by decide) (h'.k1 (by simpa using q)), k2 := fun q => put_ne _ (by decide) (h'.k2 (by simpa using q)), k3 := fun q => put_ne _ (by decide) (h'.k3 (by simpa using q)), k4 := fun q => put_ne _ (by decide) (h'.k4 (by simpa using q)), k5 := fun q => put_ne _ (by decide) (h'.k5 (by simpa using q)), k6 := fun q => put_ne _ (by decide) (h'.k6 (by simpa using q)), k7 := fun q => put_ne _ (by decide) (h'.k7 (by simpa using q)), k8 := fun q => put_ne _ (by decide) (h'.k8 (by simpa using q)), k9 := fun q => put_ne _ (by decide) (h'.k9 (by simpa using q)), k10 := fun q => put_ne _ (by decide) (h'.k10 (by simpa using q)), k11 := fun q => put_ne _ (by decide) (h'.k11 (by simpa using q)), k12 := fun q => put_ne _ (by decide) (h'.k12 (by simpa using q)), k13 := fun q => put_ne _ (by decide) (h'.k13 (by simpa using q)), k14 := fun q => put_ne _ (by decide) (h'.k14 (by simpa using q)), k15 := fun q => put_ne _ (by decide) (h'.k15 (by simpa using q)), k16 := fun q => put_ne _ (by decide) (h'.k16 (by simpa using q)), k18 := fun q => put_ne _ (by decide) (h'.k18 (by simpa using q)), k20 := fun _ => put_at _ (by have := h'.off.size; omega), i0 := fun q => h'.i0 (by simpa using q), i1 := fun q r => h'.i1 (by simpa using q) (by simpa using r), i2 := fun q r => h'.i2 (by simpa using q) (by simpa using r), i3 := fun q => h'.i3 (by simpa using q) }
            | 21, ho, hLi, hK' =>
              cases ho
              have l19 := (hdeps ⟨19, .chain⟩ (by simp) (by rfl))
              have hIq := h'.i2 l19 hLi
              have hsg : sb ≠ g := fun e => hIq.ne e.symm
              have hbg : b0 ≤ g := by omega
              have hwg : w.heap.size ≤ g := by omega
              have h2g : g2 ≠ g := by omega
              have h3g : g3 ≠ g := by omega
              have ea := h'.k20 (hdeps ⟨20, .data⟩ (by simp) (by rfl))
              have eb := h'.k15 (hdeps ⟨15, .data⟩ (by simp) (by rfl))
              have y13 : wx.cell? ⟨g, 13, none⟩ = some (.bool false) := hIq.c.rg 13 (.bool false) rfl
              have z13 := hIq.t'.frz 13 (by decide)
              go_simp
              exact hK' _ (wx.setCells g 13 [.bool fq]) { off := h'.off, ac := h'.ac.far hsg hbg hwg _ _, rt := h'.rt.far _, ct := h'.ct.far h2g _, et := h'.et.far h3g _, hr := h'.hr, d19_17 := fun q => by simpa using h'.d19_17 (by simpa using q), d21_19 := fun _ => by simpa using l19, k0 := fun q => (h'.k0 (by simpa using q)), k1 := fun q => (h'.k1 (by simpa using q)), k2 := fun q => (h'.k2 (by simpa using q)), k3 := fun q => (h'.k3 (by simpa using q)), k4 := fun q => (h'.k4 (by simpa using q)), k5 := fun q => (h'.k5 (by simpa using q)), k6 := fun q => (h'.k6 (by simpa using q)), k7 := fun q => (h'.k7 (by simpa using q)), k8 := fun q => (h'.k8 (by simpa using q)), k9 := fun q => (h'.k9 (by simpa using q)), k10 := fun q => (h'.k10 (by simpa using q)), k11 := fun q => (h'.k11 (by simpa using q)), k12 := fun q => (h'.k12 (by simpa using q)), k13 := fun q => (h'.k13 (by simpa using q)), k14 := fun q => (h'.k14 (by simpa using q)), k15 := fun q => (h'.k15 (by simpa using q)), k16 := fun q => (h'.k16 (by simpa using q)), k18 := fun q => (h'.k18 (by simpa using q)), k20 := fun q => (h'.k20 (by simpa using q)), i0 := fun q => absurd q (by simp [h'.d19_17 l19]), i1 := fun _ q => absurd q (by simp [l19]), i2 := fun _ q => absurd q (by simp), i3 := fun _ => (hIq.at 13 [.bool fq] (by simp) (by simp only [itL]; intro j hj; rcases j with _ | _ | _ | _ | _ | _ | _ | _ | _ | _ | _ | _ | _ | _ | _ | _ | _ | _ | _ | _ | _ | _ | j <;> first | rfl | omega)) }
            | i + 22, ho, hLi, hK' => cases ho
          · intro L aa wx h' hall
            have z0 := h'.k0 (hall 0 (by decide))
            have z1 := h'.k1 (hall 1 (by decide))
            have z2 := h'.k2 (hall 2 (by decide))
            have z3 := h'.k3 (hall 3 (by decide))
            have z4 := h'.k4 (hall 4 (by decide))
            have z5 := h'.k5 (hall 5 (by decide))
            have z6 := h'.k6 (hall 6 (by decide))
            have z7 := h'.k7 (hall 7 (by decide))
            have z8 := h'.k8 (hall 8 (by decide))
            have z9 := h'.k9 (hall 9 (by decide))
            have z10 := h'.k10 (hall 10 (by decide))
            have z11 := h'.k11 (hall 11 (by decide))
            have z12 := h'.k12 (hall 12 (by decide))
            have z13 := h'.k13 (hall 13 (by decide))
            have z14 := h'.k14 (hall 14 (by decide))
            have z15 := h'.k15 (hall 15 (by decide))
            have z16 := h'.k16 (hall 16 (by decide))
            have z18 := h'.k18 (hall 18 (by decide))
            have z20 := h'.k20 (hall 20 (by decide))
            have hfr := h'.off.rebuild (fun d' => if d' = 120 then .pointer (some ⟨g2, 0, none⟩) else if d' = 121 then .int .i64 (spX p (U - a) (W - b) H) else if d' = 122 then .pointer (some ⟨g2, 1, none⟩) else if d' = 123 then .int .i64 (spY p (U - a) (W - b) H) else if d' = 124 then .pointer (some ⟨g2, 2, none⟩) else if d' = 125 then .int .i64 (spZ p (U - a) (W - b) H) else if d' = 126 then .agg #[.int .i64 (spX p (U - a) (W - b) H), .int .i64 (spY p (U - a) (W - b) H), .int .i64 (spZ p (U - a) (W - b) H)] else if d' = 127 then .pointer (some ⟨g3, 0, none⟩) else if d' = 128 then .int .i64 (spX p (U - a + c2) (W - b + f2) (H + o)) else if d' = 129 then .pointer (some ⟨g3, 1, none⟩) else if d' = 130 then .int .i64 (spY p (U - a + c2) (W - b + f2) (H + o)) else if d' = 131 then .pointer (some ⟨g3, 2, none⟩) else if d' = 132 then .int .i64 (spZ p (U - a + c2) (W - b + f2) (H + o)) else if d' = 133 then .agg #[.int .i64 (spX p (U - a + c2) (W - b + f2) (H + o)), .int .i64 (spY p (U - a + c2) (W - b + f2) (H + o)), .int .i64 (spZ p (U - a + c2) (W - b + f2) (H + o))] else if d' = 134 then .int .i64 (q) else if d' = 135 then .bool fq else if d' = 136 then .pointer (some ⟨g, 9, none⟩) else if d' = 137 then .pointer (some ⟨g, 5, none⟩) else if d' = 138 then .pointer (some ⟨g, 13, none⟩) else undef) (by
              intro d' hd'
              simp only [List.mem_cons, List.not_mem_nil, or_false] at hd'
              rcases hd' with rfl | rfl | rfl | rfl | rfl | rfl | rfl | rfl | rfl | rfl | rfl | rfl | rfl | rfl | rfl | rfl | rfl | rfl | rfl
              · exact z0
              · exact z1
              · exact z2
              · exact z3
              · exact z4
              · exact z5
              · exact z6
              · exact z7
              · exact z8
              · exact z9
              · exact z10
              · exact z11
              · exact z12
              · exact z13
              · exact z14
              · exact z15
              · exact z16
              · exact z18
              · exact z20
              )
            simp only [List.foldl_cons, List.foldl_nil] at hfr
            rw [← HA.out] at hfr
            have hAc := h'.ac
            have hIt := h'.i3 (hall 21 (by decide))
            have hRt := h'.rt
            rw [hfr]
            clear hfr h' hall HA hsz
            simp [Act.put]
            --CUT8
            generalize hT3 : (⟨3, 0, x, y, z, spX p (U - a + c2) (W - b + f2) (H + o), spY p (U - a + c2) (W - b + f2) (H + o), spZ p (U - a + c2) (W - b + f2) (H + o), p, spX p (U - a) (W - b) H, spY p (U - a) (W - b) H, spZ p (U - a) (W - b) H, d, fq, 0, false, 0, 0, 0, 0, 0, false⟩ : Itm) = t3 at *
            go_wp2_with (first | (refine wpList_load_g (by rfl) 27 (.tmp 7) rfl g 0 rfl (itL t3) _ hIt.c.rg Try.underlying27 rfl (by kernel_rfl) ?_) | (refine wpList_store_mid rfl 27 (.tmp 6) (.tmp 139) rfl (w.heap.size + 1) 0 (itL t3).toArray rfl rfl hRt.th (by kernel_rfl) (one_itL _) ?_))
            refine bodyPost_ret (results_cell rfl _ _ (w.heap.size + 1) (itL t3) _ rfl (World.rangeAt_setCells_same _ _ _ _ hRt.th) Try.underlying27 rfl (by kernel_rfl)) rfl ?_
            have hF := hAc.far (g := w.heap.size + 1) (by omega) (by omega) (by omega) (itL t3) 0
            subst hT3
            have hM := arc_made hx hy hz hp hd (by omega) m2 r0 r1 k0 k1 q0 q1 n0 n1 nq EU.out EW.out EH.out EA.out EB.out EC2.out EF2.out ho HQ.out
            --CUT9
            exact ⟨_, 8 + r, 8 + r + n, k, q, rfl, hM.1, ⟨rfl, rfl, rfl⟩, hM.2, hF.src, hF.ch⟩
end Go.Proofs.Ytkjjoclbjkpdaaa
