/- Proved here: pieces of the reference returns the spokes of a piece, at any number of halvings; ranges as stated. -/
import Derived.Test.YtkjjoclbjkpdaaaNa4R
import Derived.BigQuiet
namespace Go.Proofs.Ytkjjoclbjkpdaaa
open Go.RowKit
set_option linter.unusedVariables false
set_option linter.unusedSimpArgs false
def PiecesR (l : List Spk) (w : World) (e : Ending) (w' : World) : Prop :=
  ∃ v, e = .returned v ∧ w'.ownsRow w.heap.size 34 4 v l.length (l.flatMap spc) ∧ Below w.heap.size w w'
theorem spc_one (l : List Spk) : ∀ u ∈ l.flatMap spc, u.oneCell' = true := by
  intro u hu
  obtain ⟨s, _, hs⟩ := List.mem_flatMap.1 hu
  simp [spc] at hs
  rcases hs with rfl | rfl | rfl | rfl <;> rfl
/-- cells below a row stay when the row grows -/
theorem Lf.row {B n : Nat} {v : Value} {cs : List (Addr × Value)} {w0 w w' : World} (h : Lf B n cs w0 w) (hg : w.grownBy w' v.ownBlock) (hv : ∀ k, v.ownBlock = some k → n ≤ k) : Lf B n cs w0 w' :=
  h.chg (cb := n) (v := v) ((Chg.refl n v w).grown hg) (fun p hp => by have := h.inn p hp; omega) (fun p hp e => by have := h.inn p hp; have := hv _ e; omega) h.le (fun k e => Nat.le_trans h.le (hv k e))
structure PrI (aU aW aR aH bU bW bR bH mU mW mR mH : Int) (dir : Int) (j : Nat) (l1 l2 : List Spk) (w0 : World) (g N : Nat) (A : Act) (v1 v2 v : Value) (L : Nat → Bool) (a : Act) (w : World) : Prop where
  off : OffOf [32, 33, 34, 35, 36, 37, 38, 39, 40, 41, 42, 43, 44, 10] A a
  k0 : L 0 = true → a.tmps[32]? = some (.agg #[.int .i64 aU, .int .i64 aW, .int .i64 aR, .int .i64 aH])
  k1 : L 1 = true → a.tmps[33]? = some (.agg #[.int .i64 mU, .int .i64 mW, .int .i64 mR, .int .i64 mH])
  k2 : L 2 = true → a.tmps[34]? = some (.int .i64 dir)
  k3 : L 3 = true → a.tmps[35]? = some (.int .i64 (j : Int))
  k4 : L 4 = true → a.tmps[36]? = some (.int .i64 ((j : Int) + 1))
  k5 : L 5 = true → a.tmps[37]? = some (v1)
  k6 : L 6 = true → a.tmps[38]? = some (.agg #[.int .i64 mU, .int .i64 mW, .int .i64 mR, .int .i64 mH])
  k7 : L 7 = true → a.tmps[39]? = some (.agg #[.int .i64 bU, .int .i64 bW, .int .i64 bR, .int .i64 bH])
  k8 : L 8 = true → a.tmps[40]? = some (.int .i64 dir)
  k9 : L 9 = true → a.tmps[41]? = some (.int .i64 (j : Int))
  k10 : L 10 = true → a.tmps[42]? = some (.int .i64 ((j : Int) + 1))
  k11 : L 11 = true → a.tmps[43]? = some (v2)
  k12 : L 12 = true → a.tmps[44]? = some (v)
  k13 : L 13 = true → a.tmps[10]? = some (v)
  bx : Lf w0.heap.size N [(⟨g, 0, none⟩, .int .i64 mU), (⟨g, 1, none⟩, .int .i64 mW), (⟨g, 2, none⟩, .int .i64 mR), (⟨g, 3, none⟩, .int .i64 mH), (⟨w0.heap.size, 0, none⟩, .int .i64 aU), (⟨w0.heap.size, 1, none⟩, .int .i64 aW), (⟨w0.heap.size, 2, none⟩, .int .i64 aR), (⟨w0.heap.size, 3, none⟩, .int .i64 aH), (⟨w0.heap.size + 1, 0, none⟩, .int .i64 bU), (⟨w0.heap.size + 1, 1, none⟩, .int .i64 bW), (⟨w0.heap.size + 1, 2, none⟩, .int .i64 bR), (⟨w0.heap.size + 1, 3, none⟩, .int .i64 bH)] w0 w
  d1 : L 11 = true → L 5 = true
  d2 : L 12 = true → L 11 = true
  d3 : L 13 = true → L 12 = true
  o1 : L 5 = true → L 12 = false → w.ownsRow N 34 4 v1 l1.length (l1.flatMap spc)
  o2 : L 11 = true → L 12 = false → w.ownsRow N 34 4 v2 l2.length (l2.flatMap spc) ∧ v1.ownBlock ≠ v2.ownBlock
  o3 : L 12 = true → w.ownsRow N 34 4 v (l1.length + l2.length) (l1.flatMap spc ++ l2.flatMap spc)
theorem row_le {w : World} {base base' size n : Nat} {e : TypeId} {v : Value} {xs : List Value} (h : w.ownsRow base e size v n xs) (hb : base' ≤ base) : w.ownsRow base' e size v n xs :=
  ⟨h.1, h.2.imp_right fun ⟨g, cap, cur, h1, h2, h3⟩ => ⟨g, cap, cur, h1, Nat.le_trans hb h2, h3⟩⟩
theorem ownsRow_nx {B : Nat} {e : TypeId} {k : Nat} {v : Value} {n : Nat} {xs : List Value} {w w' : World} (h : w.ownsRow B e k v n xs) (hb : Below w.heap.size w w') : w'.ownsRow B e k v n xs :=
  h.kept (row := none) ⟨hb.os, hb.tape, hb.output, hb.size, fun q hk _ => hb.block q hk⟩ (by cases v.ownBlock <;> simp)
theorem ne_of_rows {B : Nat} {e : TypeId} {k : Nat} {v1 v2 : Value} {n1 n2 : Nat} {xs ys : List Value} {w w' : World} (h : w.ownsRow B e k v1 n1 xs) (hn : 0 < n1) (h2 : w'.ownsRow w.heap.size e k v2 n2 ys) : v1.ownBlock ≠ v2.ownBlock := by
  intro he
  obtain ⟨g, cap, rfl, _, hg⟩ := h.form hn
  have := (h2.lt g he.symm).1
  omega
theorem flat_len : ∀ (l : List Spk), (l.flatMap spc).length = l.length * 4
  | [] => rfl
  | s :: l => by rw [List.flatMap_cons, List.length_append, flat_len l, List.length_cons]; show 4 + _ = _; omega
set_option maxHeartbeats 16000000 in
set_option maxRecDepth 20000 in
theorem piecesR_any {lo hi hl hh : Int} (bn : Bnd lo hi hl hh) (dir : Int) (hd : dir = 1 ∨ dir = -1) : ∀ (k j : Nat), j + k = 16 → ∀ (full : Bool) (aU aW aR aH bU bW bR bH : Int) (w : World), Gd lo hi hl hh (⟨aU, aW, aR, aH⟩ : Spk) → Gd lo hi hl hh (⟨bU, bW, bR, bH⟩ : Spk) →
    Calls Try.prog 36 #[.agg #[.int .i64 aU, .int .i64 aW, .int .i64 aR, .int .i64 aH], .agg #[.int .i64 bU, .int .i64 bW, .int .i64 bR, .int .i64 bH], .int .i64 dir, .bool full, .int .i64 (j : Int)] w (PiecesR (pcs dir k full (⟨aU, aW, aR, aH⟩ : Spk) (⟨bU, bW, bR, bH⟩ : Spk)) w) := by
  intro k
  induction k with
  | zero =>
    intro j hj full aU aW aR aH bU bW bR bH w ga gb
    obtain rfl : j = 16 := by omega
    go_enter Try.func36, Try.ntmps36
    go_wp2_with fail
    go_ret
    have OL := World.ownsRow_lit (base := w.heap.size) (e := 34) (size := 4) ((w.alloc (.cells #[.int .i64 aU, .int .i64 aW, .int .i64 aR, .int .i64 aH] 34)).alloc (.cells #[.int .i64 bU, .int .i64 bW, .int .i64 bR, .int .i64 bH] 34)) #[.int .i64 bU, .int .i64 bW, .int .i64 bR, .int .i64 bH] 1 (by simp <;> omega) (by decide) rfl
    refine ⟨_, rfl, by simpa [pcs, spc] using OL, ?_⟩
    (repeat (first | exact Below.refl _ _ | assumption | refine Below.drew ?_ | (refine Below.alloc ?_ (by simp <;> omega) _) | (refine Below.setCell ?_ (by simp <;> omega) _)))
  | succ k ihk =>
    intro j hj full aU aW aR aH bU bW bR bH w ga gb
    have ih := ihk (j + 1) (by omega)
    have gm := mdS_gd full ga gb bn hd
    have MI := (mid_gd dir full (⟨aU, aW, aR, aH⟩ : Spk) (⟨bU, bW, bR, bH⟩ : Spk) ga gb bn hd).2
    have sa := ga.sp bn
    have sb := gb.sp bn
    have HP : Hid (pcs dir (k + 1) full (⟨aU, aW, aR, aH⟩ : Spk) (⟨bU, bW, bR, bH⟩ : Spk) = if stl dir full (⟨aU, aW, aR, aH⟩ : Spk) (⟨bU, bW, bR, bH⟩ : Spk) then [(⟨bU, bW, bR, bH⟩ : Spk)] else pcs dir k false (⟨aU, aW, aR, aH⟩ : Spk) (mdS dir full (⟨aU, aW, aR, aH⟩ : Spk) (⟨bU, bW, bR, bH⟩ : Spk)) ++ pcs dir k false (mdS dir full (⟨aU, aW, aR, aH⟩ : Spk) (⟨bU, bW, bR, bH⟩ : Spk)) (⟨bU, bW, bR, bH⟩ : Spk)) := rfl
    have ST := fun (w : World) => Lib.hid (settledR_any aU aW aR aH bU bW bR bH dir full w sa sb hd)
    generalize pcs dir (k + 1) full (⟨aU, aW, aR, aH⟩ : Spk) (⟨bU, bW, bR, bH⟩ : Spk) = PL at *
    generalize mdS dir full (⟨aU, aW, aR, aH⟩ : Spk) (⟨bU, bW, bR, bH⟩ : Spk) = ms at *
    obtain ⟨mU, mW, mR, mH⟩ := ms
    simp only at MI
    have hj16 : (j : Int) < 16 := by omega
    have hdec : decide ((16 : Int) ≤ (j : Int)) = false := decide_eq_false (by omega)
    have hT : Lf w.heap.size (w.heap.size + 1 + 1) [(⟨w.heap.size, 0, none⟩, .int .i64 aU), (⟨w.heap.size, 1, none⟩, .int .i64 aW), (⟨w.heap.size, 2, none⟩, .int .i64 aR), (⟨w.heap.size, 3, none⟩, .int .i64 aH), (⟨w.heap.size + 1, 0, none⟩, .int .i64 bU), (⟨w.heap.size + 1, 1, none⟩, .int .i64 bW), (⟨w.heap.size + 1, 2, none⟩, .int .i64 bR), (⟨w.heap.size + 1, 3, none⟩, .int .i64 bH)] w ((w.alloc (.cells #[.int .i64 aU, .int .i64 aW, .int .i64 aR, .int .i64 aH] 34)).alloc (.cells #[.int .i64 bU, .int .i64 bW, .int .i64 bR, .int .i64 bH] 34)) := ⟨by simp [List.forall_mem_cons, go_sem], by simp [List.forall_mem_cons, go_sem], by simp [List.forall_mem_cons] <;> omega, by simp, by (repeat (first | exact Below.refl _ _ | refine Below.alloc ?_ (by simp <;> omega) _)), by omega⟩
    obtain ⟨i0, hi, hz0, hz1, hz2⟩ := info_parts infoSp
    cases hG : stl dir full (⟨aU, aW, aR, aH⟩ : Spk) (⟨bU, bW, bR, bH⟩ : Spk)
    rotate_left
    · rw [hG] at ST
      have HP : PL = [(⟨bU, bW, bR, bH⟩ : Spk)] := by rw [HP.out, hG]; rfl
      subst HP
      clear hG MI ih gm ga gb
      go_enter Try.func36, Try.ntmps36
      go_wp2_with fail
      refine (ST _).out.mono ?_
      rintro e wr ⟨rfl, hb1⟩
      have hT := hT.next hb1
      clear hb1 ST sa sb
      have kc := hT.cells
      have kf := hT.frz
      simp only [List.forall_mem_cons, List.not_mem_nil, false_implies, implies_true, and_true] at kc kf
      obtain ⟨yc0, yc1, yc2, yc3, yc4, yc5, yc6, yc7⟩ := kc
      obtain ⟨yf0, yf1, yf2, yf3, yf4, yf5, yf6, yf7⟩ := kf
      go_wp2_with fail
      go_ret
      have OL := World.ownsRow_lit (base := w.heap.size) (e := 34) (size := 4) wr #[.int .i64 bU, .int .i64 bW, .int .i64 bR, .int .i64 bH] 1 (by have := hT.lt; omega) (by decide) rfl
      exact ⟨_, rfl, by simpa [spc] using OL, hT.be.alloc (by have := hT.lt; omega) _⟩
    · rw [hG] at ST
      have HP : PL = pcs dir k false (⟨aU, aW, aR, aH⟩ : Spk) (⟨mU, mW, mR, mH⟩ : Spk) ++ pcs dir k false (⟨mU, mW, mR, mH⟩ : Spk) (⟨bU, bW, bR, bH⟩ : Spk) := by rw [HP.out, hG]; rfl
      subst HP
      have hl1 := pcs_len dir k false (⟨aU, aW, aR, aH⟩ : Spk) (⟨mU, mW, mR, mH⟩ : Spk)
      have hl2 := pcs_len dir k false (⟨mU, mW, mR, mH⟩ : Spk) (⟨bU, bW, bR, bH⟩ : Spk)
      have hk16 : 2 ^ k ≤ 2 ^ 16 := Nat.pow_le_pow_right (by decide) (by omega)
      clear hG
      have IH1 := fun w => Lib.hid (ih false aU aW aR aH mU mW mR mH w ga gm)
      have IH2 := fun w => Lib.hid (ih false mU mW mR mH bU bW bR bH w gm gb)
      clear ih ga gb gm
      generalize pcs dir k false (⟨aU, aW, aR, aH⟩ : Spk) (⟨mU, mW, mR, mH⟩ : Spk) = l1 at *
      generalize pcs dir k false (⟨mU, mW, mR, mH⟩ : Spk) (⟨bU, bW, bR, bH⟩ : Spk) = l2 at *
      go_enter Try.func36, Try.ntmps36
      go_wp2_with fail
      refine (ST _).out.mono ?_
      rintro e wq ⟨rfl, hb1⟩
      have hT := hT.next hb1
      clear hb1 ST sa sb
      have kc := hT.cells
      have kf := hT.frz
      simp only [List.forall_mem_cons, List.not_mem_nil, false_implies, implies_true, and_true] at kc kf
      obtain ⟨yc0, yc1, yc2, yc3, yc4, yc5, yc6, yc7⟩ := kc
      obtain ⟨yf0, yf1, yf2, yf3, yf4, yf5, yf6, yf7⟩ := kf
      go_wp2_with fail
      refine (MI _).out.mono ?_
      rintro e wp ⟨rfl, hb1⟩
      have hT := hT.next hb1
      clear hb1 MI yc0 yf0 yc1 yf1 yc2 yf2 yc3 yf3 yc4 yf4 yc5 yf5 yc6 yf6 yc7 yf7
      have kc := hT.cells
      have kf := hT.frz
      simp only [List.forall_mem_cons, List.not_mem_nil, false_implies, implies_true, and_true] at kc kf
      obtain ⟨yc0, yc1, yc2, yc3, yc4, yc5, yc6, yc7⟩ := kc
      obtain ⟨yf0, yf1, yf2, yf3, yf4, yf5, yf6, yf7⟩ := kf
      go_upto_region 4 with fail
      have hT := hT.push #[.int .i64 mU, .int .i64 mW, .int .i64 mR, .int .i64 mH] 34
      generalize wp.heap.size = g at *
      refine wp_cls (fun wr => Lf w.heap.size (g + 1) [(⟨g, 0, none⟩, .int .i64 mU), (⟨g, 1, none⟩, .int .i64 mW), (⟨g, 2, none⟩, .int .i64 mR), (⟨g, 3, none⟩, .int .i64 mH), (⟨w.heap.size, 0, none⟩, .int .i64 aU), (⟨w.heap.size, 1, none⟩, .int .i64 aW), (⟨w.heap.size, 2, none⟩, .int .i64 aR), (⟨w.heap.size, 3, none⟩, .int .i64 aH), (⟨w.heap.size + 1, 0, none⟩, .int .i64 bU), (⟨w.heap.size + 1, 1, none⟩, .int .i64 bW), (⟨w.heap.size + 1, 2, none⟩, .int .i64 bR), (⟨w.heap.size + 1, 3, none⟩, .int .i64 bH)] w wr) hT ?_
      clear hT yc0 yf0 yc1 yf1 yc2 yf2 yc3 yf3 yc4 yf4 yc5 yf5 yc6 yf6 yc7 yf7
      intro wr hT
      generalize hA : (Act.mk _ _) = A
      have hsz : A.tmps.size = 45 := by rw [← hA]; rfl
      have hA5 : A.tmps[5]? = some (.pointer (some ⟨w.heap.size, 0, none⟩)) := by rw [← hA]; rfl
      have hA6 : A.tmps[6]? = some (.pointer (some ⟨w.heap.size + 1, 0, none⟩)) := by rw [← hA]; rfl
      have hA11 : A.tmps[11]? = some (.pointer (some ⟨g, 0, none⟩)) := by rw [← hA]; rfl
      have hA2 : A.tmps[2]? = some (.int .i64 dir) := by rw [← hA]; rfl
      have hA4 : A.tmps[4]? = some (.int .i64 (j : Int)) := by rw [← hA]; rfl
      have HA := Lib.hid hA
      clear hA
      refine wp_region_inv (fun L a wx => ∃ v1 v2 v, PrI aU aW aR aH bU bW bR bH mU mW mR mH dir j l1 l2 w g (g + 1) A v1 v2 v L a wx) (by kernel_rfl) (by kernel_rfl) ?_ ?_ ?_
      · have hD := (Below.refl wr.heap.size wr).drew
        exact ⟨.slice none 0 0, .slice none 0 0, .slice none 0 0, by constructor <;> first | exact OffOf.refl _ _ | exact hT.next hD | (intro h; exact nomatch h) | (intro h h'; exact nomatch h)⟩
      · intro i o ho L a wx hI hLi hdeps K hK'
        obtain ⟨v1, v2, v, h'⟩ := hI
        match i, ho, hLi, hK' with
        | 0, ho, hLi, hK' =>
          cases ho
          have ea := (h'.off.off 5 (by decide)).trans hA5
          have kc := h'.bx.cells
          simp only [List.forall_mem_cons, List.not_mem_nil, false_implies, implies_true, and_true] at kc
          obtain ⟨yc0, yc1, yc2, yc3, yc4, yc5, yc6, yc7, yc8, yc9, yc10, yc11⟩ := kc
          go_simp
          exact hK' _ _ ⟨v1, v2, v, { off := h'.off.put (by decide) _, k0 := fun _ => put_at _ (by have := h'.off.size; omega), k1 := fun q => put_ne _ (by decide) (h'.k1 (by simpa using q)), k2 := fun q => put_ne _ (by decide) (h'.k2 (by simpa using q)), k3 := fun q => put_ne _ (by decide) (h'.k3 (by simpa using q)), k4 := fun q => put_ne _ (by decide) (h'.k4 (by simpa using q)), k5 := fun q => put_ne _ (by decide) (h'.k5 (by simpa using q)), k6 := fun q => put_ne _ (by decide) (h'.k6 (by simpa using q)), k7 := fun q => put_ne _ (by decide) (h'.k7 (by simpa using q)), k8 := fun q => put_ne _ (by decide) (h'.k8 (by simpa using q)), k9 := fun q => put_ne _ (by decide) (h'.k9 (by simpa using q)), k10 := fun q => put_ne _ (by decide) (h'.k10 (by simpa using q)), k11 := fun q => put_ne _ (by decide) (h'.k11 (by simpa using q)), k12 := fun q => put_ne _ (by decide) (h'.k12 (by simpa using q)), k13 := fun q => put_ne _ (by decide) (h'.k13 (by simpa using q)), bx := h'.bx, d1 := fun q => by simpa using h'.d1 (by simpa using q), d2 := fun q => by simpa using h'.d2 (by simpa using q), d3 := fun q => by simpa using h'.d3 (by simpa using q), o1 := fun q r => h'.o1 (by simpa using q) (by simpa using r), o2 := fun q r => h'.o2 (by simpa using q) (by simpa using r), o3 := fun q => h'.o3 (by simpa using q) }⟩
        | 1, ho, hLi, hK' =>
          cases ho
          have ea := (h'.off.off 11 (by decide)).trans hA11
          have kc := h'.bx.cells
          simp only [List.forall_mem_cons, List.not_mem_nil, false_implies, implies_true, and_true] at kc
          obtain ⟨yc0, yc1, yc2, yc3, yc4, yc5, yc6, yc7, yc8, yc9, yc10, yc11⟩ := kc
          go_simp
          exact hK' _ _ ⟨v1, v2, v, { off := h'.off.put (by decide) _, k0 := fun q => put_ne _ (by decide) (h'.k0 (by simpa using q)), k1 := fun _ => put_at _ (by have := h'.off.size; omega), k2 := fun q => put_ne _ (by decide) (h'.k2 (by simpa using q)), k3 := fun q => put_ne _ (by decide) (h'.k3 (by simpa using q)), k4 := fun q => put_ne _ (by decide) (h'.k4 (by simpa using q)), k5 := fun q => put_ne _ (by decide) (h'.k5 (by simpa using q)), k6 := fun q => put_ne _ (by decide) (h'.k6 (by simpa using q)), k7 := fun q => put_ne _ (by decide) (h'.k7 (by simpa using q)), k8 := fun q => put_ne _ (by decide) (h'.k8 (by simpa using q)), k9 := fun q => put_ne _ (by decide) (h'.k9 (by simpa using q)), k10 := fun q => put_ne _ (by decide) (h'.k10 (by simpa using q)), k11 := fun q => put_ne _ (by decide) (h'.k11 (by simpa using q)), k12 := fun q => put_ne _ (by decide) (h'.k12 (by simpa using q)), k13 := fun q => put_ne _ (by decide) (h'.k13 (by simpa using q)), bx := h'.bx, d1 := fun q => by simpa using h'.d1 (by simpa using q), d2 := fun q => by simpa using h'.d2 (by simpa using q), d3 := fun q => by simpa using h'.d3 (by simpa using q), o1 := fun q r => h'.o1 (by simpa using q) (by simpa using r), o2 := fun q r => h'.o2 (by simpa using q) (by simpa using r), o3 := fun q => h'.o3 (by simpa using q) }⟩
        | 2, ho, hLi, hK' =>
          cases ho
          have ea := (h'.off.off 2 (by decide)).trans hA2
          go_simp
          exact hK' _ _ ⟨v1, v2, v, { off := h'.off.put (by decide) _, k0 := fun q => put_ne _ (by decide) (h'.k0 (by simpa using q)), k1 := fun q => put_ne _ (by decide) (h'.k1 (by simpa using q)), k2 := fun _ => put_at _ (by have := h'.off.size; omega), k3 := fun q => put_ne _ (by decide) (h'.k3 (by simpa using q)), k4 := fun q => put_ne _ (by decide) (h'.k4 (by simpa using q)), k5 := fun q => put_ne _ (by decide) (h'.k5 (by simpa using q)), k6 := fun q => put_ne _ (by decide) (h'.k6 (by simpa using q)), k7 := fun q => put_ne _ (by decide) (h'.k7 (by simpa using q)), k8 := fun q => put_ne _ (by decide) (h'.k8 (by simpa using q)), k9 := fun q => put_ne _ (by decide) (h'.k9 (by simpa using q)), k10 := fun q => put_ne _ (by decide) (h'.k10 (by simpa using q)), k11 := fun q => put_ne _ (by decide) (h'.k11 (by simpa using q)), k12 := fun q => put_ne _ (by decide) (h'.k12 (by simpa using q)), k13 := fun q => put_ne _ (by decide) (h'.k13 (by simpa using q)), bx := h'.bx, d1 := fun q => by simpa using h'.d1 (by simpa using q), d2 := fun q => by simpa using h'.d2 (by simpa using q), d3 := fun q => by simpa using h'.d3 (by simpa using q), o1 := fun q r => h'.o1 (by simpa using q) (by simpa using r), o2 := fun q r => h'.o2 (by simpa using q) (by simpa using r), o3 := fun q => h'.o3 (by simpa using q) }⟩
        | 3, ho, hLi, hK' =>
          cases ho
          have ea := (h'.off.off 4 (by decide)).trans hA4
          go_simp
          exact hK' _ _ ⟨v1, v2, v, { off := h'.off.put (by decide) _, k0 := fun q => put_ne _ (by decide) (h'.k0 (by simpa using q)), k1 := fun q => put_ne _ (by decide) (h'.k1 (by simpa using q)), k2 := fun q => put_ne _ (by decide) (h'.k2 (by simpa using q)), k3 := fun _ => put_at _ (by have := h'.off.size; omega), k4 := fun q => put_ne _ (by decide) (h'.k4 (by simpa using q)), k5 := fun q => put_ne _ (by decide) (h'.k5 (by simpa using q)), k6 := fun q => put_ne _ (by decide) (h'.k6 (by simpa using q)), k7 := fun q => put_ne _ (by decide) (h'.k7 (by simpa using q)), k8 := fun q => put_ne _ (by decide) (h'.k8 (by simpa using q)), k9 := fun q => put_ne _ (by decide) (h'.k9 (by simpa using q)), k10 := fun q => put_ne _ (by decide) (h'.k10 (by simpa using q)), k11 := fun q => put_ne _ (by decide) (h'.k11 (by simpa using q)), k12 := fun q => put_ne _ (by decide) (h'.k12 (by simpa using q)), k13 := fun q => put_ne _ (by decide) (h'.k13 (by simpa using q)), bx := h'.bx, d1 := fun q => by simpa using h'.d1 (by simpa using q), d2 := fun q => by simpa using h'.d2 (by simpa using q), d3 := fun q => by simpa using h'.d3 (by simpa using q), o1 := fun q r => h'.o1 (by simpa using q) (by simpa using r), o2 := fun q r => h'.o2 (by simpa using q) (by simpa using r), o3 := fun q => h'.o3 (by simpa using q) }⟩
        | 4, ho, hLi, hK' =>
          cases ho
          have ea := h'.k3 (hdeps ⟨3, .data⟩ (by simp) (by rfl))
          have wj := wr_in (n := (j : Int) + 1) (by omega) (by omega)
          go_simp
          exact hK' _ _ ⟨v1, v2, v, { off := h'.off.put (by decide) _, k0 := fun q => put_ne _ (by decide) (h'.k0 (by simpa using q)), k1 := fun q => put_ne _ (by decide) (h'.k1 (by simpa using q)), k2 := fun q => put_ne _ (by decide) (h'.k2 (by simpa using q)), k3 := fun q => put_ne _ (by decide) (h'.k3 (by simpa using q)), k4 := fun _ => put_at _ (by have := h'.off.size; omega), k5 := fun q => put_ne _ (by decide) (h'.k5 (by simpa using q)), k6 := fun q => put_ne _ (by decide) (h'.k6 (by simpa using q)), k7 := fun q => put_ne _ (by decide) (h'.k7 (by simpa using q)), k8 := fun q => put_ne _ (by decide) (h'.k8 (by simpa using q)), k9 := fun q => put_ne _ (by decide) (h'.k9 (by simpa using q)), k10 := fun q => put_ne _ (by decide) (h'.k10 (by simpa using q)), k11 := fun q => put_ne _ (by decide) (h'.k11 (by simpa using q)), k12 := fun q => put_ne _ (by decide) (h'.k12 (by simpa using q)), k13 := fun q => put_ne _ (by decide) (h'.k13 (by simpa using q)), bx := h'.bx, d1 := fun q => by simpa using h'.d1 (by simpa using q), d2 := fun q => by simpa using h'.d2 (by simpa using q), d3 := fun q => by simpa using h'.d3 (by simpa using q), o1 := fun q r => h'.o1 (by simpa using q) (by simpa using r), o2 := fun q r => h'.o2 (by simpa using q) (by simpa using r), o3 := fun q => h'.o3 (by simpa using q) }⟩
        | 5, ho, hLi, hK' =>
          cases ho
          have ea := h'.k0 (hdeps ⟨0, .data⟩ (by simp) (by rfl))
          have eb := h'.k1 (hdeps ⟨1, .data⟩ (by simp) (by rfl))
          have ec := h'.k2 (hdeps ⟨2, .data⟩ (by simp) (by rfl))
          have ed := h'.k4 (hdeps ⟨4, .data⟩ (by simp) (by rfl))
          go_simp
          refine (IH1 _).out.mono ?_
          rintro e w2 ⟨v1, rfl, ho1, hb⟩
          exact hK' _ _ ⟨v1, v2, v, { off := h'.off.put (by decide) _, k0 := fun q => put_ne _ (by decide) (h'.k0 (by simpa using q)), k1 := fun q => put_ne _ (by decide) (h'.k1 (by simpa using q)), k2 := fun q => put_ne _ (by decide) (h'.k2 (by simpa using q)), k3 := fun q => put_ne _ (by decide) (h'.k3 (by simpa using q)), k4 := fun q => put_ne _ (by decide) (h'.k4 (by simpa using q)), k5 := fun _ => put_at _ (by have := h'.off.size; omega), k6 := fun q => put_ne _ (by decide) (h'.k6 (by simpa using q)), k7 := fun q => put_ne _ (by decide) (h'.k7 (by simpa using q)), k8 := fun q => put_ne _ (by decide) (h'.k8 (by simpa using q)), k9 := fun q => put_ne _ (by decide) (h'.k9 (by simpa using q)), k10 := fun q => put_ne _ (by decide) (h'.k10 (by simpa using q)), k11 := fun q => absurd (h'.d1 (by simpa using q)) (by simp [hLi]), k12 := fun q => absurd (h'.d1 (h'.d2 (by simpa using q))) (by simp [hLi]), k13 := fun q => put_ne _ (by decide) (h'.k13 (by simpa using q)), bx := h'.bx.next hb, d1 := fun _ => by simp, d2 := fun q => by simpa using h'.d2 (by simpa using q), d3 := fun q => by simpa using h'.d3 (by simpa using q), o1 := fun _ _ => row_le ho1 h'.bx.lt, o2 := fun q => absurd (h'.d1 (by simpa using q)) (by simp [hLi]), o3 := fun q => absurd (h'.d1 (h'.d2 (by simpa using q))) (by simp [hLi]) }⟩
        | 6, ho, hLi, hK' =>
          cases ho
          have ea := (h'.off.off 11 (by decide)).trans hA11
          have kc := h'.bx.cells
          simp only [List.forall_mem_cons, List.not_mem_nil, false_implies, implies_true, and_true] at kc
          obtain ⟨yc0, yc1, yc2, yc3, yc4, yc5, yc6, yc7, yc8, yc9, yc10, yc11⟩ := kc
          go_simp
          exact hK' _ _ ⟨v1, v2, v, { off := h'.off.put (by decide) _, k0 := fun q => put_ne _ (by decide) (h'.k0 (by simpa using q)), k1 := fun q => put_ne _ (by decide) (h'.k1 (by simpa using q)), k2 := fun q => put_ne _ (by decide) (h'.k2 (by simpa using q)), k3 := fun q => put_ne _ (by decide) (h'.k3 (by simpa using q)), k4 := fun q => put_ne _ (by decide) (h'.k4 (by simpa using q)), k5 := fun q => put_ne _ (by decide) (h'.k5 (by simpa using q)), k6 := fun _ => put_at _ (by have := h'.off.size; omega), k7 := fun q => put_ne _ (by decide) (h'.k7 (by simpa using q)), k8 := fun q => put_ne _ (by decide) (h'.k8 (by simpa using q)), k9 := fun q => put_ne _ (by decide) (h'.k9 (by simpa using q)), k10 := fun q => put_ne _ (by decide) (h'.k10 (by simpa using q)), k11 := fun q => put_ne _ (by decide) (h'.k11 (by simpa using q)), k12 := fun q => put_ne _ (by decide) (h'.k12 (by simpa using q)), k13 := fun q => put_ne _ (by decide) (h'.k13 (by simpa using q)), bx := h'.bx, d1 := fun q => by simpa using h'.d1 (by simpa using q), d2 := fun q => by simpa using h'.d2 (by simpa using q), d3 := fun q => by simpa using h'.d3 (by simpa using q), o1 := fun q r => h'.o1 (by simpa using q) (by simpa using r), o2 := fun q r => h'.o2 (by simpa using q) (by simpa using r), o3 := fun q => h'.o3 (by simpa using q) }⟩
        | 7, ho, hLi, hK' =>
          cases ho
          have ea := (h'.off.off 6 (by decide)).trans hA6
          have kc := h'.bx.cells
          simp only [List.forall_mem_cons, List.not_mem_nil, false_implies, implies_true, and_true] at kc
          obtain ⟨yc0, yc1, yc2, yc3, yc4, yc5, yc6, yc7, yc8, yc9, yc10, yc11⟩ := kc
          go_simp
          exact hK' _ _ ⟨v1, v2, v, { off := h'.off.put (by decide) _, k0 := fun q => put_ne _ (by decide) (h'.k0 (by simpa using q)), k1 := fun q => put_ne _ (by decide) (h'.k1 (by simpa using q)), k2 := fun q => put_ne _ (by decide) (h'.k2 (by simpa using q)), k3 := fun q => put_ne _ (by decide) (h'.k3 (by simpa using q)), k4 := fun q => put_ne _ (by decide) (h'.k4 (by simpa using q)), k5 := fun q => put_ne _ (by decide) (h'.k5 (by simpa using q)), k6 := fun q => put_ne _ (by decide) (h'.k6 (by simpa using q)), k7 := fun _ => put_at _ (by have := h'.off.size; omega), k8 := fun q => put_ne _ (by decide) (h'.k8 (by simpa using q)), k9 := fun q => put_ne _ (by decide) (h'.k9 (by simpa using q)), k10 := fun q => put_ne _ (by decide) (h'.k10 (by simpa using q)), k11 := fun q => put_ne _ (by decide) (h'.k11 (by simpa using q)), k12 := fun q => put_ne _ (by decide) (h'.k12 (by simpa using q)), k13 := fun q => put_ne _ (by decide) (h'.k13 (by simpa using q)), bx := h'.bx, d1 := fun q => by simpa using h'.d1 (by simpa using q), d2 := fun q => by simpa using h'.d2 (by simpa using q), d3 := fun q => by simpa using h'.d3 (by simpa using q), o1 := fun q r => h'.o1 (by simpa using q) (by simpa using r), o2 := fun q r => h'.o2 (by simpa using q) (by simpa using r), o3 := fun q => h'.o3 (by simpa using q) }⟩
        | 8, ho, hLi, hK' =>
          cases ho
          have ea := (h'.off.off 2 (by decide)).trans hA2
          go_simp
          exact hK' _ _ ⟨v1, v2, v, { off := h'.off.put (by decide) _, k0 := fun q => put_ne _ (by decide) (h'.k0 (by simpa using q)), k1 := fun q => put_ne _ (by decide) (h'.k1 (by simpa using q)), k2 := fun q => put_ne _ (by decide) (h'.k2 (by simpa using q)), k3 := fun q => put_ne _ (by decide) (h'.k3 (by simpa using q)), k4 := fun q => put_ne _ (by decide) (h'.k4 (by simpa using q)), k5 := fun q => put_ne _ (by decide) (h'.k5 (by simpa using q)), k6 := fun q => put_ne _ (by decide) (h'.k6 (by simpa using q)), k7 := fun q => put_ne _ (by decide) (h'.k7 (by simpa using q)), k8 := fun _ => put_at _ (by have := h'.off.size; omega), k9 := fun q => put_ne _ (by decide) (h'.k9 (by simpa using q)), k10 := fun q => put_ne _ (by decide) (h'.k10 (by simpa using q)), k11 := fun q => put_ne _ (by decide) (h'.k11 (by simpa using q)), k12 := fun q => put_ne _ (by decide) (h'.k12 (by simpa using q)), k13 := fun q => put_ne _ (by decide) (h'.k13 (by simpa using q)), bx := h'.bx, d1 := fun q => by simpa using h'.d1 (by simpa using q), d2 := fun q => by simpa using h'.d2 (by simpa using q), d3 := fun q => by simpa using h'.d3 (by simpa using q), o1 := fun q r => h'.o1 (by simpa using q) (by simpa using r), o2 := fun q r => h'.o2 (by simpa using q) (by simpa using r), o3 := fun q => h'.o3 (by simpa using q) }⟩
        | 9, ho, hLi, hK' =>
          cases ho
          have ea := (h'.off.off 4 (by decide)).trans hA4
          go_simp
          exact hK' _ _ ⟨v1, v2, v, { off := h'.off.put (by decide) _, k0 := fun q => put_ne _ (by decide) (h'.k0 (by simpa using q)), k1 := fun q => put_ne _ (by decide) (h'.k1 (by simpa using q)), k2 := fun q => put_ne _ (by decide) (h'.k2 (by simpa using q)), k3 := fun q => put_ne _ (by decide) (h'.k3 (by simpa using q)), k4 := fun q => put_ne _ (by decide) (h'.k4 (by simpa using q)), k5 := fun q => put_ne _ (by decide) (h'.k5 (by simpa using q)), k6 := fun q => put_ne _ (by decide) (h'.k6 (by simpa using q)), k7 := fun q => put_ne _ (by decide) (h'.k7 (by simpa using q)), k8 := fun q => put_ne _ (by decide) (h'.k8 (by simpa using q)), k9 := fun _ => put_at _ (by have := h'.off.size; omega), k10 := fun q => put_ne _ (by decide) (h'.k10 (by simpa using q)), k11 := fun q => put_ne _ (by decide) (h'.k11 (by simpa using q)), k12 := fun q => put_ne _ (by decide) (h'.k12 (by simpa using q)), k13 := fun q => put_ne _ (by decide) (h'.k13 (by simpa using q)), bx := h'.bx, d1 := fun q => by simpa using h'.d1 (by simpa using q), d2 := fun q => by simpa using h'.d2 (by simpa using q), d3 := fun q => by simpa using h'.d3 (by simpa using q), o1 := fun q r => h'.o1 (by simpa using q) (by simpa using r), o2 := fun q r => h'.o2 (by simpa using q) (by simpa using r), o3 := fun q => h'.o3 (by simpa using q) }⟩
        | 10, ho, hLi, hK' =>
          cases ho
          have ea := h'.k9 (hdeps ⟨9, .data⟩ (by simp) (by rfl))
          have wj := wr_in (n := (j : Int) + 1) (by omega) (by omega)
          go_simp
          exact hK' _ _ ⟨v1, v2, v, { off := h'.off.put (by decide) _, k0 := fun q => put_ne _ (by decide) (h'.k0 (by simpa using q)), k1 := fun q => put_ne _ (by decide) (h'.k1 (by simpa using q)), k2 := fun q => put_ne _ (by decide) (h'.k2 (by simpa using q)), k3 := fun q => put_ne _ (by decide) (h'.k3 (by simpa using q)), k4 := fun q => put_ne _ (by decide) (h'.k4 (by simpa using q)), k5 := fun q => put_ne _ (by decide) (h'.k5 (by simpa using q)), k6 := fun q => put_ne _ (by decide) (h'.k6 (by simpa using q)), k7 := fun q => put_ne _ (by decide) (h'.k7 (by simpa using q)), k8 := fun q => put_ne _ (by decide) (h'.k8 (by simpa using q)), k9 := fun q => put_ne _ (by decide) (h'.k9 (by simpa using q)), k10 := fun _ => put_at _ (by have := h'.off.size; omega), k11 := fun q => put_ne _ (by decide) (h'.k11 (by simpa using q)), k12 := fun q => put_ne _ (by decide) (h'.k12 (by simpa using q)), k13 := fun q => put_ne _ (by decide) (h'.k13 (by simpa using q)), bx := h'.bx, d1 := fun q => by simpa using h'.d1 (by simpa using q), d2 := fun q => by simpa using h'.d2 (by simpa using q), d3 := fun q => by simpa using h'.d3 (by simpa using q), o1 := fun q r => h'.o1 (by simpa using q) (by simpa using r), o2 := fun q r => h'.o2 (by simpa using q) (by simpa using r), o3 := fun q => h'.o3 (by simpa using q) }⟩
        | 11, ho, hLi, hK' =>
          cases ho
          have h5 := hdeps ⟨5, .chain⟩ (by simp) (by rfl)
          have hc : L 12 = false := by cases hb : L 12; rfl; exact absurd (h'.d2 hb) (by simp [hLi])
          have ea := h'.k6 (hdeps ⟨6, .data⟩ (by simp) (by rfl))
          have eb := h'.k7 (hdeps ⟨7, .data⟩ (by simp) (by rfl))
          have ec := h'.k8 (hdeps ⟨8, .data⟩ (by simp) (by rfl))
          have ed := h'.k10 (hdeps ⟨10, .data⟩ (by simp) (by rfl))
          go_simp
          refine (IH2 _).out.mono ?_
          rintro e w2 ⟨v2, rfl, ho2, hb⟩
          exact hK' _ _ ⟨v1, v2, v, { off := h'.off.put (by decide) _, k0 := fun q => put_ne _ (by decide) (h'.k0 (by simpa using q)), k1 := fun q => put_ne _ (by decide) (h'.k1 (by simpa using q)), k2 := fun q => put_ne _ (by decide) (h'.k2 (by simpa using q)), k3 := fun q => put_ne _ (by decide) (h'.k3 (by simpa using q)), k4 := fun q => put_ne _ (by decide) (h'.k4 (by simpa using q)), k5 := fun q => put_ne _ (by decide) (h'.k5 (by simpa using q)), k6 := fun q => put_ne _ (by decide) (h'.k6 (by simpa using q)), k7 := fun q => put_ne _ (by decide) (h'.k7 (by simpa using q)), k8 := fun q => put_ne _ (by decide) (h'.k8 (by simpa using q)), k9 := fun q => put_ne _ (by decide) (h'.k9 (by simpa using q)), k10 := fun q => put_ne _ (by decide) (h'.k10 (by simpa using q)), k11 := fun _ => put_at _ (by have := h'.off.size; omega), k12 := fun q => absurd (h'.d2 (by simpa using q)) (by simp [hLi]), k13 := fun q => put_ne _ (by decide) (h'.k13 (by simpa using q)), bx := h'.bx.next hb, d1 := fun _ => by simpa using h5, d2 := fun _ => by simp, d3 := fun q => by simpa using h'.d3 (by simpa using q), o1 := fun _ r => ownsRow_nx (h'.o1 h5 (by simpa using r)) hb, o2 := fun _ _ => ⟨row_le ho2 h'.bx.lt, ne_of_rows (h'.o1 h5 hc) (by omega) ho2⟩, o3 := fun q => absurd (h'.d2 (by simpa using q)) (by simp [hLi]) }⟩
        | 12, ho, hLi, hK' =>
          cases ho
          have h5 := (hdeps ⟨5, .data⟩ (by simp) (by rfl))
          have h11 := (hdeps ⟨11, .data⟩ (by simp) (by rfl))
          have ea := eval_of (h'.k5 h5)
          have eb := eval_of (h'.k11 h11)
          have o1 := h'.o1 h5 hLi
          obtain ⟨o2, hne⟩ := h'.o2 h11 hLi
          obtain ⟨g2, c2, rfl, hg2, hg3⟩ := o2.form (by omega)
          refine wp_append_lies wx (.tmp 37) (.tmp 43) 30 rfl (g + 1) 34 i0 (.agg #[.int .i64 0, .int .i64 0, .int .i64 0, .int .i64 0]) 4 32 Try.underlying30 hi hz0 hz1 hz2 rfl (by decide) v1 _ _ ea o1 ⟨g2, 0, none⟩ l2.length c2 (l2.flatMap spc) eb (flat_len l2) (o2.cells rfl) (spc_one l2) (by omega) (by unfold maxLen; omega) (by omega) h'.bx.lt wx.heap.size rfl ?_
          intro g' cap' w' hown hgrow hat hlt
          exact hK' _ _ ⟨v1, _, .slice (some ⟨g', 0, none⟩) (l1.length + l2.length) cap', { off := h'.off.put (by decide) _, k0 := fun q => put_ne _ (by decide) (h'.k0 (by simpa using q)), k1 := fun q => put_ne _ (by decide) (h'.k1 (by simpa using q)), k2 := fun q => put_ne _ (by decide) (h'.k2 (by simpa using q)), k3 := fun q => put_ne _ (by decide) (h'.k3 (by simpa using q)), k4 := fun q => put_ne _ (by decide) (h'.k4 (by simpa using q)), k5 := fun q => put_ne _ (by decide) (h'.k5 (by simpa using q)), k6 := fun q => put_ne _ (by decide) (h'.k6 (by simpa using q)), k7 := fun q => put_ne _ (by decide) (h'.k7 (by simpa using q)), k8 := fun q => put_ne _ (by decide) (h'.k8 (by simpa using q)), k9 := fun q => put_ne _ (by decide) (h'.k9 (by simpa using q)), k10 := fun q => put_ne _ (by decide) (h'.k10 (by simpa using q)), k11 := fun q => put_ne _ (by decide) (h'.k11 (by simpa using q)), k12 := fun _ => put_at _ (by have := h'.off.size; omega), k13 := fun q => absurd (h'.d3 (by simpa using q)) (by simp [hLi]), bx := h'.bx.row hgrow (fun q e => (o1.lt q e).1), d1 := fun q => by simpa using h'.d1 (by simpa using q), d2 := fun _ => by simpa using h11, d3 := fun _ => by simp, o1 := fun _ q => by simp at q, o2 := fun _ q => by simp at q, o3 := fun _ => hown }⟩
        | 13, ho, hLi, hK' =>
          cases ho
          have ea := h'.k12 (hdeps ⟨12, .data⟩ (by simp) (by rfl))
          go_simp
          exact hK' _ _ ⟨v1, v2, v, { off := h'.off.put (by decide) _, k0 := fun q => put_ne _ (by decide) (h'.k0 (by simpa using q)), k1 := fun q => put_ne _ (by decide) (h'.k1 (by simpa using q)), k2 := fun q => put_ne _ (by decide) (h'.k2 (by simpa using q)), k3 := fun q => put_ne _ (by decide) (h'.k3 (by simpa using q)), k4 := fun q => put_ne _ (by decide) (h'.k4 (by simpa using q)), k5 := fun q => put_ne _ (by decide) (h'.k5 (by simpa using q)), k6 := fun q => put_ne _ (by decide) (h'.k6 (by simpa using q)), k7 := fun q => put_ne _ (by decide) (h'.k7 (by simpa using q)), k8 := fun q => put_ne _ (by decide) (h'.k8 (by simpa using q)), k9 := fun q => put_ne _ (by decide) (h'.k9 (by simpa using q)), k10 := fun q => put_ne _ (by decide) (h'.k10 (by simpa using q)), k11 := fun q => put_ne _ (by decide) (h'.k11 (by simpa using q)), k12 := fun q => put_ne _ (by decide) (h'.k12 (by simpa using q)), k13 := fun _ => put_at _ (by have := h'.off.size; omega), bx := h'.bx, d1 := fun q => by simpa using h'.d1 (by simpa using q), d2 := fun q => by simpa using h'.d2 (by simpa using q), d3 := fun _ => by simpa using hdeps ⟨12, .data⟩ (by simp) (by rfl), o1 := fun q r => h'.o1 (by simpa using q) (by simpa using r), o2 := fun q r => h'.o2 (by simpa using q) (by simpa using r), o3 := fun q => h'.o3 (by simpa using q) }⟩
        | i + 14, ho, hLi, hK' => cases ho
      · intro L a wx hI hall
        obtain ⟨v1, v2, v, h'⟩ := hI
        have hfr := h'.off.rebuild (fun d => if d = 32 then .agg #[.int .i64 aU, .int .i64 aW, .int .i64 aR, .int .i64 aH] else if d = 33 then .agg #[.int .i64 mU, .int .i64 mW, .int .i64 mR, .int .i64 mH] else if d = 34 then .int .i64 dir else if d = 35 then .int .i64 (j : Int) else if d = 36 then .int .i64 ((j : Int) + 1) else if d = 37 then v1 else if d = 38 then .agg #[.int .i64 mU, .int .i64 mW, .int .i64 mR, .int .i64 mH] else if d = 39 then .agg #[.int .i64 bU, .int .i64 bW, .int .i64 bR, .int .i64 bH] else if d = 40 then .int .i64 dir else if d = 41 then .int .i64 (j : Int) else if d = 42 then .int .i64 ((j : Int) + 1) else if d = 43 then v2 else if d = 44 then v else if d = 10 then v else undef) (by
          intro d hd
          simp only [List.mem_cons, List.not_mem_nil, or_false] at hd
          rcases hd with rfl | rfl | rfl | rfl | rfl | rfl | rfl | rfl | rfl | rfl | rfl | rfl | rfl | rfl
          · exact h'.k0 (hall 0 (by decide))
          · exact h'.k1 (hall 1 (by decide))
          · exact h'.k2 (hall 2 (by decide))
          · exact h'.k3 (hall 3 (by decide))
          · exact h'.k4 (hall 4 (by decide))
          · exact h'.k5 (hall 5 (by decide))
          · exact h'.k6 (hall 6 (by decide))
          · exact h'.k7 (hall 7 (by decide))
          · exact h'.k8 (hall 8 (by decide))
          · exact h'.k9 (hall 9 (by decide))
          · exact h'.k10 (hall 10 (by decide))
          · exact h'.k11 (hall 11 (by decide))
          · exact h'.k12 (hall 12 (by decide))
          · exact h'.k13 (hall 13 (by decide))
          )
        simp only [List.foldl_cons, List.foldl_nil] at hfr
        rw [← HA.out] at hfr
        have hO := h'.o3 (hall 12 (by decide))
        have hB := h'.bx.be
        have hL := h'.bx.le
        rw [hfr]
        clear hfr h' hall HA hA2 hA4 hA5 hA6 hA11 hsz
        simp [Act.put]
        go_wp2_with fail
        go_ret
        exact ⟨v, rfl, by rw [List.length_append, List.flatMap_append]; exact row_le hO hL, hB⟩
end Go.Proofs.Ytkjjoclbjkpdaaa
