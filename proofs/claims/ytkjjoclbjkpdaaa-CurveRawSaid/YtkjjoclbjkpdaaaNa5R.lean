/- Proved here: piece of the program appends the spokes of a piece, at any number of halvings; ranges as stated. -/
import Derived.Test.YtkjjoclbjkpdaaaNa4R
import Derived.BigQuiet
namespace Go.Proofs.Ytkjjoclbjkpdaaa
open Go.RowKit
set_option linter.unusedVariables false
set_option linter.unusedSimpArgs false
/-- m, ok := Middle(a, b, c.dir, full), by what has been carried out -/
structure MiI (cb : Nat) (dir : Int) (B : Nat) (v : Value) (n : Nat) (xs : List Value) (full : Bool) (aU aW aR aH bU bW bR bH mU mW mR mH : Int) (w0 : World) (A : Act) (g : Nat) (L : Nat → Bool) (a : Act) (w : World) : Prop where
  off : OffOf [23, 24, 25, 26, 27, 28, 29, 30, 22, 31, 32, 10, 11] A a
  k0 : L 0 = true → a.tmps[23]? = some (.agg #[.int .i64 aU, .int .i64 aW, .int .i64 aR, .int .i64 aH])
  k1 : L 1 = true → a.tmps[24]? = some (.agg #[.int .i64 bU, .int .i64 bW, .int .i64 bR, .int .i64 bH])
  k2 : L 2 = true → a.tmps[25]? = some (.pointer (some ⟨cb, 0, none⟩))
  k3 : L 3 = true → a.tmps[26]? = some (.pointer (some ⟨cb, 0, none⟩))
  k4 : L 4 = true → a.tmps[27]? = some (.pointer (some ⟨cb, 0, none⟩))
  k5 : L 5 = true → a.tmps[28]? = some (.int .i64 dir)
  k6 : L 6 = true → a.tmps[29]? = some (.bool full)
  k7 : L 7 = true → a.tmps[30]? = some (.tuple #[.agg #[.int .i64 mU, .int .i64 mW, .int .i64 mR, .int .i64 mH], .bool true])
  k8 : L 8 = true → a.tmps[22]? = some (.tuple #[.agg #[.int .i64 mU, .int .i64 mW, .int .i64 mR, .int .i64 mH], .bool true])
  k9 : L 9 = true → a.tmps[31]? = some (.agg #[.int .i64 mU, .int .i64 mW, .int .i64 mR, .int .i64 mH])
  k10 : L 10 = true → a.tmps[32]? = some (.bool true)
  k11 : L 11 = true → a.tmps[10]? = some (.pointer (some ⟨g, 0, none⟩))
  k13 : L 13 = true → a.tmps[11]? = some (.bool true)
  chg : Chg cb v w0 w
  bx : Lf 0 (w0.heap.size + 1 + 1) [(⟨w0.heap.size, 0, none⟩, .int .i64 aU), (⟨w0.heap.size, 1, none⟩, .int .i64 aW), (⟨w0.heap.size, 2, none⟩, .int .i64 aR), (⟨w0.heap.size, 3, none⟩, .int .i64 aH), (⟨w0.heap.size + 1, 0, none⟩, .int .i64 bU), (⟨w0.heap.size + 1, 1, none⟩, .int .i64 bW), (⟨w0.heap.size + 1, 2, none⟩, .int .i64 bR), (⟨w0.heap.size + 1, 3, none⟩, .int .i64 bH)] w0 w
  cu : Cu cb dir B v n xs w
  gn : L 11 = true → w0.heap.size + 1 + 1 ≤ g ∧ Row g 4 0 (fun i => .int .i64 (cq mU mW mR mH i)) w
  gs : L 12 = true → Row g 4 4 (fun i => .int .i64 (cq mU mW mR mH i)) w
  gd : L 12 = true → L 11 = true
theorem lf_four {B N : Nat} {cs : List (Addr × Value)} {w0 w : World} {g : Nat} {x0 x1 x2 x3 : Int} (h : Lf B N cs w0 w) (r : Row g 4 4 (fun i => .int .i64 (cq x0 x1 x2 x3 i)) w) :
    Lf B w.heap.size ((⟨g, 0, none⟩, .int .i64 x0) :: (⟨g, 1, none⟩, .int .i64 x1) :: (⟨g, 2, none⟩, .int .i64 x2) :: (⟨g, 3, none⟩, .int .i64 x3) :: cs) w0 w := by
  refine ⟨?_, ?_, ?_, Nat.le_refl _, h.be, Nat.le_trans h.le h.lt⟩
  · simp only [List.forall_mem_cons]
    exact ⟨r.cell 0 (by decide), r.cell 1 (by decide), r.cell 2 (by decide), r.cell 3 (by decide), h.cells⟩
  · simp only [List.forall_mem_cons]
    exact ⟨r.frz 0 (by decide), r.frz 1 (by decide), r.frz 2 (by decide), r.frz 3 (by decide), h.frz⟩
  · simp only [List.forall_mem_cons]
    exact ⟨r.lt, r.lt, r.lt, r.lt, fun p hp => Nat.lt_of_lt_of_le (h.inn p hp) h.lt⟩
set_option maxHeartbeats 16000000 in
set_option maxRecDepth 20000 in
theorem pieceP_any {lo hi hl hh : Int} (bn : Bnd lo hi hl hh) (cb : Nat) (dir : Int) (hd : dir = 1 ∨ dir = -1) (B : Nat) : ∀ (k j : Nat), j + k = 16 → ∀ (full : Bool) (aU aW aR aH bU bW bR bH : Int) (v : Value) (n : Nat) (xs : List Value) (w : World), n + 2 ^ k ≤ 1000000 → Gd lo hi hl hh (⟨aU, aW, aR, aH⟩ : Spk) → Gd lo hi hl hh (⟨bU, bW, bR, bH⟩ : Spk) → Cu cb dir B v n xs w →
    Calls Try.prog 34 #[.pointer (some ⟨cb, 0, none⟩), .agg #[.int .i64 aU, .int .i64 aW, .int .i64 aR, .int .i64 aH], .agg #[.int .i64 bU, .int .i64 bW, .int .i64 bR, .int .i64 bH], .bool full, .int .i64 (j : Int)] w (PieceP cb dir B v n xs (pcs dir k full (⟨aU, aW, aR, aH⟩ : Spk) (⟨bU, bW, bR, bH⟩ : Spk)) w) := by
  intro k
  induction k with
  | zero =>
    intro j hj full aU aW aR aH bU bW bR bH v n xs w hn ga gb hC
    obtain rfl : j = 16 := by omega
    exact pieceP_zero cb dir B v n xs aU aW aR aH bU bW bR bH full w (by omega) hC
  | succ k ihk =>
    intro j hj full aU aW aR aH bU bW bR bH v n xs w hn ga gb hC
    have ih := ihk (j + 1) (by omega)
    have hp : 2 ^ (k + 1) = 2 ^ k + 2 ^ k := by rw [Nat.pow_succ]; omega
    have gm := mdS_gd full ga gb bn hd
    have MI := (mid_gd dir full (⟨aU, aW, aR, aH⟩ : Spk) (⟨bU, bW, bR, bH⟩ : Spk) ga gb bn hd).1
    have sa := ga.sp bn
    have sb := gb.sp bn
    have HP : Hid (pcs dir (k + 1) full (⟨aU, aW, aR, aH⟩ : Spk) (⟨bU, bW, bR, bH⟩ : Spk) = if stl dir full (⟨aU, aW, aR, aH⟩ : Spk) (⟨bU, bW, bR, bH⟩ : Spk) then [(⟨bU, bW, bR, bH⟩ : Spk)] else pcs dir k false (⟨aU, aW, aR, aH⟩ : Spk) (mdS dir full (⟨aU, aW, aR, aH⟩ : Spk) (⟨bU, bW, bR, bH⟩ : Spk)) ++ pcs dir k false (mdS dir full (⟨aU, aW, aR, aH⟩ : Spk) (⟨bU, bW, bR, bH⟩ : Spk)) (⟨bU, bW, bR, bH⟩ : Spk)) := rfl
    have ST := fun (w : World) h1 h2 h3 => Lib.hid (settledP_any cb aU aW aR aH bU bW bR bH dir full w sa sb hd h1 h2 h3)
    generalize pcs dir (k + 1) full (⟨aU, aW, aR, aH⟩ : Spk) (⟨bU, bW, bR, bH⟩ : Spk) = PL at *
    generalize mdS dir full (⟨aU, aW, aR, aH⟩ : Spk) (⟨bU, bW, bR, bH⟩ : Spk) = ms at *
    obtain ⟨mU, mW, mR, mH⟩ := ms
    simp only at MI
    have hbs := hC.ownLt
    have hcl := hC.lt
    have hj16 : (j : Int) < 16 := by omega
    have hdec : decide ((j : Int) < 16) = true := decide_eq_true hj16
    have hK : Chg cb v w ((w.alloc (.cells #[.int .i64 aU, .int .i64 aW, .int .i64 aR, .int .i64 aH] 34)).alloc (.cells #[.int .i64 bU, .int .i64 bW, .int .i64 bR, .int .i64 bH] 34)) := ((Chg.refl cb v w).next ((Below.refl _ _).alloc (Nat.le_refl _) _)).next ((Below.refl _ _).alloc (Nat.le_refl _) _)
    have hC2 := (hC.next ((Below.refl _ _).alloc (Nat.le_refl _) (.cells #[.int .i64 aU, .int .i64 aW, .int .i64 aR, .int .i64 aH] 34))).next ((Below.refl _ _).alloc (Nat.le_refl _) (.cells #[.int .i64 bU, .int .i64 bW, .int .i64 bR, .int .i64 bH] 34))
    have hT : Lf 0 (w.heap.size + 1 + 1) [(⟨w.heap.size, 0, none⟩, .int .i64 aU), (⟨w.heap.size, 1, none⟩, .int .i64 aW), (⟨w.heap.size, 2, none⟩, .int .i64 aR), (⟨w.heap.size, 3, none⟩, .int .i64 aH), (⟨w.heap.size + 1, 0, none⟩, .int .i64 bU), (⟨w.heap.size + 1, 1, none⟩, .int .i64 bW), (⟨w.heap.size + 1, 2, none⟩, .int .i64 bR), (⟨w.heap.size + 1, 3, none⟩, .int .i64 bH)] w ((w.alloc (.cells #[.int .i64 aU, .int .i64 aW, .int .i64 aR, .int .i64 aH] 34)).alloc (.cells #[.int .i64 bU, .int .i64 bW, .int .i64 bR, .int .i64 bH] 34)) := ⟨by simp [List.forall_mem_cons, go_sem], by simp [List.forall_mem_cons, go_sem], by simp [List.forall_mem_cons] <;> omega, by simp, by (repeat (first | exact Below.refl _ _ | refine Below.alloc ?_ (by simp <;> omega) _)), by omega⟩
    clear hC
    obtain ⟨i0, hi, hz0, hz1, hz2⟩ := info_parts infoSp
    obtain ⟨N, hN⟩ : ∃ N, n + 2 ^ (k + 1) = N := ⟨_, rfl⟩
    have hnn : n ≤ 1000000 := by have := Nat.pow_pos (n := k + 1) (show 0 < 2 by decide); omega
    cases hG : stl dir full (⟨aU, aW, aR, aH⟩ : Spk) (⟨bU, bW, bR, bH⟩ : Spk)
    rotate_left
    · rw [hG] at ST
      have HP : PL = [(⟨bU, bW, bR, bH⟩ : Spk)] := by rw [HP.out, hG]; rfl
      subst HP
      clear hG MI ih gm hp ga gb hn hN
      go_enter Try.func34, Try.ntmps34
      go_wp2_with fail
      refine (ST _ hC2.dc hC2.df hC2.lt).out.mono ?_
      rintro e wr ⟨rfl, hb1⟩
      have hC := hC2.next hb1
      have hK := hK.next hb1
      have hT := hT.next hb1
      clear hC2 hb1 ST sa sb
      go_upto_region 6 with fail
      generalize hA : (Act.mk _ _) = A
      have hsz : A.tmps.size = 56 := by rw [← hA]; rfl
      have hA0 : A.tmps[0]? = some (.pointer (some ⟨cb, 0, none⟩)) := by rw [← hA]; rfl
      have hA7 : A.tmps[7]? = some (.pointer (some ⟨w.heap.size + 1, 0, none⟩)) := by rw [← hA]; rfl
      have HA := Lib.hid hA
      clear hA
      refine wp_region_inv (fun L a wx => ∃ h g cap, ApI cb dir B v n xs aU aW aR aH bU bW bR bH w A h g cap L a wx) (by kernel_rfl) (by kernel_rfl) ?_ ?_ ?_
      · have hD := (Below.refl wr.heap.size wr).drew
        exact ⟨0, 0, 0, by constructor <;> first | exact OffOf.refl _ _ | exact hK.next hD | exact hT.next hD | (intro _; exact hC.next hD) | (intro h; exact nomatch h) | (intro h h'; exact nomatch h)⟩
      · intro i o ho L a wx hI hLi hdeps K hK'
        obtain ⟨h, g, cap, h'⟩ := hI
        match i, ho, hLi, hK' with
        | 0, ho, hLi, hK' =>
          cases ho
          have ea := (h'.off.off 0 (by decide)).trans hA0
          go_simp
          exact hK' _ _ ⟨h, g, cap, { off := h'.off.put (by decide) _, k0 := fun _ => put_at _ (by have := h'.off.size; omega), k1 := fun q => put_ne _ (by decide) (h'.k1 (by simpa using q)), k2 := fun q => put_ne _ (by decide) (h'.k2 (by simpa using q)), k3 := fun q => put_ne _ (by decide) (h'.k3 (by simpa using q)), k4 := fun q => put_ne _ (by decide) (h'.k4 (by simpa using q)), k5 := fun q => put_ne _ (by decide) (h'.k5 (by simpa using q)), k6 := fun q => put_ne _ (by decide) (h'.k6 (by simpa using q)), k7 := fun q => put_ne _ (by decide) (h'.k7 (by simpa using q)), k8 := fun q => put_ne _ (by decide) (h'.k8 (by simpa using q)), k9 := fun q => put_ne _ (by decide) (h'.k9 (by simpa using q)), d76 := fun q => by simpa using h'.d76 (by simpa using q), d74 := fun q => by simpa using h'.d74 (by simpa using q), dA7 := fun q => by simpa using h'.dA7 (by simpa using q), chg := h'.chg, bx := h'.bx, cu := fun q => h'.cu (by simpa using q), nw := fun q r => h'.nw (by simpa using q) (by simpa using r), mid := fun q => h'.mid (by simpa using q), fin := fun q => h'.fin (by simpa using q) }⟩
        | 1, ho, hLi, hK' =>
          cases ho
          have ea := (h'.off.off 0 (by decide)).trans hA0
          go_simp
          exact hK' _ _ ⟨h, g, cap, { off := h'.off.put (by decide) _, k0 := fun q => put_ne _ (by decide) (h'.k0 (by simpa using q)), k1 := fun _ => put_at _ (by have := h'.off.size; omega), k2 := fun q => put_ne _ (by decide) (h'.k2 (by simpa using q)), k3 := fun q => put_ne _ (by decide) (h'.k3 (by simpa using q)), k4 := fun q => put_ne _ (by decide) (h'.k4 (by simpa using q)), k5 := fun q => put_ne _ (by decide) (h'.k5 (by simpa using q)), k6 := fun q => put_ne _ (by decide) (h'.k6 (by simpa using q)), k7 := fun q => put_ne _ (by decide) (h'.k7 (by simpa using q)), k8 := fun q => put_ne _ (by decide) (h'.k8 (by simpa using q)), k9 := fun q => put_ne _ (by decide) (h'.k9 (by simpa using q)), d76 := fun q => by simpa using h'.d76 (by simpa using q), d74 := fun q => by simpa using h'.d74 (by simpa using q), dA7 := fun q => by simpa using h'.dA7 (by simpa using q), chg := h'.chg, bx := h'.bx, cu := fun q => h'.cu (by simpa using q), nw := fun q r => h'.nw (by simpa using q) (by simpa using r), mid := fun q => h'.mid (by simpa using q), fin := fun q => h'.fin (by simpa using q) }⟩
        | 2, ho, hLi, hK' =>
          cases ho
          have ea := h'.k1 (hdeps ⟨1, .data⟩ (by simp) (by rfl))
          go_simp
          exact hK' _ _ ⟨h, g, cap, { off := h'.off.put (by decide) _, k0 := fun q => put_ne _ (by decide) (h'.k0 (by simpa using q)), k1 := fun q => put_ne _ (by decide) (h'.k1 (by simpa using q)), k2 := fun _ => put_at _ (by have := h'.off.size; omega), k3 := fun q => put_ne _ (by decide) (h'.k3 (by simpa using q)), k4 := fun q => put_ne _ (by decide) (h'.k4 (by simpa using q)), k5 := fun q => put_ne _ (by decide) (h'.k5 (by simpa using q)), k6 := fun q => put_ne _ (by decide) (h'.k6 (by simpa using q)), k7 := fun q => put_ne _ (by decide) (h'.k7 (by simpa using q)), k8 := fun q => put_ne _ (by decide) (h'.k8 (by simpa using q)), k9 := fun q => put_ne _ (by decide) (h'.k9 (by simpa using q)), d76 := fun q => by simpa using h'.d76 (by simpa using q), d74 := fun q => by simpa using h'.d74 (by simpa using q), dA7 := fun q => by simpa using h'.dA7 (by simpa using q), chg := h'.chg, bx := h'.bx, cu := fun q => h'.cu (by simpa using q), nw := fun q r => h'.nw (by simpa using q) (by simpa using r), mid := fun q => h'.mid (by simpa using q), fin := fun q => h'.fin (by simpa using q) }⟩
        | 3, ho, hLi, hK' =>
          cases ho
          have ea := h'.k2 (hdeps ⟨2, .data⟩ (by simp) (by rfl))
          go_simp
          exact hK' _ _ ⟨h, g, cap, { off := h'.off.put (by decide) _, k0 := fun q => put_ne _ (by decide) (h'.k0 (by simpa using q)), k1 := fun q => put_ne _ (by decide) (h'.k1 (by simpa using q)), k2 := fun q => put_ne _ (by decide) (h'.k2 (by simpa using q)), k3 := fun _ => put_at _ (by have := h'.off.size; omega), k4 := fun q => put_ne _ (by decide) (h'.k4 (by simpa using q)), k5 := fun q => put_ne _ (by decide) (h'.k5 (by simpa using q)), k6 := fun q => put_ne _ (by decide) (h'.k6 (by simpa using q)), k7 := fun q => put_ne _ (by decide) (h'.k7 (by simpa using q)), k8 := fun q => put_ne _ (by decide) (h'.k8 (by simpa using q)), k9 := fun q => put_ne _ (by decide) (h'.k9 (by simpa using q)), d76 := fun q => by simpa using h'.d76 (by simpa using q), d74 := fun q => by simpa using h'.d74 (by simpa using q), dA7 := fun q => by simpa using h'.dA7 (by simpa using q), chg := h'.chg, bx := h'.bx, cu := fun q => h'.cu (by simpa using q), nw := fun q r => h'.nw (by simpa using q) (by simpa using r), mid := fun q => h'.mid (by simpa using q), fin := fun q => h'.fin (by simpa using q) }⟩
        | 4, ho, hLi, hK' =>
          cases ho
          have ea := h'.k3 (hdeps ⟨3, .data⟩ (by simp) (by rfl))
          have hc7 : L 7 = false := by cases hb : L 7; rfl; exact absurd (h'.d74 hb) (by simp [hLi])
          have eo := (h'.cu hc7).oc
          go_simp
          exact hK' _ _ ⟨h, g, cap, { off := h'.off.put (by decide) _, k0 := fun q => put_ne _ (by decide) (h'.k0 (by simpa using q)), k1 := fun q => put_ne _ (by decide) (h'.k1 (by simpa using q)), k2 := fun q => put_ne _ (by decide) (h'.k2 (by simpa using q)), k3 := fun q => put_ne _ (by decide) (h'.k3 (by simpa using q)), k4 := fun _ => put_at _ (by have := h'.off.size; omega), k5 := fun q => put_ne _ (by decide) (h'.k5 (by simpa using q)), k6 := fun q => put_ne _ (by decide) (h'.k6 (by simpa using q)), k7 := fun q => put_ne _ (by decide) (h'.k7 (by simpa using q)), k8 := fun q => put_ne _ (by decide) (h'.k8 (by simpa using q)), k9 := fun q => put_ne _ (by decide) (h'.k9 (by simpa using q)), d76 := fun q => by simpa using h'.d76 (by simpa using q), d74 := fun _ => by simp, dA7 := fun q => by simpa using h'.dA7 (by simpa using q), chg := h'.chg, bx := h'.bx, cu := fun q => h'.cu (by simpa using q), nw := fun q r => h'.nw (by simpa using q) (by simpa using r), mid := fun q => h'.mid (by simpa using q), fin := fun q => h'.fin (by simpa using q) }⟩
        | 5, ho, hLi, hK' =>
          cases ho
          have ea := (h'.off.off 7 (by decide)).trans hA7
          have kc := h'.bx.cells
          simp only [List.forall_mem_cons, List.not_mem_nil, false_implies, implies_true, and_true] at kc
          obtain ⟨yc0, yc1, yc2, yc3, yc4, yc5, yc6, yc7⟩ := kc
          go_simp
          exact hK' _ _ ⟨h, g, cap, { off := h'.off.put (by decide) _, k0 := fun q => put_ne _ (by decide) (h'.k0 (by simpa using q)), k1 := fun q => put_ne _ (by decide) (h'.k1 (by simpa using q)), k2 := fun q => put_ne _ (by decide) (h'.k2 (by simpa using q)), k3 := fun q => put_ne _ (by decide) (h'.k3 (by simpa using q)), k4 := fun q => put_ne _ (by decide) (h'.k4 (by simpa using q)), k5 := fun _ => put_at _ (by have := h'.off.size; omega), k6 := fun q => put_ne _ (by decide) (h'.k6 (by simpa using q)), k7 := fun q => put_ne _ (by decide) (h'.k7 (by simpa using q)), k8 := fun q => put_ne _ (by decide) (h'.k8 (by simpa using q)), k9 := fun q => put_ne _ (by decide) (h'.k9 (by simpa using q)), d76 := fun q => by simpa using h'.d76 (by simpa using q), d74 := fun q => by simpa using h'.d74 (by simpa using q), dA7 := fun q => by simpa using h'.dA7 (by simpa using q), chg := h'.chg, bx := h'.bx, cu := fun q => h'.cu (by simpa using q), nw := fun q r => h'.nw (by simpa using q) (by simpa using r), mid := fun q => h'.mid (by simpa using q), fin := fun q => h'.fin (by simpa using q) }⟩
        | 6, ho, hLi, hK' =>
          cases ho
          have hc7 : L 7 = false := by cases hb : L 7; rfl; exact absurd (h'.d76 hb) (by simp [hLi])
          have ea := h'.k5 (hdeps ⟨5, .data⟩ (by simp) (by rfl))
          go_simp
          exact hK' _ _ ⟨wx.heap.size, g, cap, { off := h'.off.put (by decide) _, k0 := fun q => put_ne _ (by decide) (h'.k0 (by simpa using q)), k1 := fun q => put_ne _ (by decide) (h'.k1 (by simpa using q)), k2 := fun q => put_ne _ (by decide) (h'.k2 (by simpa using q)), k3 := fun q => put_ne _ (by decide) (h'.k3 (by simpa using q)), k4 := fun q => put_ne _ (by decide) (h'.k4 (by simpa using q)), k5 := fun q => put_ne _ (by decide) (h'.k5 (by simpa using q)), k6 := fun _ => put_at _ (by have := h'.off.size; omega), k7 := fun q => put_ne _ (by decide) (h'.k7 (by simpa using q)), k8 := fun q => put_ne _ (by decide) (h'.k8 (by simpa using q)), k9 := fun q => put_ne _ (by decide) (h'.k9 (by simpa using q)), d76 := fun q => by simp, d74 := fun q => by simpa using h'.d74 (by simpa using q), dA7 := fun q => by simpa using h'.dA7 (by simpa using q), chg := h'.chg.next ((Below.refl _ _).alloc (Nat.le_refl _) _), bx := h'.bx.next ((Below.refl _ _).alloc (Nat.le_refl _) _), cu := fun q => (h'.cu (by simpa using q)).next ((Below.refl _ _).alloc (Nat.le_refl _) _), nw := fun _ _ => ⟨news4 _ _ _ _ _ _, h'.chg.size, by simp⟩, mid := fun q => absurd (show L 7 = true by simpa using q) (by simp [hc7]), fin := fun q => absurd (h'.dA7 (by simpa using q)) (by simp [hc7]) }⟩
        | 7, ho, hLi, hK' =>
          cases ho
          have h6 := hdeps ⟨6, .data⟩ (by simp) (by rfl)
          have ea := eval_of (h'.k4 (hdeps ⟨4, .data⟩ (by simp) (by rfl)))
          have eb := eval_of (h'.k6 h6)
          have hcu := h'.cu hLi
          obtain ⟨hnew, hh0, hh1⟩ := h'.nw h6 hLi
          refine wp_append_lies wx (.tmp 50) (.tmp 52) 30 rfl B 34 i0 (.agg #[.int .i64 0, .int .i64 0, .int .i64 0, .int .i64 0]) 4 32 Try.underlying30 hi hz0 hz1 hz2 rfl (by decide) v n xs ea hcu.own ⟨h, 0, none⟩ 1 1 (spc (⟨bU, bW, bR, bH⟩ : Spk)) eb rfl hnew (by intro u hu; simp [spc] at hu; rcases hu with rfl | rfl | rfl | rfl <;> rfl) (by decide) (by unfold maxLen; omega) (by omega) (Nat.le_of_lt (Nat.lt_of_le_of_lt hcu.hb hcu.lt)) wx.heap.size rfl ?_
          intro g' cap' w' hown hgrow hat hlt
          have hgcb : g' ≠ cb := by
            rintro rfl
            rcases hat with e | e
            · exact hcu.ne e
            · have := hcu.lt; omega
          have hbc : w'.heap[cb]? = wx.heap[cb]? := hgrow.block cb hcu.lt (fun e => hcu.ne e.symm)
          have cc : ∀ {j : Nat} (x : Value), wx.cell? ⟨cb, j, none⟩ = some x → w'.cell? ⟨cb, j, none⟩ = some x := fun x e => (World.cell?_of_block (a := ⟨cb, _, none⟩) hbc).trans e
          have cf : ∀ {j : Nat} (x : Bool), wx.frozen? ⟨cb, j, none⟩ = x → w'.frozen? ⟨cb, j, none⟩ = x := fun x e => (World.frozen?_of_block (a := ⟨cb, _, none⟩) hbc).trans e
          exact hK' _ _ ⟨h, g', cap', { off := h'.off.put (by decide) _, k0 := fun q => put_ne _ (by decide) (h'.k0 (by simpa using q)), k1 := fun q => put_ne _ (by decide) (h'.k1 (by simpa using q)), k2 := fun q => put_ne _ (by decide) (h'.k2 (by simpa using q)), k3 := fun q => put_ne _ (by decide) (h'.k3 (by simpa using q)), k4 := fun q => put_ne _ (by decide) (h'.k4 (by simpa using q)), k5 := fun q => put_ne _ (by decide) (h'.k5 (by simpa using q)), k6 := fun q => put_ne _ (by decide) (h'.k6 (by simpa using q)), k7 := fun _ => put_at _ (by have := h'.off.size; omega), k8 := fun q => put_ne _ (by decide) (h'.k8 (by simpa using q)), k9 := fun q => put_ne _ (by decide) (h'.k9 (by simpa using q)), d76 := fun _ => by simpa using h6, d74 := fun _ => by simpa using hdeps ⟨4, .data⟩ (by simp) (by rfl), dA7 := fun _ => by simp, chg := h'.chg.grown hgrow, bx := h'.bx.chg ((Chg.refl cb v wx).grown hgrow) (by intro q hq; simp only [List.mem_cons, List.not_mem_nil, or_false] at hq; rcases hq with rfl | rfl | rfl | rfl | rfl | rfl | rfl | rfl <;> (simp <;> omega)) (by intro q hq; simp only [List.mem_cons, List.not_mem_nil, or_false] at hq; rcases hq with rfl | rfl | rfl | rfl | rfl | rfl | rfl | rfl <;> (intro e; have := hbs _ e; simp at this <;> omega)) (Nat.zero_le _) (fun _ _ => Nat.zero_le _), cu := fun q => by simp at q, nw := fun _ q => by simp at q, mid := fun _ => ⟨hown, hat.imp_right (fun e => by rw [e]; exact h'.chg.size), hgcb, cc _ hcu.dc, cf _ hcu.df, ⟨_, cc _ hcu.oc⟩, cf _ hcu.fo, hcu.hb, Nat.lt_of_lt_of_le hcu.lt hgrow.size⟩, fin := fun q => absurd (h'.dA7 (by simpa using q)) (by simp [hLi]) }⟩
        | 8, ho, hLi, hK' =>
          cases ho
          have ea := h'.k0 (hdeps ⟨0, .data⟩ (by simp) (by rfl))
          go_simp
          exact hK' _ _ ⟨h, g, cap, { off := h'.off.put (by decide) _, k0 := fun q => put_ne _ (by decide) (h'.k0 (by simpa using q)), k1 := fun q => put_ne _ (by decide) (h'.k1 (by simpa using q)), k2 := fun q => put_ne _ (by decide) (h'.k2 (by simpa using q)), k3 := fun q => put_ne _ (by decide) (h'.k3 (by simpa using q)), k4 := fun q => put_ne _ (by decide) (h'.k4 (by simpa using q)), k5 := fun q => put_ne _ (by decide) (h'.k5 (by simpa using q)), k6 := fun q => put_ne _ (by decide) (h'.k6 (by simpa using q)), k7 := fun q => put_ne _ (by decide) (h'.k7 (by simpa using q)), k8 := fun _ => put_at _ (by have := h'.off.size; omega), k9 := fun q => put_ne _ (by decide) (h'.k9 (by simpa using q)), d76 := fun q => by simpa using h'.d76 (by simpa using q), d74 := fun q => by simpa using h'.d74 (by simpa using q), dA7 := fun q => by simpa using h'.dA7 (by simpa using q), chg := h'.chg, bx := h'.bx, cu := fun q => h'.cu (by simpa using q), nw := fun q r => h'.nw (by simpa using q) (by simpa using r), mid := fun q => h'.mid (by simpa using q), fin := fun q => h'.fin (by simpa using q) }⟩
        | 9, ho, hLi, hK' =>
          cases ho
          have ea := h'.k8 (hdeps ⟨8, .data⟩ (by simp) (by rfl))
          go_simp
          exact hK' _ _ ⟨h, g, cap, { off := h'.off.put (by decide) _, k0 := fun q => put_ne _ (by decide) (h'.k0 (by simpa using q)), k1 := fun q => put_ne _ (by decide) (h'.k1 (by simpa using q)), k2 := fun q => put_ne _ (by decide) (h'.k2 (by simpa using q)), k3 := fun q => put_ne _ (by decide) (h'.k3 (by simpa using q)), k4 := fun q => put_ne _ (by decide) (h'.k4 (by simpa using q)), k5 := fun q => put_ne _ (by decide) (h'.k5 (by simpa using q)), k6 := fun q => put_ne _ (by decide) (h'.k6 (by simpa using q)), k7 := fun q => put_ne _ (by decide) (h'.k7 (by simpa using q)), k8 := fun q => put_ne _ (by decide) (h'.k8 (by simpa using q)), k9 := fun _ => put_at _ (by have := h'.off.size; omega), d76 := fun q => by simpa using h'.d76 (by simpa using q), d74 := fun q => by simpa using h'.d74 (by simpa using q), dA7 := fun q => by simpa using h'.dA7 (by simpa using q), chg := h'.chg, bx := h'.bx, cu := fun q => h'.cu (by simpa using q), nw := fun q r => h'.nw (by simpa using q) (by simpa using r), mid := fun q => h'.mid (by simpa using q), fin := fun q => h'.fin (by simpa using q) }⟩
        | 10, ho, hLi, hK' =>
          cases ho
          have h7 := hdeps ⟨7, .data⟩ (by simp) (by rfl)
          have ea := h'.k9 (hdeps ⟨9, .data⟩ (by simp) (by rfl))
          have eb := h'.k7 h7
          obtain ⟨m1, m2, m3, m4, m5, ⟨u, m6⟩, m7, m8, m9⟩ := h'.mid h7
          go_simp
          exact hK' _ _ ⟨h, g, cap, { off := h'.off, k0 := fun q => h'.k0 (by simpa using q), k1 := fun q => h'.k1 (by simpa using q), k2 := fun q => h'.k2 (by simpa using q), k3 := fun q => h'.k3 (by simpa using q), k4 := fun q => h'.k4 (by simpa using q), k5 := fun q => h'.k5 (by simpa using q), k6 := fun q => h'.k6 (by simpa using q), k7 := fun q => h'.k7 (by simpa using q), k8 := fun q => h'.k8 (by simpa using q), k9 := fun q => h'.k9 (by simpa using q), d76 := fun q => by simpa using h'.d76 (by simpa using q), d74 := fun q => by simpa using h'.d74 (by simpa using q), dA7 := fun _ => by simpa using h7, chg := h'.chg.own 1 _, bx := h'.bx.chg ((Chg.refl cb v wx).own 1 _) (by intro q hq; simp only [List.mem_cons, List.not_mem_nil, or_false] at hq; rcases hq with rfl | rfl | rfl | rfl | rfl | rfl | rfl | rfl <;> (simp <;> omega)) (by intro q hq; simp only [List.mem_cons, List.not_mem_nil, or_false] at hq; rcases hq with rfl | rfl | rfl | rfl | rfl | rfl | rfl | rfl <;> (intro e; have := hbs _ e; simp at this <;> omega)) (Nat.zero_le _) (fun _ _ => Nat.zero_le _), cu := fun q => absurd (show L 7 = false by simpa using q) (by simp [h7]), nw := fun _ q => absurd (show L 7 = false by simpa using q) (by simp [h7]), mid := fun _ => ⟨ownsRow_setCell_other m1 (fun e => m3 (by simpa [Value.ownBlock] using e)) _, m2, m3, (World.cell?_setCell_other wx ⟨cb, 1, none⟩ ⟨cb, 0, none⟩ _ (by simp)).trans m4, by simpa [go_sem] using m5, ⟨_, World.cell?_setCell_same _ _ _ m6⟩, by simpa [go_sem] using m7, m8, by simpa using m9⟩, fin := fun _ => World.cell?_setCell_same _ _ _ m6 }⟩
        | i + 11, ho, hLi, hK' => cases ho
      · intro L a wx hI hall
        obtain ⟨h, g, cap, h'⟩ := hI
        have hfr := h'.off.rebuild (fun d => if d = 46 then .pointer (some ⟨cb, 0, none⟩) else if d = 47 then .pointer (some ⟨cb, 0, none⟩) else if d = 48 then .pointer (some ⟨cb, 0, none⟩) else if d = 49 then .pointer (some ⟨cb, 1, none⟩) else if d = 50 then v else if d = 51 then .agg #[.int .i64 bU, .int .i64 bW, .int .i64 bR, .int .i64 bH] else if d = 52 then .slice (some ⟨h, 0, none⟩) 1 1 else if d = 53 then .slice (some ⟨g, 0, none⟩) (n + 1) cap else if d = 54 then .pointer (some ⟨cb, 0, none⟩) else if d = 55 then .pointer (some ⟨cb, 1, none⟩) else undef) (by
          intro d hd
          simp only [List.mem_cons, List.not_mem_nil, or_false] at hd
          rcases hd with rfl | rfl | rfl | rfl | rfl | rfl | rfl | rfl | rfl | rfl
          · exact h'.k0 (hall 0 (by decide))
          · exact h'.k1 (hall 1 (by decide))
          · exact h'.k2 (hall 2 (by decide))
          · exact h'.k3 (hall 3 (by decide))
          · exact h'.k4 (hall 4 (by decide))
          · exact h'.k5 (hall 5 (by decide))
          · exact h'.k6 (hall 6 (by decide))
          · exact h'.k7 (hall 7 (by decide))
          · exact h'.k8 (hall 8 (by decide))
          · exact h'.k9 (hall 9 (by decide))
          )
        simp only [List.foldl_cons, List.foldl_nil] at hfr
        rw [← HA.out] at hfr
        obtain ⟨m1, m2, m3, m4, m5, m6, m7, m8, m9⟩ := h'.mid (hall 7 (by decide))
        have hCu : Cu cb dir B (.slice (some ⟨g, 0, none⟩) (n + 1) cap) (n + 1) (xs ++ spc (⟨bU, bW, bR, bH⟩ : Spk)) wx := ⟨m1, m4, m5, h'.fin (hall 10 (by decide)), m7, fun e => m3 (by simpa [Value.ownBlock] using e), m8, m9⟩
        have hCh := h'.chg
        rw [hfr]
        clear hfr h' hall m1 m4 m5 m6 m7 m8 m9 m3 HA hA0 hA7 hsz
        simp [Act.put]
        go_wp2_with fail
        go_end0
        exact ⟨rfl, .slice (some ⟨g, 0, none⟩) (n + 1) cap, by simpa using hCu, hCh, m2.imp (fun e => e.symm) (fun e => ⟨g, rfl, e⟩)⟩
    · rw [hG] at ST
      have HP : PL = pcs dir k false (⟨aU, aW, aR, aH⟩ : Spk) (⟨mU, mW, mR, mH⟩ : Spk) ++ pcs dir k false (⟨mU, mW, mR, mH⟩ : Spk) (⟨bU, bW, bR, bH⟩ : Spk) := by rw [HP.out, hG]; rfl
      subst HP
      have hl1 := (pcs_len dir k false (⟨aU, aW, aR, aH⟩ : Spk) (⟨mU, mW, mR, mH⟩ : Spk)).2
      clear hG hi hz0 hz1 hz2 i0
      have IH1 := fun w h => Lib.hid (ih false aU aW aR aH mU mW mR mH v n xs w (by omega) ga gm h)
      have IH2 := fun v' w h => Lib.hid (ih false mU mW mR mH bU bW bR bH v' (n + (pcs dir k false (⟨aU, aW, aR, aH⟩ : Spk) (⟨mU, mW, mR, mH⟩ : Spk)).length) (xs ++ (pcs dir k false (⟨aU, aW, aR, aH⟩ : Spk) (⟨mU, mW, mR, mH⟩ : Spk)).flatMap spc) w (by omega) gm gb h)
      clear ih hl1 hn hN hp ga gb gm
      generalize pcs dir k false (⟨aU, aW, aR, aH⟩ : Spk) (⟨mU, mW, mR, mH⟩ : Spk) = l1 at *
      generalize pcs dir k false (⟨mU, mW, mR, mH⟩ : Spk) (⟨bU, bW, bR, bH⟩ : Spk) = l2 at *
      go_enter Try.func34, Try.ntmps34
      go_wp2_with fail
      refine (ST _ hC2.dc hC2.df hC2.lt).out.mono ?_
      rintro e wr ⟨rfl, hb1⟩
      have hC := hC2.next hb1
      have hK := hK.next hb1
      have hT := hT.next hb1
      clear hC2 hb1 ST sa sb
      go_upto_region 2 with fail
      generalize hA : (Act.mk _ _) = A
      have hsz : A.tmps.size = 56 := by rw [← hA]; rfl
      have hA0 : A.tmps[0]? = some (.pointer (some ⟨cb, 0, none⟩)) := by rw [← hA]; rfl
      have hA3 : A.tmps[3]? = some (.bool full) := by rw [← hA]; rfl
      have hA6 : A.tmps[6]? = some (.pointer (some ⟨w.heap.size, 0, none⟩)) := by rw [← hA]; rfl
      have hA7 : A.tmps[7]? = some (.pointer (some ⟨w.heap.size + 1, 0, none⟩)) := by rw [← hA]; rfl
      have HA := Lib.hid hA
      clear hA
      refine wp_region_inv (fun L a wx => ∃ g, MiI cb dir B v n xs full aU aW aR aH bU bW bR bH mU mW mR mH w A g L a wx) (by kernel_rfl) (by kernel_rfl) ?_ ?_ ?_
      · have hD := (Below.refl wr.heap.size wr).drew
        exact ⟨0, by constructor <;> first | exact OffOf.refl _ _ | exact hK.next hD | exact hT.next hD | exact hC.next hD | (intro h; exact nomatch h)⟩
      · intro i o ho L a wx hI hLi hdeps K hK'
        obtain ⟨g, h'⟩ := hI
        match i, ho, hLi, hK' with
        | 0, ho, hLi, hK' =>
          cases ho
          have ea := (h'.off.off 6 (by decide)).trans hA6
          have kc := h'.bx.cells
          simp only [List.forall_mem_cons, List.not_mem_nil, false_implies, implies_true, and_true] at kc
          obtain ⟨yc0, yc1, yc2, yc3, yc4, yc5, yc6, yc7⟩ := kc
          go_simp
          exact hK' _ _ ⟨g, { off := h'.off.put (by decide) _, k0 := fun _ => put_at _ (by have := h'.off.size; omega), k1 := fun q => put_ne _ (by decide) (h'.k1 (by simpa using q)), k2 := fun q => put_ne _ (by decide) (h'.k2 (by simpa using q)), k3 := fun q => put_ne _ (by decide) (h'.k3 (by simpa using q)), k4 := fun q => put_ne _ (by decide) (h'.k4 (by simpa using q)), k5 := fun q => put_ne _ (by decide) (h'.k5 (by simpa using q)), k6 := fun q => put_ne _ (by decide) (h'.k6 (by simpa using q)), k7 := fun q => put_ne _ (by decide) (h'.k7 (by simpa using q)), k8 := fun q => put_ne _ (by decide) (h'.k8 (by simpa using q)), k9 := fun q => put_ne _ (by decide) (h'.k9 (by simpa using q)), k10 := fun q => put_ne _ (by decide) (h'.k10 (by simpa using q)), k11 := fun q => put_ne _ (by decide) (h'.k11 (by simpa using q)), k13 := fun q => put_ne _ (by decide) (h'.k13 (by simpa using q)), chg := h'.chg, bx := h'.bx, cu := h'.cu, gn := fun q => h'.gn (by simpa using q), gs := fun q => h'.gs (by simpa using q), gd := fun q => by simpa using h'.gd (by simpa using q) }⟩
        | 1, ho, hLi, hK' =>
          cases ho
          have ea := (h'.off.off 7 (by decide)).trans hA7
          have kc := h'.bx.cells
          simp only [List.forall_mem_cons, List.not_mem_nil, false_implies, implies_true, and_true] at kc
          obtain ⟨yc0, yc1, yc2, yc3, yc4, yc5, yc6, yc7⟩ := kc
          go_simp
          exact hK' _ _ ⟨g, { off := h'.off.put (by decide) _, k0 := fun q => put_ne _ (by decide) (h'.k0 (by simpa using q)), k1 := fun _ => put_at _ (by have := h'.off.size; omega), k2 := fun q => put_ne _ (by decide) (h'.k2 (by simpa using q)), k3 := fun q => put_ne _ (by decide) (h'.k3 (by simpa using q)), k4 := fun q => put_ne _ (by decide) (h'.k4 (by simpa using q)), k5 := fun q => put_ne _ (by decide) (h'.k5 (by simpa using q)), k6 := fun q => put_ne _ (by decide) (h'.k6 (by simpa using q)), k7 := fun q => put_ne _ (by decide) (h'.k7 (by simpa using q)), k8 := fun q => put_ne _ (by decide) (h'.k8 (by simpa using q)), k9 := fun q => put_ne _ (by decide) (h'.k9 (by simpa using q)), k10 := fun q => put_ne _ (by decide) (h'.k10 (by simpa using q)), k11 := fun q => put_ne _ (by decide) (h'.k11 (by simpa using q)), k13 := fun q => put_ne _ (by decide) (h'.k13 (by simpa using q)), chg := h'.chg, bx := h'.bx, cu := h'.cu, gn := fun q => h'.gn (by simpa using q), gs := fun q => h'.gs (by simpa using q), gd := fun q => by simpa using h'.gd (by simpa using q) }⟩
        | 2, ho, hLi, hK' =>
          cases ho
          have ea := (h'.off.off 0 (by decide)).trans hA0
          go_simp
          exact hK' _ _ ⟨g, { off := h'.off.put (by decide) _, k0 := fun q => put_ne _ (by decide) (h'.k0 (by simpa using q)), k1 := fun q => put_ne _ (by decide) (h'.k1 (by simpa using q)), k2 := fun _ => put_at _ (by have := h'.off.size; omega), k3 := fun q => put_ne _ (by decide) (h'.k3 (by simpa using q)), k4 := fun q => put_ne _ (by decide) (h'.k4 (by simpa using q)), k5 := fun q => put_ne _ (by decide) (h'.k5 (by simpa using q)), k6 := fun q => put_ne _ (by decide) (h'.k6 (by simpa using q)), k7 := fun q => put_ne _ (by decide) (h'.k7 (by simpa using q)), k8 := fun q => put_ne _ (by decide) (h'.k8 (by simpa using q)), k9 := fun q => put_ne _ (by decide) (h'.k9 (by simpa using q)), k10 := fun q => put_ne _ (by decide) (h'.k10 (by simpa using q)), k11 := fun q => put_ne _ (by decide) (h'.k11 (by simpa using q)), k13 := fun q => put_ne _ (by decide) (h'.k13 (by simpa using q)), chg := h'.chg, bx := h'.bx, cu := h'.cu, gn := fun q => h'.gn (by simpa using q), gs := fun q => h'.gs (by simpa using q), gd := fun q => by simpa using h'.gd (by simpa using q) }⟩
        | 3, ho, hLi, hK' =>
          cases ho
          have ea := h'.k2 (hdeps ⟨2, .data⟩ (by simp) (by rfl))
          go_simp
          exact hK' _ _ ⟨g, { off := h'.off.put (by decide) _, k0 := fun q => put_ne _ (by decide) (h'.k0 (by simpa using q)), k1 := fun q => put_ne _ (by decide) (h'.k1 (by simpa using q)), k2 := fun q => put_ne _ (by decide) (h'.k2 (by simpa using q)), k3 := fun _ => put_at _ (by have := h'.off.size; omega), k4 := fun q => put_ne _ (by decide) (h'.k4 (by simpa using q)), k5 := fun q => put_ne _ (by decide) (h'.k5 (by simpa using q)), k6 := fun q => put_ne _ (by decide) (h'.k6 (by simpa using q)), k7 := fun q => put_ne _ (by decide) (h'.k7 (by simpa using q)), k8 := fun q => put_ne _ (by decide) (h'.k8 (by simpa using q)), k9 := fun q => put_ne _ (by decide) (h'.k9 (by simpa using q)), k10 := fun q => put_ne _ (by decide) (h'.k10 (by simpa using q)), k11 := fun q => put_ne _ (by decide) (h'.k11 (by simpa using q)), k13 := fun q => put_ne _ (by decide) (h'.k13 (by simpa using q)), chg := h'.chg, bx := h'.bx, cu := h'.cu, gn := fun q => h'.gn (by simpa using q), gs := fun q => h'.gs (by simpa using q), gd := fun q => by simpa using h'.gd (by simpa using q) }⟩
        | 4, ho, hLi, hK' =>
          cases ho
          have ea := h'.k3 (hdeps ⟨3, .data⟩ (by simp) (by rfl))
          go_simp
          exact hK' _ _ ⟨g, { off := h'.off.put (by decide) _, k0 := fun q => put_ne _ (by decide) (h'.k0 (by simpa using q)), k1 := fun q => put_ne _ (by decide) (h'.k1 (by simpa using q)), k2 := fun q => put_ne _ (by decide) (h'.k2 (by simpa using q)), k3 := fun q => put_ne _ (by decide) (h'.k3 (by simpa using q)), k4 := fun _ => put_at _ (by have := h'.off.size; omega), k5 := fun q => put_ne _ (by decide) (h'.k5 (by simpa using q)), k6 := fun q => put_ne _ (by decide) (h'.k6 (by simpa using q)), k7 := fun q => put_ne _ (by decide) (h'.k7 (by simpa using q)), k8 := fun q => put_ne _ (by decide) (h'.k8 (by simpa using q)), k9 := fun q => put_ne _ (by decide) (h'.k9 (by simpa using q)), k10 := fun q => put_ne _ (by decide) (h'.k10 (by simpa using q)), k11 := fun q => put_ne _ (by decide) (h'.k11 (by simpa using q)), k13 := fun q => put_ne _ (by decide) (h'.k13 (by simpa using q)), chg := h'.chg, bx := h'.bx, cu := h'.cu, gn := fun q => h'.gn (by simpa using q), gs := fun q => h'.gs (by simpa using q), gd := fun q => by simpa using h'.gd (by simpa using q) }⟩
        | 5, ho, hLi, hK' =>
          cases ho
          have ea := h'.k4 (hdeps ⟨4, .data⟩ (by simp) (by rfl))
          have eo := h'.cu.dc
          go_simp
          exact hK' _ _ ⟨g, { off := h'.off.put (by decide) _, k0 := fun q => put_ne _ (by decide) (h'.k0 (by simpa using q)), k1 := fun q => put_ne _ (by decide) (h'.k1 (by simpa using q)), k2 := fun q => put_ne _ (by decide) (h'.k2 (by simpa using q)), k3 := fun q => put_ne _ (by decide) (h'.k3 (by simpa using q)), k4 := fun q => put_ne _ (by decide) (h'.k4 (by simpa using q)), k5 := fun _ => put_at _ (by have := h'.off.size; omega), k6 := fun q => put_ne _ (by decide) (h'.k6 (by simpa using q)), k7 := fun q => put_ne _ (by decide) (h'.k7 (by simpa using q)), k8 := fun q => put_ne _ (by decide) (h'.k8 (by simpa using q)), k9 := fun q => put_ne _ (by decide) (h'.k9 (by simpa using q)), k10 := fun q => put_ne _ (by decide) (h'.k10 (by simpa using q)), k11 := fun q => put_ne _ (by decide) (h'.k11 (by simpa using q)), k13 := fun q => put_ne _ (by decide) (h'.k13 (by simpa using q)), chg := h'.chg, bx := h'.bx, cu := h'.cu, gn := fun q => h'.gn (by simpa using q), gs := fun q => h'.gs (by simpa using q), gd := fun q => by simpa using h'.gd (by simpa using q) }⟩
        | 6, ho, hLi, hK' =>
          cases ho
          have ea := (h'.off.off 3 (by decide)).trans hA3
          go_simp
          exact hK' _ _ ⟨g, { off := h'.off.put (by decide) _, k0 := fun q => put_ne _ (by decide) (h'.k0 (by simpa using q)), k1 := fun q => put_ne _ (by decide) (h'.k1 (by simpa using q)), k2 := fun q => put_ne _ (by decide) (h'.k2 (by simpa using q)), k3 := fun q => put_ne _ (by decide) (h'.k3 (by simpa using q)), k4 := fun q => put_ne _ (by decide) (h'.k4 (by simpa using q)), k5 := fun q => put_ne _ (by decide) (h'.k5 (by simpa using q)), k6 := fun _ => put_at _ (by have := h'.off.size; omega), k7 := fun q => put_ne _ (by decide) (h'.k7 (by simpa using q)), k8 := fun q => put_ne _ (by decide) (h'.k8 (by simpa using q)), k9 := fun q => put_ne _ (by decide) (h'.k9 (by simpa using q)), k10 := fun q => put_ne _ (by decide) (h'.k10 (by simpa using q)), k11 := fun q => put_ne _ (by decide) (h'.k11 (by simpa using q)), k13 := fun q => put_ne _ (by decide) (h'.k13 (by simpa using q)), chg := h'.chg, bx := h'.bx, cu := h'.cu, gn := fun q => h'.gn (by simpa using q), gs := fun q => h'.gs (by simpa using q), gd := fun q => by simpa using h'.gd (by simpa using q) }⟩
        | 7, ho, hLi, hK' =>
          cases ho
          have e0 := h'.k0 (hdeps ⟨0, .data⟩ (by simp) (by rfl))
          have e1 := h'.k1 (hdeps ⟨1, .data⟩ (by simp) (by rfl))
          have e2 := h'.k5 (hdeps ⟨5, .data⟩ (by simp) (by rfl))
          have e3 := h'.k6 (hdeps ⟨6, .data⟩ (by simp) (by rfl))
          go_simp
          refine (MI _).out.mono ?_
          rintro e w2 ⟨rfl, hb⟩
          exact hK' _ _ ⟨g, { off := h'.off.put (by decide) _, k0 := fun q => put_ne _ (by decide) (h'.k0 (by simpa using q)), k1 := fun q => put_ne _ (by decide) (h'.k1 (by simpa using q)), k2 := fun q => put_ne _ (by decide) (h'.k2 (by simpa using q)), k3 := fun q => put_ne _ (by decide) (h'.k3 (by simpa using q)), k4 := fun q => put_ne _ (by decide) (h'.k4 (by simpa using q)), k5 := fun q => put_ne _ (by decide) (h'.k5 (by simpa using q)), k6 := fun q => put_ne _ (by decide) (h'.k6 (by simpa using q)), k7 := fun _ => put_at _ (by have := h'.off.size; omega), k8 := fun q => put_ne _ (by decide) (h'.k8 (by simpa using q)), k9 := fun q => put_ne _ (by decide) (h'.k9 (by simpa using q)), k10 := fun q => put_ne _ (by decide) (h'.k10 (by simpa using q)), k11 := fun q => put_ne _ (by decide) (h'.k11 (by simpa using q)), k13 := fun q => put_ne _ (by decide) (h'.k13 (by simpa using q)), chg := h'.chg.next hb, bx := h'.bx.next hb, cu := h'.cu.next hb, gn := fun q => ⟨(h'.gn (by simpa using q)).1, (h'.gn (by simpa using q)).2.next hb⟩, gs := fun q => (h'.gs (by simpa using q)).next hb, gd := fun q => by simpa using h'.gd (by simpa using q) }⟩
        | 8, ho, hLi, hK' =>
          cases ho
          have ea := h'.k7 (hdeps ⟨7, .data⟩ (by simp) (by rfl))
          go_simp
          exact hK' _ _ ⟨g, { off := h'.off.put (by decide) _, k0 := fun q => put_ne _ (by decide) (h'.k0 (by simpa using q)), k1 := fun q => put_ne _ (by decide) (h'.k1 (by simpa using q)), k2 := fun q => put_ne _ (by decide) (h'.k2 (by simpa using q)), k3 := fun q => put_ne _ (by decide) (h'.k3 (by simpa using q)), k4 := fun q => put_ne _ (by decide) (h'.k4 (by simpa using q)), k5 := fun q => put_ne _ (by decide) (h'.k5 (by simpa using q)), k6 := fun q => put_ne _ (by decide) (h'.k6 (by simpa using q)), k7 := fun q => put_ne _ (by decide) (h'.k7 (by simpa using q)), k8 := fun _ => put_at _ (by have := h'.off.size; omega), k9 := fun q => put_ne _ (by decide) (h'.k9 (by simpa using q)), k10 := fun q => put_ne _ (by decide) (h'.k10 (by simpa using q)), k11 := fun q => put_ne _ (by decide) (h'.k11 (by simpa using q)), k13 := fun q => put_ne _ (by decide) (h'.k13 (by simpa using q)), chg := h'.chg, bx := h'.bx, cu := h'.cu, gn := fun q => h'.gn (by simpa using q), gs := fun q => h'.gs (by simpa using q), gd := fun q => by simpa using h'.gd (by simpa using q) }⟩
        | 9, ho, hLi, hK' =>
          cases ho
          have ea := h'.k8 (hdeps ⟨8, .data⟩ (by simp) (by rfl))
          go_simp
          exact hK' _ _ ⟨g, { off := h'.off.put (by decide) _, k0 := fun q => put_ne _ (by decide) (h'.k0 (by simpa using q)), k1 := fun q => put_ne _ (by decide) (h'.k1 (by simpa using q)), k2 := fun q => put_ne _ (by decide) (h'.k2 (by simpa using q)), k3 := fun q => put_ne _ (by decide) (h'.k3 (by simpa using q)), k4 := fun q => put_ne _ (by decide) (h'.k4 (by simpa using q)), k5 := fun q => put_ne _ (by decide) (h'.k5 (by simpa using q)), k6 := fun q => put_ne _ (by decide) (h'.k6 (by simpa using q)), k7 := fun q => put_ne _ (by decide) (h'.k7 (by simpa using q)), k8 := fun q => put_ne _ (by decide) (h'.k8 (by simpa using q)), k9 := fun _ => put_at _ (by have := h'.off.size; omega), k10 := fun q => put_ne _ (by decide) (h'.k10 (by simpa using q)), k11 := fun q => put_ne _ (by decide) (h'.k11 (by simpa using q)), k13 := fun q => put_ne _ (by decide) (h'.k13 (by simpa using q)), chg := h'.chg, bx := h'.bx, cu := h'.cu, gn := fun q => h'.gn (by simpa using q), gs := fun q => h'.gs (by simpa using q), gd := fun q => by simpa using h'.gd (by simpa using q) }⟩
        | 10, ho, hLi, hK' =>
          cases ho
          have ea := h'.k8 (hdeps ⟨8, .data⟩ (by simp) (by rfl))
          go_simp
          exact hK' _ _ ⟨g, { off := h'.off.put (by decide) _, k0 := fun q => put_ne _ (by decide) (h'.k0 (by simpa using q)), k1 := fun q => put_ne _ (by decide) (h'.k1 (by simpa using q)), k2 := fun q => put_ne _ (by decide) (h'.k2 (by simpa using q)), k3 := fun q => put_ne _ (by decide) (h'.k3 (by simpa using q)), k4 := fun q => put_ne _ (by decide) (h'.k4 (by simpa using q)), k5 := fun q => put_ne _ (by decide) (h'.k5 (by simpa using q)), k6 := fun q => put_ne _ (by decide) (h'.k6 (by simpa using q)), k7 := fun q => put_ne _ (by decide) (h'.k7 (by simpa using q)), k8 := fun q => put_ne _ (by decide) (h'.k8 (by simpa using q)), k9 := fun q => put_ne _ (by decide) (h'.k9 (by simpa using q)), k10 := fun _ => put_at _ (by have := h'.off.size; omega), k11 := fun q => put_ne _ (by decide) (h'.k11 (by simpa using q)), k13 := fun q => put_ne _ (by decide) (h'.k13 (by simpa using q)), chg := h'.chg, bx := h'.bx, cu := h'.cu, gn := fun q => h'.gn (by simpa using q), gs := fun q => h'.gs (by simpa using q), gd := fun q => by simpa using h'.gd (by simpa using q) }⟩
        | 11, ho, hLi, hK' =>
          cases ho
          go_simp
          exact hK' _ _ ⟨wx.heap.size, { off := h'.off.put (by decide) _, k0 := fun q => put_ne _ (by decide) (h'.k0 (by simpa using q)), k1 := fun q => put_ne _ (by decide) (h'.k1 (by simpa using q)), k2 := fun q => put_ne _ (by decide) (h'.k2 (by simpa using q)), k3 := fun q => put_ne _ (by decide) (h'.k3 (by simpa using q)), k4 := fun q => put_ne _ (by decide) (h'.k4 (by simpa using q)), k5 := fun q => put_ne _ (by decide) (h'.k5 (by simpa using q)), k6 := fun q => put_ne _ (by decide) (h'.k6 (by simpa using q)), k7 := fun q => put_ne _ (by decide) (h'.k7 (by simpa using q)), k8 := fun q => put_ne _ (by decide) (h'.k8 (by simpa using q)), k9 := fun q => put_ne _ (by decide) (h'.k9 (by simpa using q)), k10 := fun q => put_ne _ (by decide) (h'.k10 (by simpa using q)), k11 := fun _ => put_at _ (by have := h'.off.size; omega), k13 := fun q => put_ne _ (by decide) (h'.k13 (by simpa using q)), chg := h'.chg.next ((Below.refl _ _).alloc (Nat.le_refl _) _), bx := h'.bx.next ((Below.refl _ _).alloc (Nat.le_refl _) _), cu := h'.cu.next ((Below.refl _ _).alloc (Nat.le_refl _) _), gn := fun _ => ⟨h'.bx.lt, Row.fresh4 _ _ _ _ _ _ _⟩, gs := fun q => absurd (h'.gd (by simpa using q)) (by simp [hLi]), gd := fun _ => by simp }⟩
        | 12, ho, hLi, hK' =>
          cases ho
          have hl := (hdeps ⟨11, .data⟩ (by simp) (by rfl))
          have ea := h'.k11 hl
          have eb := h'.k9 (hdeps ⟨9, .data⟩ (by simp) (by rfl))
          obtain ⟨hN, hr⟩ := h'.gn hl
          obtain ⟨u0, hu0⟩ := hr.ex 0 (by decide)
          obtain ⟨u1, hu1⟩ := hr.ex 1 (by decide)
          obtain ⟨u2, hu2⟩ := hr.ex 2 (by decide)
          obtain ⟨u3, hu3⟩ := hr.ex 3 (by decide)
          have hf0 := hr.frz 0 (by decide)
          have hf1 := hr.frz 1 (by decide)
          have hf2 := hr.frz 2 (by decide)
          have hf3 := hr.frz 3 (by decide)
          have hg1 : g ≠ cb := by omega
          have hg2 : v.ownBlock ≠ some g := fun e => by have := hbs _ e; omega
          go_simp
          exact hK' _ _ ⟨g, { off := h'.off, k0 := fun q => h'.k0 (by simpa using q), k1 := fun q => h'.k1 (by simpa using q), k2 := fun q => h'.k2 (by simpa using q), k3 := fun q => h'.k3 (by simpa using q), k4 := fun q => h'.k4 (by simpa using q), k5 := fun q => h'.k5 (by simpa using q), k6 := fun q => h'.k6 (by simpa using q), k7 := fun q => h'.k7 (by simpa using q), k8 := fun q => h'.k8 (by simpa using q), k9 := fun q => h'.k9 (by simpa using q), k10 := fun q => h'.k10 (by simpa using q), k11 := fun q => h'.k11 (by simpa using q), k13 := fun q => h'.k13 (by simpa using q), chg := (((h'.chg.far g 0 _ (by omega)).far g 1 _ (by omega)).far g 2 _ (by omega)).far g 3 _ (by omega), bx := (((h'.bx.far g 0 _ hN).far g 1 _ hN).far g 2 _ hN).far g 3 _ hN, cu := ((((h'.cu.far g 0 _ hg1 hg2).far g 1 _ hg1 hg2).far g 2 _ hg1 hg2).far g 3 _ hg1 hg2), gn := fun _ => ⟨hN, (((hr.put 0 _ (by decide) (by decide)).put 1 _ (by decide) (by decide)).put 2 _ (by decide) (by decide)).put 3 _ (by decide) (by decide)⟩, gs := fun _ => (((hr.step _ (by decide) rfl).step _ (by decide) rfl).step _ (by decide) rfl).step _ (by decide) rfl, gd := fun _ => by simpa using hl }⟩
        | 13, ho, hLi, hK' =>
          cases ho
          have ea := h'.k10 (hdeps ⟨10, .data⟩ (by simp) (by rfl))
          go_simp
          exact hK' _ _ ⟨g, { off := h'.off.put (by decide) _, k0 := fun q => put_ne _ (by decide) (h'.k0 (by simpa using q)), k1 := fun q => put_ne _ (by decide) (h'.k1 (by simpa using q)), k2 := fun q => put_ne _ (by decide) (h'.k2 (by simpa using q)), k3 := fun q => put_ne _ (by decide) (h'.k3 (by simpa using q)), k4 := fun q => put_ne _ (by decide) (h'.k4 (by simpa using q)), k5 := fun q => put_ne _ (by decide) (h'.k5 (by simpa using q)), k6 := fun q => put_ne _ (by decide) (h'.k6 (by simpa using q)), k7 := fun q => put_ne _ (by decide) (h'.k7 (by simpa using q)), k8 := fun q => put_ne _ (by decide) (h'.k8 (by simpa using q)), k9 := fun q => put_ne _ (by decide) (h'.k9 (by simpa using q)), k10 := fun q => put_ne _ (by decide) (h'.k10 (by simpa using q)), k11 := fun q => put_ne _ (by decide) (h'.k11 (by simpa using q)), k13 := fun _ => put_at _ (by have := h'.off.size; omega), chg := h'.chg, bx := h'.bx, cu := h'.cu, gn := fun q => h'.gn (by simpa using q), gs := fun q => h'.gs (by simpa using q), gd := fun q => by simpa using h'.gd (by simpa using q) }⟩
        | i + 14, ho, hLi, hK' => cases ho
      · intro L a wx hI hall
        obtain ⟨g, h'⟩ := hI
        have hfr := h'.off.rebuild (fun d => if d = 23 then .agg #[.int .i64 aU, .int .i64 aW, .int .i64 aR, .int .i64 aH] else if d = 24 then .agg #[.int .i64 bU, .int .i64 bW, .int .i64 bR, .int .i64 bH] else if d = 25 then .pointer (some ⟨cb, 0, none⟩) else if d = 26 then .pointer (some ⟨cb, 0, none⟩) else if d = 27 then .pointer (some ⟨cb, 0, none⟩) else if d = 28 then .int .i64 dir else if d = 29 then .bool full else if d = 30 then .tuple #[.agg #[.int .i64 mU, .int .i64 mW, .int .i64 mR, .int .i64 mH], .bool true] else if d = 22 then .tuple #[.agg #[.int .i64 mU, .int .i64 mW, .int .i64 mR, .int .i64 mH], .bool true] else if d = 31 then .agg #[.int .i64 mU, .int .i64 mW, .int .i64 mR, .int .i64 mH] else if d = 32 then .bool true else if d = 10 then .pointer (some ⟨g, 0, none⟩) else if d = 11 then .bool true else undef) (by
          intro d hd
          simp only [List.mem_cons, List.not_mem_nil, or_false] at hd
          rcases hd with rfl | rfl | rfl | rfl | rfl | rfl | rfl | rfl | rfl | rfl | rfl | rfl | rfl
          · exact h'.k0 (hall 0 (by decide))
          · exact h'.k1 (hall 1 (by decide))
          · exact h'.k2 (hall 2 (by decide))
          · exact h'.k3 (hall 3 (by decide))
          · exact h'.k4 (hall 4 (by decide))
          · exact h'.k5 (hall 5 (by decide))
          · exact h'.k6 (hall 6 (by decide))
          · exact h'.k7 (hall 7 (by decide))
          · exact h'.k8 (hall 8 (by decide))
          · exact h'.k9 (hall 9 (by decide))
          · exact h'.k10 (hall 10 (by decide))
          · exact h'.k11 (hall 11 (by decide))
          · exact h'.k13 (hall 13 (by decide))
          )
        simp only [List.foldl_cons, List.foldl_nil] at hfr
        rw [← HA.out] at hfr
        have hC := h'.cu
        have hK := h'.chg
        have hgN := (h'.gn (hall 11 (by decide))).1
        have hT : Lf 0 wx.heap.size [(⟨g, 0, none⟩, .int .i64 mU), (⟨g, 1, none⟩, .int .i64 mW), (⟨g, 2, none⟩, .int .i64 mR), (⟨g, 3, none⟩, .int .i64 mH), (⟨w.heap.size, 0, none⟩, .int .i64 aU), (⟨w.heap.size, 1, none⟩, .int .i64 aW), (⟨w.heap.size, 2, none⟩, .int .i64 aR), (⟨w.heap.size, 3, none⟩, .int .i64 aH), (⟨w.heap.size + 1, 0, none⟩, .int .i64 bU), (⟨w.heap.size + 1, 1, none⟩, .int .i64 bW), (⟨w.heap.size + 1, 2, none⟩, .int .i64 bR), (⟨w.heap.size + 1, 3, none⟩, .int .i64 bH)] w wx := lf_four h'.bx (h'.gs (hall 12 (by decide)))
        rw [hfr]
        clear hfr h' hall HA hA0 hA3 hA6 hA7 hsz
        simp [Act.put]
        have hwx : w.heap.size + 1 + 1 ≤ wx.heap.size := by have := hK.size; have := hT.inn _ (List.mem_cons_self ..); simp at this; omega
        have kc := hT.cells
        have kf := hT.frz
        simp only [List.forall_mem_cons, List.not_mem_nil, false_implies, implies_true, and_true] at kc kf
        obtain ⟨yc0, yc1, yc2, yc3, yc4, yc5, yc6, yc7, yc8, yc9, yc10, yc11⟩ := kc
        obtain ⟨yf0, yf1, yf2, yf3, yf4, yf5, yf6, yf7, yf8, yf9, yf10, yf11⟩ := kf
        go_wp2_with fail
        refine (IH1 _ hC).out.mono ?_
        rintro e w1 ⟨rfl, v1, hC1, hK1, hv1⟩
        have hT1 := hT.chg hK1 (by intro q hq; simp only [List.mem_cons, List.not_mem_nil, or_false] at hq; rcases hq with rfl | rfl | rfl | rfl | rfl | rfl | rfl | rfl | rfl | rfl | rfl | rfl <;> (simp <;> omega)) (by intro q hq; simp only [List.mem_cons, List.not_mem_nil, or_false] at hq; rcases hq with rfl | rfl | rfl | rfl | rfl | rfl | rfl | rfl | rfl | rfl | rfl | rfl <;> (intro e; have := hbs _ e; simp at this <;> omega)) (Nat.zero_le _) (fun _ _ => Nat.zero_le _)
        have hK := hK.trans hK1 (Or.inl rfl)
        clear hT hC hK1 yc0 yf0 yc1 yf1 yc2 yf2 yc3 yf3 yc4 yf4 yc5 yf5 yc6 yf6 yc7 yf7 yc8 yf8 yc9 yf9 yc10 yf10 yc11 yf11
        have kc := hT1.cells
        have kf := hT1.frz
        simp only [List.forall_mem_cons, List.not_mem_nil, false_implies, implies_true, and_true] at kc kf
        obtain ⟨yc0, yc1, yc2, yc3, yc4, yc5, yc6, yc7, yc8, yc9, yc10, yc11⟩ := kc
        obtain ⟨yf0, yf1, yf2, yf3, yf4, yf5, yf6, yf7, yf8, yf9, yf10, yf11⟩ := kf
        go_wp2_with fail
        refine (IH2 v1 _ hC1).out.mono ?_
        rintro e w2 ⟨rfl, v2, hC2, hK2, hv2⟩
        have hK := hK.trans hK2 (hv1.imp_right (fun h => h.imp fun g h => ⟨h.1, by omega⟩))
        go_wp2_with fail
        go_end0
        refine ⟨rfl, v2, ?_, hK, ?_⟩
        · rw [List.length_append, List.flatMap_append, ← Nat.add_assoc, ← List.append_assoc]; exact hC2
        · rcases hv2 with h2 | ⟨g2, h2, h3⟩
          · rcases hv1 with h1 | ⟨g1, h1, h3⟩
            · exact Or.inl (h2.trans h1)
            · exact Or.inr ⟨g1, h2.trans h1, by omega⟩
          · exact Or.inr ⟨g2, h2, by have := hT1.lt; omega⟩
end Go.Proofs.Ytkjjoclbjkpdaaa
