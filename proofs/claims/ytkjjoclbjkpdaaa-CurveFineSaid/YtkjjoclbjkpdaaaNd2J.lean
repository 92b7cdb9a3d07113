/- Proved here: a vector that is turned by quarters; ranges as stated. -/
import Derived.Test.YtkjjoclbjkpdaaaNd1J
namespace Go.Proofs.Ytkjjoclbjkpdaaa
open Go.RowKit
set_option linter.unusedVariables false
set_option linter.unusedSimpArgs false
def tuX (r k : Int) : Int := if k % 4 = 0 then r else if k % 4 = 2 then -r else 0
def tuY (r k : Int) : Int := if k % 4 = 1 then r else if k % 4 = 3 then -r else 0
def c4 (x0 x1 x2 x3 : Int) (j : Nat) : Int := if j = 0 then x0 else if j = 1 then x1 else if j = 2 then x2 else x3
/-- a literal list of four numbers in a block -/
def Four (h : Nat) (x0 x1 x2 x3 : Int) (w : World) : Prop := (∀ j, j < 4 → w.cell? ⟨h, j, none⟩ = some (.int .i64 (c4 x0 x1 x2 x3 j))) ∧ h < w.heap.size
theorem Four.next {h : Nat} {x0 x1 x2 x3 : Int} {w w' : World} (f : Four h x0 x1 x2 x3 w) (hb : Below w.heap.size w w') : Four h x0 x1 x2 x3 w' :=
  ⟨fun j hj => (hb.cell (p := ⟨h, j, none⟩) f.2).trans (f.1 j hj), Nat.lt_of_lt_of_le f.2 hb.size⟩
theorem Four.fresh (w : World) (x0 x1 x2 x3 : Int) (T : TypeId) : Four w.heap.size x0 x1 x2 x3 (w.alloc (.cells #[.int .i64 x0, .int .i64 x1, .int .i64 x2, .int .i64 x3] T)) := by
  refine ⟨fun j hj => ?_, by simp⟩
  have : j = 0 ∨ j = 1 ∨ j = 2 ∨ j = 3 := by omega
  rcases this with rfl | rfl | rfl | rfl <;> simp [go_sem, c4]
structure TuI0 (r : Int) (w0 : World) (A : Act) (h g : Nat) (L : Nat → Bool) (a : Act) (w : World) : Prop where
  off : OffOf [6, 7, 8, 9, 10, 11, 12, 13, 14, 15, 16, 17, 18, 19, 20, 21, 4, 5] A a
  k0 : L 0 = true → a.tmps[6]? = some (.int .i64 (r))
  k1 : L 1 = true → a.tmps[7]? = some (.int .i64 (r))
  k2 : L 2 = true → a.tmps[8]? = some (.int .i64 (-r))
  k3 : L 3 = true → a.tmps[9]? = some (.slice (some ⟨h, 0, none⟩) 4 4)
  k4 : L 4 = true → a.tmps[10]? = some (.int .i64 (0))
  k5 : L 5 = true → a.tmps[11]? = some (.int .i64 (0))
  k6 : L 6 = true → a.tmps[12]? = some (.pointer (some ⟨h, 0, none⟩))
  k7 : L 7 = true → a.tmps[13]? = some (.int .i64 (r))
  k8 : L 8 = true → a.tmps[14]? = some (.int .i64 (r))
  k9 : L 9 = true → a.tmps[15]? = some (.int .i64 (r))
  k10 : L 10 = true → a.tmps[16]? = some (.int .i64 (-r))
  k11 : L 11 = true → a.tmps[17]? = some (.slice (some ⟨g, 0, none⟩) 4 4)
  k12 : L 12 = true → a.tmps[18]? = some (.int .i64 (0))
  k13 : L 13 = true → a.tmps[19]? = some (.int .i64 (0))
  k14 : L 14 = true → a.tmps[20]? = some (.pointer (some ⟨g, 0, none⟩))
  k15 : L 15 = true → a.tmps[21]? = some (.int .i64 (0))
  k16 : L 16 = true → a.tmps[4]? = some (.int .i64 (r))
  k17 : L 17 = true → a.tmps[5]? = some (.int .i64 (0))
  be : Below w0.heap.size w0 w
  d6 : L 6 = true → L 3 = true
  d14 : L 14 = true → L 11 = true
  f : L 3 = true → Four h r 0 (-r) 0 w
  g' : L 11 = true → Four g 0 r 0 (-r) w
set_option maxHeartbeats 4000000 in
theorem turned_0 (r : Int) (w : World) (h1 : 0 ≤ r) (h2 : r ≤ 1000000) :
    Calls Try.prog 53 #[.int .i64 r, .int .i64 0] w fun e w' => e = .returned (.tuple #[.int .i64 (r), .int .i64 (0)]) ∧ Below w.heap.size w w' := by
  go_enter Try.func53, Try.ntmps53
  go_upto_region 1 with fail
  generalize hA : (Act.mk _ _) = A
  have hsz : A.tmps.size = 22 := by rw [← hA]; rfl
  have hA0 : A.tmps[0]? = some (.int .i64 r) := by rw [← hA]; rfl
  have hA1 : A.tmps[1]? = some (.int .i64 0) := by rw [← hA]; rfl
  have HA := Lib.hid hA
  clear hA
  refine wp_region_inv (fun L a wx => ∃ h g, TuI0 r w A h g L a wx) (by kernel_rfl) (by kernel_rfl) ?_ ?_ ?_
  · have hD := (Below.refl w.heap.size w).drew
    exact ⟨0, 0, by constructor <;> first | exact OffOf.refl _ _ | exact hD | (intro h; exact nomatch h)⟩
  · intro i o ho L a wx hI hLi hdeps K hK'
    obtain ⟨h, g, h'⟩ := hI
    match i, ho, hLi, hK' with
    | 0, ho, hLi, hK' =>
      cases ho
      have ea := (h'.off.off 0 (by decide)).trans hA0
      go_simp
      exact hK' _ _ ⟨h, g, { off := h'.off.put (by decide) _, k0 := fun _ => put_at _ (by have := h'.off.size; omega), k1 := fun q => put_ne _ (by decide) (h'.k1 (by simpa using q)), k2 := fun q => put_ne _ (by decide) (h'.k2 (by simpa using q)), k3 := fun q => put_ne _ (by decide) (h'.k3 (by simpa using q)), k4 := fun q => put_ne _ (by decide) (h'.k4 (by simpa using q)), k5 := fun q => put_ne _ (by decide) (h'.k5 (by simpa using q)), k6 := fun q => put_ne _ (by decide) (h'.k6 (by simpa using q)), k7 := fun q => put_ne _ (by decide) (h'.k7 (by simpa using q)), k8 := fun q => put_ne _ (by decide) (h'.k8 (by simpa using q)), k9 := fun q => put_ne _ (by decide) (h'.k9 (by simpa using q)), k10 := fun q => put_ne _ (by decide) (h'.k10 (by simpa using q)), k11 := fun q => put_ne _ (by decide) (h'.k11 (by simpa using q)), k12 := fun q => put_ne _ (by decide) (h'.k12 (by simpa using q)), k13 := fun q => put_ne _ (by decide) (h'.k13 (by simpa using q)), k14 := fun q => put_ne _ (by decide) (h'.k14 (by simpa using q)), k15 := fun q => put_ne _ (by decide) (h'.k15 (by simpa using q)), k16 := fun q => put_ne _ (by decide) (h'.k16 (by simpa using q)), k17 := fun q => put_ne _ (by decide) (h'.k17 (by simpa using q)), be := h'.be, d6 := fun q => by simpa using h'.d6 (by simpa using q), d14 := fun q => by simpa using h'.d14 (by simpa using q), f := fun q => h'.f (by simpa using q), g' := fun q => h'.g' (by simpa using q) }⟩
    | 1, ho, hLi, hK' =>
      cases ho
      have ea := (h'.off.off 0 (by decide)).trans hA0
      go_simp
      exact hK' _ _ ⟨h, g, { off := h'.off.put (by decide) _, k0 := fun q => put_ne _ (by decide) (h'.k0 (by simpa using q)), k1 := fun _ => put_at _ (by have := h'.off.size; omega), k2 := fun q => put_ne _ (by decide) (h'.k2 (by simpa using q)), k3 := fun q => put_ne _ (by decide) (h'.k3 (by simpa using q)), k4 := fun q => put_ne _ (by decide) (h'.k4 (by simpa using q)), k5 := fun q => put_ne _ (by decide) (h'.k5 (by simpa using q)), k6 := fun q => put_ne _ (by decide) (h'.k6 (by simpa using q)), k7 := fun q => put_ne _ (by decide) (h'.k7 (by simpa using q)), k8 := fun q => put_ne _ (by decide) (h'.k8 (by simpa using q)), k9 := fun q => put_ne _ (by decide) (h'.k9 (by simpa using q)), k10 := fun q => put_ne _ (by decide) (h'.k10 (by simpa using q)), k11 := fun q => put_ne _ (by decide) (h'.k11 (by simpa using q)), k12 := fun q => put_ne _ (by decide) (h'.k12 (by simpa using q)), k13 := fun q => put_ne _ (by decide) (h'.k13 (by simpa using q)), k14 := fun q => put_ne _ (by decide) (h'.k14 (by simpa using q)), k15 := fun q => put_ne _ (by decide) (h'.k15 (by simpa using q)), k16 := fun q => put_ne _ (by decide) (h'.k16 (by simpa using q)), k17 := fun q => put_ne _ (by decide) (h'.k17 (by simpa using q)), be := h'.be, d6 := fun q => by simpa using h'.d6 (by simpa using q), d14 := fun q => by simpa using h'.d14 (by simpa using q), f := fun q => h'.f (by simpa using q), g' := fun q => h'.g' (by simpa using q) }⟩
    | 2, ho, hLi, hK' =>
      cases ho
      have ea := h'.k1 (hdeps ⟨1, .data⟩ (by simp) (by rfl))
      have wn : IntKind.i64.wrap (-r) = -r := wr_in (by omega) (by omega)
      go_simp
      try rewrite [wn]
      exact hK' _ _ ⟨h, g, { off := h'.off.put (by decide) _, k0 := fun q => put_ne _ (by decide) (h'.k0 (by simpa using q)), k1 := fun q => put_ne _ (by decide) (h'.k1 (by simpa using q)), k2 := fun _ => put_at _ (by have := h'.off.size; omega), k3 := fun q => put_ne _ (by decide) (h'.k3 (by simpa using q)), k4 := fun q => put_ne _ (by decide) (h'.k4 (by simpa using q)), k5 := fun q => put_ne _ (by decide) (h'.k5 (by simpa using q)), k6 := fun q => put_ne _ (by decide) (h'.k6 (by simpa using q)), k7 := fun q => put_ne _ (by decide) (h'.k7 (by simpa using q)), k8 := fun q => put_ne _ (by decide) (h'.k8 (by simpa using q)), k9 := fun q => put_ne _ (by decide) (h'.k9 (by simpa using q)), k10 := fun q => put_ne _ (by decide) (h'.k10 (by simpa using q)), k11 := fun q => put_ne _ (by decide) (h'.k11 (by simpa using q)), k12 := fun q => put_ne _ (by decide) (h'.k12 (by simpa using q)), k13 := fun q => put_ne _ (by decide) (h'.k13 (by simpa using q)), k14 := fun q => put_ne _ (by decide) (h'.k14 (by simpa using q)), k15 := fun q => put_ne _ (by decide) (h'.k15 (by simpa using q)), k16 := fun q => put_ne _ (by decide) (h'.k16 (by simpa using q)), k17 := fun q => put_ne _ (by decide) (h'.k17 (by simpa using q)), be := h'.be, d6 := fun q => by simpa using h'.d6 (by simpa using q), d14 := fun q => by simpa using h'.d14 (by simpa using q), f := fun q => h'.f (by simpa using q), g' := fun q => h'.g' (by simpa using q) }⟩
    | 3, ho, hLi, hK' =>
      cases ho
      have ea := h'.k0 (hdeps ⟨0, .data⟩ (by simp) (by rfl))
      have eb := h'.k2 (hdeps ⟨2, .data⟩ (by simp) (by rfl))
      go_simp
      exact hK' _ _ ⟨wx.heap.size, g, { off := h'.off.put (by decide) _, k0 := fun q => put_ne _ (by decide) (h'.k0 (by simpa using q)), k1 := fun q => put_ne _ (by decide) (h'.k1 (by simpa using q)), k2 := fun q => put_ne _ (by decide) (h'.k2 (by simpa using q)), k3 := fun _ => put_at _ (by have := h'.off.size; omega), k4 := fun q => put_ne _ (by decide) (h'.k4 (by simpa using q)), k5 := fun q => put_ne _ (by decide) (h'.k5 (by simpa using q)), k6 := fun q => absurd (h'.d6 (by simpa using q)) (by simp [hLi]), k7 := fun q => put_ne _ (by decide) (h'.k7 (by simpa using q)), k8 := fun q => put_ne _ (by decide) (h'.k8 (by simpa using q)), k9 := fun q => put_ne _ (by decide) (h'.k9 (by simpa using q)), k10 := fun q => put_ne _ (by decide) (h'.k10 (by simpa using q)), k11 := fun q => put_ne _ (by decide) (h'.k11 (by simpa using q)), k12 := fun q => put_ne _ (by decide) (h'.k12 (by simpa using q)), k13 := fun q => put_ne _ (by decide) (h'.k13 (by simpa using q)), k14 := fun q => put_ne _ (by decide) (h'.k14 (by simpa using q)), k15 := fun q => put_ne _ (by decide) (h'.k15 (by simpa using q)), k16 := fun q => put_ne _ (by decide) (h'.k16 (by simpa using q)), k17 := fun q => put_ne _ (by decide) (h'.k17 (by simpa using q)), be := h'.be.alloc h'.be.size _, d6 := fun _ => by simp, d14 := fun q => by simpa using h'.d14 (by simpa using q), f := fun _ => Four.fresh _ _ _ _ _ _, g' := fun q => (h'.g' (by simpa using q)).next ((Below.refl _ _).alloc (Nat.le_refl _) _) }⟩
    | 4, ho, hLi, hK' =>
      cases ho
      have ea := (h'.off.off 1 (by decide)).trans hA1
      go_simp
      exact hK' _ _ ⟨h, g, { off := h'.off.put (by decide) _, k0 := fun q => put_ne _ (by decide) (h'.k0 (by simpa using q)), k1 := fun q => put_ne _ (by decide) (h'.k1 (by simpa using q)), k2 := fun q => put_ne _ (by decide) (h'.k2 (by simpa using q)), k3 := fun q => put_ne _ (by decide) (h'.k3 (by simpa using q)), k4 := fun _ => put_at _ (by have := h'.off.size; omega), k5 := fun q => put_ne _ (by decide) (h'.k5 (by simpa using q)), k6 := fun q => put_ne _ (by decide) (h'.k6 (by simpa using q)), k7 := fun q => put_ne _ (by decide) (h'.k7 (by simpa using q)), k8 := fun q => put_ne _ (by decide) (h'.k8 (by simpa using q)), k9 := fun q => put_ne _ (by decide) (h'.k9 (by simpa using q)), k10 := fun q => put_ne _ (by decide) (h'.k10 (by simpa using q)), k11 := fun q => put_ne _ (by decide) (h'.k11 (by simpa using q)), k12 := fun q => put_ne _ (by decide) (h'.k12 (by simpa using q)), k13 := fun q => put_ne _ (by decide) (h'.k13 (by simpa using q)), k14 := fun q => put_ne _ (by decide) (h'.k14 (by simpa using q)), k15 := fun q => put_ne _ (by decide) (h'.k15 (by simpa using q)), k16 := fun q => put_ne _ (by decide) (h'.k16 (by simpa using q)), k17 := fun q => put_ne _ (by decide) (h'.k17 (by simpa using q)), be := h'.be, d6 := fun q => by simpa using h'.d6 (by simpa using q), d14 := fun q => by simpa using h'.d14 (by simpa using q), f := fun q => h'.f (by simpa using q), g' := fun q => h'.g' (by simpa using q) }⟩
    | 5, ho, hLi, hK' =>
      cases ho
      have ea := h'.k4 (hdeps ⟨4, .data⟩ (by simp) (by rfl))
      go_simp
      exact hK' _ _ ⟨h, g, { off := h'.off.put (by decide) _, k0 := fun q => put_ne _ (by decide) (h'.k0 (by simpa using q)), k1 := fun q => put_ne _ (by decide) (h'.k1 (by simpa using q)), k2 := fun q => put_ne _ (by decide) (h'.k2 (by simpa using q)), k3 := fun q => put_ne _ (by decide) (h'.k3 (by simpa using q)), k4 := fun q => put_ne _ (by decide) (h'.k4 (by simpa using q)), k5 := fun _ => put_at _ (by have := h'.off.size; omega), k6 := fun q => put_ne _ (by decide) (h'.k6 (by simpa using q)), k7 := fun q => put_ne _ (by decide) (h'.k7 (by simpa using q)), k8 := fun q => put_ne _ (by decide) (h'.k8 (by simpa using q)), k9 := fun q => put_ne _ (by decide) (h'.k9 (by simpa using q)), k10 := fun q => put_ne _ (by decide) (h'.k10 (by simpa using q)), k11 := fun q => put_ne _ (by decide) (h'.k11 (by simpa using q)), k12 := fun q => put_ne _ (by decide) (h'.k12 (by simpa using q)), k13 := fun q => put_ne _ (by decide) (h'.k13 (by simpa using q)), k14 := fun q => put_ne _ (by decide) (h'.k14 (by simpa using q)), k15 := fun q => put_ne _ (by decide) (h'.k15 (by simpa using q)), k16 := fun q => put_ne _ (by decide) (h'.k16 (by simpa using q)), k17 := fun q => put_ne _ (by decide) (h'.k17 (by simpa using q)), be := h'.be, d6 := fun q => by simpa using h'.d6 (by simpa using q), d14 := fun q => by simpa using h'.d14 (by simpa using q), f := fun q => h'.f (by simpa using q), g' := fun q => h'.g' (by simpa using q) }⟩
    | 6, ho, hLi, hK' =>
      cases ho
      have h3 := (hdeps ⟨3, .data⟩ (by simp) (by rfl))
      have ea := h'.k3 h3
      have eb := h'.k5 (hdeps ⟨5, .data⟩ (by simp) (by rfl))
      go_simp
      exact hK' _ _ ⟨h, g, { off := h'.off.put (by decide) _, k0 := fun q => put_ne _ (by decide) (h'.k0 (by simpa using q)), k1 := fun q => put_ne _ (by decide) (h'.k1 (by simpa using q)), k2 := fun q => put_ne _ (by decide) (h'.k2 (by simpa using q)), k3 := fun q => put_ne _ (by decide) (h'.k3 (by simpa using q)), k4 := fun q => put_ne _ (by decide) (h'.k4 (by simpa using q)), k5 := fun q => put_ne _ (by decide) (h'.k5 (by simpa using q)), k6 := fun _ => put_at _ (by have := h'.off.size; omega), k7 := fun q => put_ne _ (by decide) (h'.k7 (by simpa using q)), k8 := fun q => put_ne _ (by decide) (h'.k8 (by simpa using q)), k9 := fun q => put_ne _ (by decide) (h'.k9 (by simpa using q)), k10 := fun q => put_ne _ (by decide) (h'.k10 (by simpa using q)), k11 := fun q => put_ne _ (by decide) (h'.k11 (by simpa using q)), k12 := fun q => put_ne _ (by decide) (h'.k12 (by simpa using q)), k13 := fun q => put_ne _ (by decide) (h'.k13 (by simpa using q)), k14 := fun q => put_ne _ (by decide) (h'.k14 (by simpa using q)), k15 := fun q => put_ne _ (by decide) (h'.k15 (by simpa using q)), k16 := fun q => put_ne _ (by decide) (h'.k16 (by simpa using q)), k17 := fun q => put_ne _ (by decide) (h'.k17 (by simpa using q)), be := h'.be, d6 := fun _ => by simpa using h3, d14 := fun q => by simpa using h'.d14 (by simpa using q), f := fun q => h'.f (by simpa using q), g' := fun q => h'.g' (by simpa using q) }⟩
    | 7, ho, hLi, hK' =>
      cases ho
      have h6 := (hdeps ⟨6, .data⟩ (by simp) (by rfl))
      have ea := h'.k6 h6
      have ec : wx.cell? ⟨h, 0, none⟩ = some (.int .i64 (r)) := (h'.f (h'.d6 h6)).1 0 (by decide)
      go_simp
      exact hK' _ _ ⟨h, g, { off := h'.off.put (by decide) _, k0 := fun q => put_ne _ (by decide) (h'.k0 (by simpa using q)), k1 := fun q => put_ne _ (by decide) (h'.k1 (by simpa using q)), k2 := fun q => put_ne _ (by decide) (h'.k2 (by simpa using q)), k3 := fun q => put_ne _ (by decide) (h'.k3 (by simpa using q)), k4 := fun q => put_ne _ (by decide) (h'.k4 (by simpa using q)), k5 := fun q => put_ne _ (by decide) (h'.k5 (by simpa using q)), k6 := fun q => put_ne _ (by decide) (h'.k6 (by simpa using q)), k7 := fun _ => put_at _ (by have := h'.off.size; omega), k8 := fun q => put_ne _ (by decide) (h'.k8 (by simpa using q)), k9 := fun q => put_ne _ (by decide) (h'.k9 (by simpa using q)), k10 := fun q => put_ne _ (by decide) (h'.k10 (by simpa using q)), k11 := fun q => put_ne _ (by decide) (h'.k11 (by simpa using q)), k12 := fun q => put_ne _ (by decide) (h'.k12 (by simpa using q)), k13 := fun q => put_ne _ (by decide) (h'.k13 (by simpa using q)), k14 := fun q => put_ne _ (by decide) (h'.k14 (by simpa using q)), k15 := fun q => put_ne _ (by decide) (h'.k15 (by simpa using q)), k16 := fun q => put_ne _ (by decide) (h'.k16 (by simpa using q)), k17 := fun q => put_ne _ (by decide) (h'.k17 (by simpa using q)), be := h'.be, d6 := fun q => by simpa using h'.d6 (by simpa using q), d14 := fun q => by simpa using h'.d14 (by simpa using q), f := fun q => h'.f (by simpa using q), g' := fun q => h'.g' (by simpa using q) }⟩
    | 8, ho, hLi, hK' =>
      cases ho
      have ea := (h'.off.off 0 (by decide)).trans hA0
      go_simp
      exact hK' _ _ ⟨h, g, { off := h'.off.put (by decide) _, k0 := fun q => put_ne _ (by decide) (h'.k0 (by simpa using q)), k1 := fun q => put_ne _ (by decide) (h'.k1 (by simpa using q)), k2 := fun q => put_ne _ (by decide) (h'.k2 (by simpa using q)), k3 := fun q => put_ne _ (by decide) (h'.k3 (by simpa using q)), k4 := fun q => put_ne _ (by decide) (h'.k4 (by simpa using q)), k5 := fun q => put_ne _ (by decide) (h'.k5 (by simpa using q)), k6 := fun q => put_ne _ (by decide) (h'.k6 (by simpa using q)), k7 := fun q => put_ne _ (by decide) (h'.k7 (by simpa using q)), k8 := fun _ => put_at _ (by have := h'.off.size; omega), k9 := fun q => put_ne _ (by decide) (h'.k9 (by simpa using q)), k10 := fun q => put_ne _ (by decide) (h'.k10 (by simpa using q)), k11 := fun q => put_ne _ (by decide) (h'.k11 (by simpa using q)), k12 := fun q => put_ne _ (by decide) (h'.k12 (by simpa using q)), k13 := fun q => put_ne _ (by decide) (h'.k13 (by simpa using q)), k14 := fun q => put_ne _ (by decide) (h'.k14 (by simpa using q)), k15 := fun q => put_ne _ (by decide) (h'.k15 (by simpa using q)), k16 := fun q => put_ne _ (by decide) (h'.k16 (by simpa using q)), k17 := fun q => put_ne _ (by decide) (h'.k17 (by simpa using q)), be := h'.be, d6 := fun q => by simpa using h'.d6 (by simpa using q), d14 := fun q => by simpa using h'.d14 (by simpa using q), f := fun q => h'.f (by simpa using q), g' := fun q => h'.g' (by simpa using q) }⟩
    | 9, ho, hLi, hK' =>
      cases ho
      have ea := (h'.off.off 0 (by decide)).trans hA0
      go_simp
      exact hK' _ _ ⟨h, g, { off := h'.off.put (by decide) _, k0 := fun q => put_ne _ (by decide) (h'.k0 (by simpa using q)), k1 := fun q => put_ne _ (by decide) (h'.k1 (by simpa using q)), k2 := fun q => put_ne _ (by decide) (h'.k2 (by simpa using q)), k3 := fun q => put_ne _ (by decide) (h'.k3 (by simpa using q)), k4 := fun q => put_ne _ (by decide) (h'.k4 (by simpa using q)), k5 := fun q => put_ne _ (by decide) (h'.k5 (by simpa using q)), k6 := fun q => put_ne _ (by decide) (h'.k6 (by simpa using q)), k7 := fun q => put_ne _ (by decide) (h'.k7 (by simpa using q)), k8 := fun q => put_ne _ (by decide) (h'.k8 (by simpa using q)), k9 := fun _ => put_at _ (by have := h'.off.size; omega), k10 := fun q => put_ne _ (by decide) (h'.k10 (by simpa using q)), k11 := fun q => put_ne _ (by decide) (h'.k11 (by simpa using q)), k12 := fun q => put_ne _ (by decide) (h'.k12 (by simpa using q)), k13 := fun q => put_ne _ (by decide) (h'.k13 (by simpa using q)), k14 := fun q => put_ne _ (by decide) (h'.k14 (by simpa using q)), k15 := fun q => put_ne _ (by decide) (h'.k15 (by simpa using q)), k16 := fun q => put_ne _ (by decide) (h'.k16 (by simpa using q)), k17 := fun q => put_ne _ (by decide) (h'.k17 (by simpa using q)), be := h'.be, d6 := fun q => by simpa using h'.d6 (by simpa using q), d14 := fun q => by simpa using h'.d14 (by simpa using q), f := fun q => h'.f (by simpa using q), g' := fun q => h'.g' (by simpa using q) }⟩
    | 10, ho, hLi, hK' =>
      cases ho
      have ea := h'.k9 (hdeps ⟨9, .data⟩ (by simp) (by rfl))
      have wn : IntKind.i64.wrap (-r) = -r := wr_in (by omega) (by omega)
      go_simp
      try rewrite [wn]
      exact hK' _ _ ⟨h, g, { off := h'.off.put (by decide) _, k0 := fun q => put_ne _ (by decide) (h'.k0 (by simpa using q)), k1 := fun q => put_ne _ (by decide) (h'.k1 (by simpa using q)), k2 := fun q => put_ne _ (by decide) (h'.k2 (by simpa using q)), k3 := fun q => put_ne _ (by decide) (h'.k3 (by simpa using q)), k4 := fun q => put_ne _ (by decide) (h'.k4 (by simpa using q)), k5 := fun q => put_ne _ (by decide) (h'.k5 (by simpa using q)), k6 := fun q => put_ne _ (by decide) (h'.k6 (by simpa using q)), k7 := fun q => put_ne _ (by decide) (h'.k7 (by simpa using q)), k8 := fun q => put_ne _ (by decide) (h'.k8 (by simpa using q)), k9 := fun q => put_ne _ (by decide) (h'.k9 (by simpa using q)), k10 := fun _ => put_at _ (by have := h'.off.size; omega), k11 := fun q => put_ne _ (by decide) (h'.k11 (by simpa using q)), k12 := fun q => put_ne _ (by decide) (h'.k12 (by simpa using q)), k13 := fun q => put_ne _ (by decide) (h'.k13 (by simpa using q)), k14 := fun q => put_ne _ (by decide) (h'.k14 (by simpa using q)), k15 := fun q => put_ne _ (by decide) (h'.k15 (by simpa using q)), k16 := fun q => put_ne _ (by decide) (h'.k16 (by simpa using q)), k17 := fun q => put_ne _ (by decide) (h'.k17 (by simpa using q)), be := h'.be, d6 := fun q => by simpa using h'.d6 (by simpa using q), d14 := fun q => by simpa using h'.d14 (by simpa using q), f := fun q => h'.f (by simpa using q), g' := fun q => h'.g' (by simpa using q) }⟩
    | 11, ho, hLi, hK' =>
      cases ho
      have ea := h'.k8 (hdeps ⟨8, .data⟩ (by simp) (by rfl))
      have eb := h'.k10 (hdeps ⟨10, .data⟩ (by simp) (by rfl))
      go_simp
      exact hK' _ _ ⟨h, wx.heap.size, { off := h'.off.put (by decide) _, k0 := fun q => put_ne _ (by decide) (h'.k0 (by simpa using q)), k1 := fun q => put_ne _ (by decide) (h'.k1 (by simpa using q)), k2 := fun q => put_ne _ (by decide) (h'.k2 (by simpa using q)), k3 := fun q => put_ne _ (by decide) (h'.k3 (by simpa using q)), k4 := fun q => put_ne _ (by decide) (h'.k4 (by simpa using q)), k5 := fun q => put_ne _ (by decide) (h'.k5 (by simpa using q)), k6 := fun q => put_ne _ (by decide) (h'.k6 (by simpa using q)), k7 := fun q => put_ne _ (by decide) (h'.k7 (by simpa using q)), k8 := fun q => put_ne _ (by decide) (h'.k8 (by simpa using q)), k9 := fun q => put_ne _ (by decide) (h'.k9 (by simpa using q)), k10 := fun q => put_ne _ (by decide) (h'.k10 (by simpa using q)), k11 := fun _ => put_at _ (by have := h'.off.size; omega), k12 := fun q => put_ne _ (by decide) (h'.k12 (by simpa using q)), k13 := fun q => put_ne _ (by decide) (h'.k13 (by simpa using q)), k14 := fun q => absurd (h'.d14 (by simpa using q)) (by simp [hLi]), k15 := fun q => put_ne _ (by decide) (h'.k15 (by simpa using q)), k16 := fun q => put_ne _ (by decide) (h'.k16 (by simpa using q)), k17 := fun q => put_ne _ (by decide) (h'.k17 (by simpa using q)), be := h'.be.alloc h'.be.size _, d6 := fun q => by simpa using h'.d6 (by simpa using q), d14 := fun _ => by simp, f := fun q => (h'.f (by simpa using q)).next ((Below.refl _ _).alloc (Nat.le_refl _) _), g' := fun _ => Four.fresh _ _ _ _ _ _ }⟩
    | 12, ho, hLi, hK' =>
      cases ho
      have ea := (h'.off.off 1 (by decide)).trans hA1
      go_simp
      exact hK' _ _ ⟨h, g, { off := h'.off.put (by decide) _, k0 := fun q => put_ne _ (by decide) (h'.k0 (by simpa using q)), k1 := fun q => put_ne _ (by decide) (h'.k1 (by simpa using q)), k2 := fun q => put_ne _ (by decide) (h'.k2 (by simpa using q)), k3 := fun q => put_ne _ (by decide) (h'.k3 (by simpa using q)), k4 := fun q => put_ne _ (by decide) (h'.k4 (by simpa using q)), k5 := fun q => put_ne _ (by decide) (h'.k5 (by simpa using q)), k6 := fun q => put_ne _ (by decide) (h'.k6 (by simpa using q)), k7 := fun q => put_ne _ (by decide) (h'.k7 (by simpa using q)), k8 := fun q => put_ne _ (by decide) (h'.k8 (by simpa using q)), k9 := fun q => put_ne _ (by decide) (h'.k9 (by simpa using q)), k10 := fun q => put_ne _ (by decide) (h'.k10 (by simpa using q)), k11 := fun q => put_ne _ (by decide) (h'.k11 (by simpa using q)), k12 := fun _ => put_at _ (by have := h'.off.size; omega), k13 := fun q => put_ne _ (by decide) (h'.k13 (by simpa using q)), k14 := fun q => put_ne _ (by decide) (h'.k14 (by simpa using q)), k15 := fun q => put_ne _ (by decide) (h'.k15 (by simpa using q)), k16 := fun q => put_ne _ (by decide) (h'.k16 (by simpa using q)), k17 := fun q => put_ne _ (by decide) (h'.k17 (by simpa using q)), be := h'.be, d6 := fun q => by simpa using h'.d6 (by simpa using q), d14 := fun q => by simpa using h'.d14 (by simpa using q), f := fun q => h'.f (by simpa using q), g' := fun q => h'.g' (by simpa using q) }⟩
    | 13, ho, hLi, hK' =>
      cases ho
      have ea := h'.k12 (hdeps ⟨12, .data⟩ (by simp) (by rfl))
      go_simp
      exact hK' _ _ ⟨h, g, { off := h'.off.put (by decide) _, k0 := fun q => put_ne _ (by decide) (h'.k0 (by simpa using q)), k1 := fun q => put_ne _ (by decide) (h'.k1 (by simpa using q)), k2 := fun q => put_ne _ (by decide) (h'.k2 (by simpa using q)), k3 := fun q => put_ne _ (by decide) (h'.k3 (by simpa using q)), k4 := fun q => put_ne _ (by decide) (h'.k4 (by simpa using q)), k5 := fun q => put_ne _ (by decide) (h'.k5 (by simpa using q)), k6 := fun q => put_ne _ (by decide) (h'.k6 (by simpa using q)), k7 := fun q => put_ne _ (by decide) (h'.k7 (by simpa using q)), k8 := fun q => put_ne _ (by decide) (h'.k8 (by simpa using q)), k9 := fun q => put_ne _ (by decide) (h'.k9 (by simpa using q)), k10 := fun q => put_ne _ (by decide) (h'.k10 (by simpa using q)), k11 := fun q => put_ne _ (by decide) (h'.k11 (by simpa using q)), k12 := fun q => put_ne _ (by decide) (h'.k12 (by simpa using q)), k13 := fun _ => put_at _ (by have := h'.off.size; omega), k14 := fun q => put_ne _ (by decide) (h'.k14 (by simpa using q)), k15 := fun q => put_ne _ (by decide) (h'.k15 (by simpa using q)), k16 := fun q => put_ne _ (by decide) (h'.k16 (by simpa using q)), k17 := fun q => put_ne _ (by decide) (h'.k17 (by simpa using q)), be := h'.be, d6 := fun q => by simpa using h'.d6 (by simpa using q), d14 := fun q => by simpa using h'.d14 (by simpa using q), f := fun q => h'.f (by simpa using q), g' := fun q => h'.g' (by simpa using q) }⟩
    | 14, ho, hLi, hK' =>
      cases ho
      have h11 := (hdeps ⟨11, .data⟩ (by simp) (by rfl))
      have ea := h'.k11 h11
      have eb := h'.k13 (hdeps ⟨13, .data⟩ (by simp) (by rfl))
      go_simp
      exact hK' _ _ ⟨h, g, { off := h'.off.put (by decide) _, k0 := fun q => put_ne _ (by decide) (h'.k0 (by simpa using q)), k1 := fun q => put_ne _ (by decide) (h'.k1 (by simpa using q)), k2 := fun q => put_ne _ (by decide) (h'.k2 (by simpa using q)), k3 := fun q => put_ne _ (by decide) (h'.k3 (by simpa using q)), k4 := fun q => put_ne _ (by decide) (h'.k4 (by simpa using q)), k5 := fun q => put_ne _ (by decide) (h'.k5 (by simpa using q)), k6 := fun q => put_ne _ (by decide) (h'.k6 (by simpa using q)), k7 := fun q => put_ne _ (by decide) (h'.k7 (by simpa using q)), k8 := fun q => put_ne _ (by decide) (h'.k8 (by simpa using q)), k9 := fun q => put_ne _ (by decide) (h'.k9 (by simpa using q)), k10 := fun q => put_ne _ (by decide) (h'.k10 (by simpa using q)), k11 := fun q => put_ne _ (by decide) (h'.k11 (by simpa using q)), k12 := fun q => put_ne _ (by decide) (h'.k12 (by simpa using q)), k13 := fun q => put_ne _ (by decide) (h'.k13 (by simpa using q)), k14 := fun _ => put_at _ (by have := h'.off.size; omega), k15 := fun q => put_ne _ (by decide) (h'.k15 (by simpa using q)), k16 := fun q => put_ne _ (by decide) (h'.k16 (by simpa using q)), k17 := fun q => put_ne _ (by decide) (h'.k17 (by simpa using q)), be := h'.be, d6 := fun q => by simpa using h'.d6 (by simpa using q), d14 := fun _ => by simpa using h11, f := fun q => h'.f (by simpa using q), g' := fun q => h'.g' (by simpa using q) }⟩
    | 15, ho, hLi, hK' =>
      cases ho
      have h14 := (hdeps ⟨14, .data⟩ (by simp) (by rfl))
      have ea := h'.k14 h14
      have ec : wx.cell? ⟨g, 0, none⟩ = some (.int .i64 (0)) := (h'.g' (h'.d14 h14)).1 0 (by decide)
      go_simp
      exact hK' _ _ ⟨h, g, { off := h'.off.put (by decide) _, k0 := fun q => put_ne _ (by decide) (h'.k0 (by simpa using q)), k1 := fun q => put_ne _ (by decide) (h'.k1 (by simpa using q)), k2 := fun q => put_ne _ (by decide) (h'.k2 (by simpa using q)), k3 := fun q => put_ne _ (by decide) (h'.k3 (by simpa using q)), k4 := fun q => put_ne _ (by decide) (h'.k4 (by simpa using q)), k5 := fun q => put_ne _ (by decide) (h'.k5 (by simpa using q)), k6 := fun q => put_ne _ (by decide) (h'.k6 (by simpa using q)), k7 := fun q => put_ne _ (by decide) (h'.k7 (by simpa using q)), k8 := fun q => put_ne _ (by decide) (h'.k8 (by simpa using q)), k9 := fun q => put_ne _ (by decide) (h'.k9 (by simpa using q)), k10 := fun q => put_ne _ (by decide) (h'.k10 (by simpa using q)), k11 := fun q => put_ne _ (by decide) (h'.k11 (by simpa using q)), k12 := fun q => put_ne _ (by decide) (h'.k12 (by simpa using q)), k13 := fun q => put_ne _ (by decide) (h'.k13 (by simpa using q)), k14 := fun q => put_ne _ (by decide) (h'.k14 (by simpa using q)), k15 := fun _ => put_at _ (by have := h'.off.size; omega), k16 := fun q => put_ne _ (by decide) (h'.k16 (by simpa using q)), k17 := fun q => put_ne _ (by decide) (h'.k17 (by simpa using q)), be := h'.be, d6 := fun q => by simpa using h'.d6 (by simpa using q), d14 := fun q => by simpa using h'.d14 (by simpa using q), f := fun q => h'.f (by simpa using q), g' := fun q => h'.g' (by simpa using q) }⟩
    | 16, ho, hLi, hK' =>
      cases ho
      have ea := h'.k7 (hdeps ⟨7, .data⟩ (by simp) (by rfl))
      go_simp
      exact hK' _ _ ⟨h, g, { off := h'.off.put (by decide) _, k0 := fun q => put_ne _ (by decide) (h'.k0 (by simpa using q)), k1 := fun q => put_ne _ (by decide) (h'.k1 (by simpa using q)), k2 := fun q => put_ne _ (by decide) (h'.k2 (by simpa using q)), k3 := fun q => put_ne _ (by decide) (h'.k3 (by simpa using q)), k4 := fun q => put_ne _ (by decide) (h'.k4 (by simpa using q)), k5 := fun q => put_ne _ (by decide) (h'.k5 (by simpa using q)), k6 := fun q => put_ne _ (by decide) (h'.k6 (by simpa using q)), k7 := fun q => put_ne _ (by decide) (h'.k7 (by simpa using q)), k8 := fun q => put_ne _ (by decide) (h'.k8 (by simpa using q)), k9 := fun q => put_ne _ (by decide) (h'.k9 (by simpa using q)), k10 := fun q => put_ne _ (by decide) (h'.k10 (by simpa using q)), k11 := fun q => put_ne _ (by decide) (h'.k11 (by simpa using q)), k12 := fun q => put_ne _ (by decide) (h'.k12 (by simpa using q)), k13 := fun q => put_ne _ (by decide) (h'.k13 (by simpa using q)), k14 := fun q => put_ne _ (by decide) (h'.k14 (by simpa using q)), k15 := fun q => put_ne _ (by decide) (h'.k15 (by simpa using q)), k16 := fun _ => put_at _ (by have := h'.off.size; omega), k17 := fun q => put_ne _ (by decide) (h'.k17 (by simpa using q)), be := h'.be, d6 := fun q => by simpa using h'.d6 (by simpa using q), d14 := fun q => by simpa using h'.d14 (by simpa using q), f := fun q => h'.f (by simpa using q), g' := fun q => h'.g' (by simpa using q) }⟩
    | 17, ho, hLi, hK' =>
      cases ho
      have ea := h'.k15 (hdeps ⟨15, .data⟩ (by simp) (by rfl))
      go_simp
      exact hK' _ _ ⟨h, g, { off := h'.off.put (by decide) _, k0 := fun q => put_ne _ (by decide) (h'.k0 (by simpa using q)), k1 := fun q => put_ne _ (by decide) (h'.k1 (by simpa using q)), k2 := fun q => put_ne _ (by decide) (h'.k2 (by simpa using q)), k3 := fun q => put_ne _ (by decide) (h'.k3 (by simpa using q)), k4 := fun q => put_ne _ (by decide) (h'.k4 (by simpa using q)), k5 := fun q => put_ne _ (by decide) (h'.k5 (by simpa using q)), k6 := fun q => put_ne _ (by decide) (h'.k6 (by simpa using q)), k7 := fun q => put_ne _ (by decide) (h'.k7 (by simpa using q)), k8 := fun q => put_ne _ (by decide) (h'.k8 (by simpa using q)), k9 := fun q => put_ne _ (by decide) (h'.k9 (by simpa using q)), k10 := fun q => put_ne _ (by decide) (h'.k10 (by simpa using q)), k11 := fun q => put_ne _ (by decide) (h'.k11 (by simpa using q)), k12 := fun q => put_ne _ (by decide) (h'.k12 (by simpa using q)), k13 := fun q => put_ne _ (by decide) (h'.k13 (by simpa using q)), k14 := fun q => put_ne _ (by decide) (h'.k14 (by simpa using q)), k15 := fun q => put_ne _ (by decide) (h'.k15 (by simpa using q)), k16 := fun q => put_ne _ (by decide) (h'.k16 (by simpa using q)), k17 := fun _ => put_at _ (by have := h'.off.size; omega), be := h'.be, d6 := fun q => by simpa using h'.d6 (by simpa using q), d14 := fun q => by simpa using h'.d14 (by simpa using q), f := fun q => h'.f (by simpa using q), g' := fun q => h'.g' (by simpa using q) }⟩
    | i + 18, ho, hLi, hK' => cases ho
  · intro L a wx hI hall
    obtain ⟨h, g, h'⟩ := hI
    have hfr := h'.off.rebuild (fun d => if d = 6 then .int .i64 (r) else if d = 7 then .int .i64 (r) else if d = 8 then .int .i64 (-r) else if d = 9 then .slice (some ⟨h, 0, none⟩) 4 4 else if d = 10 then .int .i64 (0) else if d = 11 then .int .i64 (0) else if d = 12 then .pointer (some ⟨h, 0, none⟩) else if d = 13 then .int .i64 (r) else if d = 14 then .int .i64 (r) else if d = 15 then .int .i64 (r) else if d = 16 then .int .i64 (-r) else if d = 17 then .slice (some ⟨g, 0, none⟩) 4 4 else if d = 18 then .int .i64 (0) else if d = 19 then .int .i64 (0) else if d = 20 then .pointer (some ⟨g, 0, none⟩) else if d = 21 then .int .i64 (0) else if d = 4 then .int .i64 (r) else if d = 5 then .int .i64 (0) else undef) (by
      intro d hd
      simp only [List.mem_cons, List.not_mem_nil, or_false] at hd
      rcases hd with rfl | rfl | rfl | rfl | rfl | rfl | rfl | rfl | rfl | rfl | rfl | rfl | rfl | rfl | rfl | rfl | rfl | rfl
      · exact h'.k0 (hall 0 (by decide))
      · exact h'.k1 (hall 1 (by decide))
      · exact h'.k2 (hall 2 (by decide))
      · exact h'.k3 (hall 3 (by decide))
      · exact h'.k4 (hall 4 (by decide))
      · exact h'.k5 (hall 5 (by decide))
      · exact h'.k6 (hall 6 (by decide))
      · exact h'.k7 (hall 7 (by decide))
      · exact h'.k8 (hall 8 (by decide))
      · exact h'.k9 (hall 9 (by decide))
      · exact h'.k10 (hall 10 (by decide))
      · exact h'.k11 (hall 11 (by decide))
      · exact h'.k12 (hall 12 (by decide))
      · exact h'.k13 (hall 13 (by decide))
      · exact h'.k14 (hall 14 (by decide))
      · exact h'.k15 (hall 15 (by decide))
      · exact h'.k16 (hall 16 (by decide))
      · exact h'.k17 (hall 17 (by decide))
      )
    simp only [List.foldl_cons, List.foldl_nil] at hfr
    rw [← HA.out] at hfr
    have hB := h'.be
    rw [hfr]
    clear hfr h' hall HA hsz hA0 hA1
    simp [Act.put]
    go_wp2_with fail
    go_ret2
    exact ⟨rfl, hB⟩
structure TuI1 (r : Int) (w0 : World) (A : Act) (h g : Nat) (L : Nat → Bool) (a : Act) (w : World) : Prop where
  off : OffOf [6, 7, 8, 9, 10, 11, 12, 13, 14, 15, 16, 17, 18, 19, 20, 21, 4, 5] A a
  k0 : L 0 = true → a.tmps[6]? = some (.int .i64 (r))
  k1 : L 1 = true → a.tmps[7]? = some (.int .i64 (r))
  k2 : L 2 = true → a.tmps[8]? = some (.int .i64 (-r))
  k3 : L 3 = true → a.tmps[9]? = some (.slice (some ⟨h, 0, none⟩) 4 4)
  k4 : L 4 = true → a.tmps[10]? = some (.int .i64 (1))
  k5 : L 5 = true → a.tmps[11]? = some (.int .i64 (1))
  k6 : L 6 = true → a.tmps[12]? = some (.pointer (some ⟨h, 1, none⟩))
  k7 : L 7 = true → a.tmps[13]? = some (.int .i64 (0))
  k8 : L 8 = true → a.tmps[14]? = some (.int .i64 (r))
  k9 : L 9 = true → a.tmps[15]? = some (.int .i64 (r))
  k10 : L 10 = true → a.tmps[16]? = some (.int .i64 (-r))
  k11 : L 11 = true → a.tmps[17]? = some (.slice (some ⟨g, 0, none⟩) 4 4)
  k12 : L 12 = true → a.tmps[18]? = some (.int .i64 (1))
  k13 : L 13 = true → a.tmps[19]? = some (.int .i64 (1))
  k14 : L 14 = true → a.tmps[20]? = some (.pointer (some ⟨g, 1, none⟩))
  k15 : L 15 = true → a.tmps[21]? = some (.int .i64 (r))
  k16 : L 16 = true → a.tmps[4]? = some (.int .i64 (0))
  k17 : L 17 = true → a.tmps[5]? = some (.int .i64 (r))
  be : Below w0.heap.size w0 w
  d6 : L 6 = true → L 3 = true
  d14 : L 14 = true → L 11 = true
  f : L 3 = true → Four h r 0 (-r) 0 w
  g' : L 11 = true → Four g 0 r 0 (-r) w
set_option maxHeartbeats 4000000 in
theorem turned_1 (r : Int) (w : World) (h1 : 0 ≤ r) (h2 : r ≤ 1000000) :
    Calls Try.prog 53 #[.int .i64 r, .int .i64 1] w fun e w' => e = .returned (.tuple #[.int .i64 (0), .int .i64 (r)]) ∧ Below w.heap.size w w' := by
  go_enter Try.func53, Try.ntmps53
  go_upto_region 1 with fail
  generalize hA : (Act.mk _ _) = A
  have hsz : A.tmps.size = 22 := by rw [← hA]; rfl
  have hA0 : A.tmps[0]? = some (.int .i64 r) := by rw [← hA]; rfl
  have hA1 : A.tmps[1]? = some (.int .i64 1) := by rw [← hA]; rfl
  have HA := Lib.hid hA
  clear hA
  refine wp_region_inv (fun L a wx => ∃ h g, TuI1 r w A h g L a wx) (by kernel_rfl) (by kernel_rfl) ?_ ?_ ?_
  · have hD := (Below.refl w.heap.size w).drew
    exact ⟨0, 0, by constructor <;> first | exact OffOf.refl _ _ | exact hD | (intro h; exact nomatch h)⟩
  · intro i o ho L a wx hI hLi hdeps K hK'
    obtain ⟨h, g, h'⟩ := hI
    match i, ho, hLi, hK' with
    | 0, ho, hLi, hK' =>
      cases ho
      have ea := (h'.off.off 0 (by decide)).trans hA0
      go_simp
      exact hK' _ _ ⟨h, g, { off := h'.off.put (by decide) _, k0 := fun _ => put_at _ (by have := h'.off.size; omega), k1 := fun q => put_ne _ (by decide) (h'.k1 (by simpa using q)), k2 := fun q => put_ne _ (by decide) (h'.k2 (by simpa using q)), k3 := fun q => put_ne _ (by decide) (h'.k3 (by simpa using q)), k4 := fun q => put_ne _ (by decide) (h'.k4 (by simpa using q)), k5 := fun q => put_ne _ (by decide) (h'.k5 (by simpa using q)), k6 := fun q => put_ne _ (by decide) (h'.k6 (by simpa using q)), k7 := fun q => put_ne _ (by decide) (h'.k7 (by simpa using q)), k8 := fun q => put_ne _ (by decide) (h'.k8 (by simpa using q)), k9 := fun q => put_ne _ (by decide) (h'.k9 (by simpa using q)), k10 := fun q => put_ne _ (by decide) (h'.k10 (by simpa using q)), k11 := fun q => put_ne _ (by decide) (h'.k11 (by simpa using q)), k12 := fun q => put_ne _ (by decide) (h'.k12 (by simpa using q)), k13 := fun q => put_ne _ (by decide) (h'.k13 (by simpa using q)), k14 := fun q => put_ne _ (by decide) (h'.k14 (by simpa using q)), k15 := fun q => put_ne _ (by decide) (h'.k15 (by simpa using q)), k16 := fun q => put_ne _ (by decide) (h'.k16 (by simpa using q)), k17 := fun q => put_ne _ (by decide) (h'.k17 (by simpa using q)), be := h'.be, d6 := fun q => by simpa using h'.d6 (by simpa using q), d14 := fun q => by simpa using h'.d14 (by simpa using q), f := fun q => h'.f (by simpa using q), g' := fun q => h'.g' (by simpa using q) }⟩
    | 1, ho, hLi, hK' =>
      cases ho
      have ea := (h'.off.off 0 (by decide)).trans hA0
      go_simp
      exact hK' _ _ ⟨h, g, { off := h'.off.put (by decide) _, k0 := fun q => put_ne _ (by decide) (h'.k0 (by simpa using q)), k1 := fun _ => put_at _ (by have := h'.off.size; omega), k2 := fun q => put_ne _ (by decide) (h'.k2 (by simpa using q)), k3 := fun q => put_ne _ (by decide) (h'.k3 (by simpa using q)), k4 := fun q => put_ne _ (by decide) (h'.k4 (by simpa using q)), k5 := fun q => put_ne _ (by decide) (h'.k5 (by simpa using q)), k6 := fun q => put_ne _ (by decide) (h'.k6 (by simpa using q)), k7 := fun q => put_ne _ (by decide) (h'.k7 (by simpa using q)), k8 := fun q => put_ne _ (by decide) (h'.k8 (by simpa using q)), k9 := fun q => put_ne _ (by decide) (h'.k9 (by simpa using q)), k10 := fun q => put_ne _ (by decide) (h'.k10 (by simpa using q)), k11 := fun q => put_ne _ (by decide) (h'.k11 (by simpa using q)), k12 := fun q => put_ne _ (by decide) (h'.k12 (by simpa using q)), k13 := fun q => put_ne _ (by decide) (h'.k13 (by simpa using q)), k14 := fun q => put_ne _ (by decide) (h'.k14 (by simpa using q)), k15 := fun q => put_ne _ (by decide) (h'.k15 (by simpa using q)), k16 := fun q => put_ne _ (by decide) (h'.k16 (by simpa using q)), k17 := fun q => put_ne _ (by decide) (h'.k17 (by simpa using q)), be := h'.be, d6 := fun q => by simpa using h'.d6 (by simpa using q), d14 := fun q => by simpa using h'.d14 (by simpa using q), f := fun q => h'.f (by simpa using q), g' := fun q => h'.g' (by simpa using q) }⟩
    | 2, ho, hLi, hK' =>
      cases ho
      have ea := h'.k1 (hdeps ⟨1, .data⟩ (by simp) (by rfl))
      have wn : IntKind.i64.wrap (-r) = -r := wr_in (by omega) (by omega)
      go_simp
      try rewrite [wn]
      exact hK' _ _ ⟨h, g, { off := h'.off.put (by decide) _, k0 := fun q => put_ne _ (by decide) (h'.k0 (by simpa using q)), k1 := fun q => put_ne _ (by decide) (h'.k1 (by simpa using q)), k2 := fun _ => put_at _ (by have := h'.off.size; omega), k3 := fun q => put_ne _ (by decide) (h'.k3 (by simpa using q)), k4 := fun q => put_ne _ (by decide) (h'.k4 (by simpa using q)), k5 := fun q => put_ne _ (by decide) (h'.k5 (by simpa using q)), k6 := fun q => put_ne _ (by decide) (h'.k6 (by simpa using q)), k7 := fun q => put_ne _ (by decide) (h'.k7 (by simpa using q)), k8 := fun q => put_ne _ (by decide) (h'.k8 (by simpa using q)), k9 := fun q => put_ne _ (by decide) (h'.k9 (by simpa using q)), k10 := fun q => put_ne _ (by decide) (h'.k10 (by simpa using q)), k11 := fun q => put_ne _ (by decide) (h'.k11 (by simpa using q)), k12 := fun q => put_ne _ (by decide) (h'.k12 (by simpa using q)), k13 := fun q => put_ne _ (by decide) (h'.k13 (by simpa using q)), k14 := fun q => put_ne _ (by decide) (h'.k14 (by simpa using q)), k15 := fun q => put_ne _ (by decide) (h'.k15 (by simpa using q)), k16 := fun q => put_ne _ (by decide) (h'.k16 (by simpa using q)), k17 := fun q => put_ne _ (by decide) (h'.k17 (by simpa using q)), be := h'.be, d6 := fun q => by simpa using h'.d6 (by simpa using q), d14 := fun q => by simpa using h'.d14 (by simpa using q), f := fun q => h'.f (by simpa using q), g' := fun q => h'.g' (by simpa using q) }⟩
    | 3, ho, hLi, hK' =>
      cases ho
      have ea := h'.k0 (hdeps ⟨0, .data⟩ (by simp) (by rfl))
      have eb := h'.k2 (hdeps ⟨2, .data⟩ (by simp) (by rfl))
      go_simp
      exact hK' _ _ ⟨wx.heap.size, g, { off := h'.off.put (by decide) _, k0 := fun q => put_ne _ (by decide) (h'.k0 (by simpa using q)), k1 := fun q => put_ne _ (by decide) (h'.k1 (by simpa using q)), k2 := fun q => put_ne _ (by decide) (h'.k2 (by simpa using q)), k3 := fun _ => put_at _ (by have := h'.off.size; omega), k4 := fun q => put_ne _ (by decide) (h'.k4 (by simpa using q)), k5 := fun q => put_ne _ (by decide) (h'.k5 (by simpa using q)), k6 := fun q => absurd (h'.d6 (by simpa using q)) (by simp [hLi]), k7 := fun q => put_ne _ (by decide) (h'.k7 (by simpa using q)), k8 := fun q => put_ne _ (by decide) (h'.k8 (by simpa using q)), k9 := fun q => put_ne _ (by decide) (h'.k9 (by simpa using q)), k10 := fun q => put_ne _ (by decide) (h'.k10 (by simpa using q)), k11 := fun q => put_ne _ (by decide) (h'.k11 (by simpa using q)), k12 := fun q => put_ne _ (by decide) (h'.k12 (by simpa using q)), k13 := fun q => put_ne _ (by decide) (h'.k13 (by simpa using q)), k14 := fun q => put_ne _ (by decide) (h'.k14 (by simpa using q)), k15 := fun q => put_ne _ (by decide) (h'.k15 (by simpa using q)), k16 := fun q => put_ne _ (by decide) (h'.k16 (by simpa using q)), k17 := fun q => put_ne _ (by decide) (h'.k17 (by simpa using q)), be := h'.be.alloc h'.be.size _, d6 := fun _ => by simp, d14 := fun q => by simpa using h'.d14 (by simpa using q), f := fun _ => Four.fresh _ _ _ _ _ _, g' := fun q => (h'.g' (by simpa using q)).next ((Below.refl _ _).alloc (Nat.le_refl _) _) }⟩
    | 4, ho, hLi, hK' =>
      cases ho
      have ea := (h'.off.off 1 (by decide)).trans hA1
      go_simp
      exact hK' _ _ ⟨h, g, { off := h'.off.put (by decide) _, k0 := fun q => put_ne _ (by decide) (h'.k0 (by simpa using q)), k1 := fun q => put_ne _ (by decide) (h'.k1 (by simpa using q)), k2 := fun q => put_ne _ (by decide) (h'.k2 (by simpa using q)), k3 := fun q => put_ne _ (by decide) (h'.k3 (by simpa using q)), k4 := fun _ => put_at _ (by have := h'.off.size; omega), k5 := fun q => put_ne _ (by decide) (h'.k5 (by simpa using q)), k6 := fun q => put_ne _ (by decide) (h'.k6 (by simpa using q)), k7 := fun q => put_ne _ (by decide) (h'.k7 (by simpa using q)), k8 := fun q => put_ne _ (by decide) (h'.k8 (by simpa using q)), k9 := fun q => put_ne _ (by decide) (h'.k9 (by simpa using q)), k10 := fun q => put_ne _ (by decide) (h'.k10 (by simpa using q)), k11 := fun q => put_ne _ (by decide) (h'.k11 (by simpa using q)), k12 := fun q => put_ne _ (by decide) (h'.k12 (by simpa using q)), k13 := fun q => put_ne _ (by decide) (h'.k13 (by simpa using q)), k14 := fun q => put_ne _ (by decide) (h'.k14 (by simpa using q)), k15 := fun q => put_ne _ (by decide) (h'.k15 (by simpa using q)), k16 := fun q => put_ne _ (by decide) (h'.k16 (by simpa using q)), k17 := fun q => put_ne _ (by decide) (h'.k17 (by simpa using q)), be := h'.be, d6 := fun q => by simpa using h'.d6 (by simpa using q), d14 := fun q => by simpa using h'.d14 (by simpa using q), f := fun q => h'.f (by simpa using q), g' := fun q => h'.g' (by simpa using q) }⟩
    | 5, ho, hLi, hK' =>
      cases ho
      have ea := h'.k4 (hdeps ⟨4, .data⟩ (by simp) (by rfl))
      go_simp
      exact hK' _ _ ⟨h, g, { off := h'.off.put (by decide) _, k0 := fun q => put_ne _ (by decide) (h'.k0 (by simpa using q)), k1 := fun q => put_ne _ (by decide) (h'.k1 (by simpa using q)), k2 := fun q => put_ne _ (by decide) (h'.k2 (by simpa using q)), k3 := fun q => put_ne _ (by decide) (h'.k3 (by simpa using q)), k4 := fun q => put_ne _ (by decide) (h'.k4 (by simpa using q)), k5 := fun _ => put_at _ (by have := h'.off.size; omega), k6 := fun q => put_ne _ (by decide) (h'.k6 (by simpa using q)), k7 := fun q => put_ne _ (by decide) (h'.k7 (by simpa using q)), k8 := fun q => put_ne _ (by decide) (h'.k8 (by simpa using q)), k9 := fun q => put_ne _ (by decide) (h'.k9 (by simpa using q)), k10 := fun q => put_ne _ (by decide) (h'.k10 (by simpa using q)), k11 := fun q => put_ne _ (by decide) (h'.k11 (by simpa using q)), k12 := fun q => put_ne _ (by decide) (h'.k12 (by simpa using q)), k13 := fun q => put_ne _ (by decide) (h'.k13 (by simpa using q)), k14 := fun q => put_ne _ (by decide) (h'.k14 (by simpa using q)), k15 := fun q => put_ne _ (by decide) (h'.k15 (by simpa using q)), k16 := fun q => put_ne _ (by decide) (h'.k16 (by simpa using q)), k17 := fun q => put_ne _ (by decide) (h'.k17 (by simpa using q)), be := h'.be, d6 := fun q => by simpa using h'.d6 (by simpa using q), d14 := fun q => by simpa using h'.d14 (by simpa using q), f := fun q => h'.f (by simpa using q), g' := fun q => h'.g' (by simpa using q) }⟩
    | 6, ho, hLi, hK' =>
      cases ho
      have h3 := (hdeps ⟨3, .data⟩ (by simp) (by rfl))
      have ea := h'.k3 h3
      have eb := h'.k5 (hdeps ⟨5, .data⟩ (by simp) (by rfl))
      go_simp
      exact hK' _ _ ⟨h, g, { off := h'.off.put (by decide) _, k0 := fun q => put_ne _ (by decide) (h'.k0 (by simpa using q)), k1 := fun q => put_ne _ (by decide) (h'.k1 (by simpa using q)), k2 := fun q => put_ne _ (by decide) (h'.k2 (by simpa using q)), k3 := fun q => put_ne _ (by decide) (h'.k3 (by simpa using q)), k4 := fun q => put_ne _ (by decide) (h'.k4 (by simpa using q)), k5 := fun q => put_ne _ (by decide) (h'.k5 (by simpa using q)), k6 := fun _ => put_at _ (by have := h'.off.size; omega), k7 := fun q => put_ne _ (by decide) (h'.k7 (by simpa using q)), k8 := fun q => put_ne _ (by decide) (h'.k8 (by simpa using q)), k9 := fun q => put_ne _ (by decide) (h'.k9 (by simpa using q)), k10 := fun q => put_ne _ (by decide) (h'.k10 (by simpa using q)), k11 := fun q => put_ne _ (by decide) (h'.k11 (by simpa using q)), k12 := fun q => put_ne _ (by decide) (h'.k12 (by simpa using q)), k13 := fun q => put_ne _ (by decide) (h'.k13 (by simpa using q)), k14 := fun q => put_ne _ (by decide) (h'.k14 (by simpa using q)), k15 := fun q => put_ne _ (by decide) (h'.k15 (by simpa using q)), k16 := fun q => put_ne _ (by decide) (h'.k16 (by simpa using q)), k17 := fun q => put_ne _ (by decide) (h'.k17 (by simpa using q)), be := h'.be, d6 := fun _ => by simpa using h3, d14 := fun q => by simpa using h'.d14 (by simpa using q), f := fun q => h'.f (by simpa using q), g' := fun q => h'.g' (by simpa using q) }⟩
    | 7, ho, hLi, hK' =>
      cases ho
      have h6 := (hdeps ⟨6, .data⟩ (by simp) (by rfl))
      have ea := h'.k6 h6
      have ec : wx.cell? ⟨h, 1, none⟩ = some (.int .i64 (0)) := (h'.f (h'.d6 h6)).1 1 (by decide)
      go_simp
      exact hK' _ _ ⟨h, g, { off := h'.off.put (by decide) _, k0 := fun q => put_ne _ (by decide) (h'.k0 (by simpa using q)), k1 := fun q => put_ne _ (by decide) (h'.k1 (by simpa using q)), k2 := fun q => put_ne _ (by decide) (h'.k2 (by simpa using q)), k3 := fun q => put_ne _ (by decide) (h'.k3 (by simpa using q)), k4 := fun q => put_ne _ (by decide) (h'.k4 (by simpa using q)), k5 := fun q => put_ne _ (by decide) (h'.k5 (by simpa using q)), k6 := fun q => put_ne _ (by decide) (h'.k6 (by simpa using q)), k7 := fun _ => put_at _ (by have := h'.off.size; omega), k8 := fun q => put_ne _ (by decide) (h'.k8 (by simpa using q)), k9 := fun q => put_ne _ (by decide) (h'.k9 (by simpa using q)), k10 := fun q => put_ne _ (by decide) (h'.k10 (by simpa using q)), k11 := fun q => put_ne _ (by decide) (h'.k11 (by simpa using q)), k12 := fun q => put_ne _ (by decide) (h'.k12 (by simpa using q)), k13 := fun q => put_ne _ (by decide) (h'.k13 (by simpa using q)), k14 := fun q => put_ne _ (by decide) (h'.k14 (by simpa using q)), k15 := fun q => put_ne _ (by decide) (h'.k15 (by simpa using q)), k16 := fun q => put_ne _ (by decide) (h'.k16 (by simpa using q)), k17 := fun q => put_ne _ (by decide) (h'.k17 (by simpa using q)), be := h'.be, d6 := fun q => by simpa using h'.d6 (by simpa using q), d14 := fun q => by simpa using h'.d14 (by simpa using q), f := fun q => h'.f (by simpa using q), g' := fun q => h'.g' (by simpa using q) }⟩
    | 8, ho, hLi, hK' =>
      cases ho
      have ea := (h'.off.off 0 (by decide)).trans hA0
      go_simp
      exact hK' _ _ ⟨h, g, { off := h'.off.put (by decide) _, k0 := fun q => put_ne _ (by decide) (h'.k0 (by simpa using q)), k1 := fun q => put_ne _ (by decide) (h'.k1 (by simpa using q)), k2 := fun q => put_ne _ (by decide) (h'.k2 (by simpa using q)), k3 := fun q => put_ne _ (by decide) (h'.k3 (by simpa using q)), k4 := fun q => put_ne _ (by decide) (h'.k4 (by simpa using q)), k5 := fun q => put_ne _ (by decide) (h'.k5 (by simpa using q)), k6 := fun q => put_ne _ (by decide) (h'.k6 (by simpa using q)), k7 := fun q => put_ne _ (by decide) (h'.k7 (by simpa using q)), k8 := fun _ => put_at _ (by have := h'.off.size; omega), k9 := fun q => put_ne _ (by decide) (h'.k9 (by simpa using q)), k10 := fun q => put_ne _ (by decide) (h'.k10 (by simpa using q)), k11 := fun q => put_ne _ (by decide) (h'.k11 (by simpa using q)), k12 := fun q => put_ne _ (by decide) (h'.k12 (by simpa using q)), k13 := fun q => put_ne _ (by decide) (h'.k13 (by simpa using q)), k14 := fun q => put_ne _ (by decide) (h'.k14 (by simpa using q)), k15 := fun q => put_ne _ (by decide) (h'.k15 (by simpa using q)), k16 := fun q => put_ne _ (by decide) (h'.k16 (by simpa using q)), k17 := fun q => put_ne _ (by decide) (h'.k17 (by simpa using q)), be := h'.be, d6 := fun q => by simpa using h'.d6 (by simpa using q), d14 := fun q => by simpa using h'.d14 (by simpa using q), f := fun q => h'.f (by simpa using q), g' := fun q => h'.g' (by simpa using q) }⟩
    | 9, ho, hLi, hK' =>
      cases ho
      have ea := (h'.off.off 0 (by decide)).trans hA0
      go_simp
      exact hK' _ _ ⟨h, g, { off := h'.off.put (by decide) _, k0 := fun q => put_ne _ (by decide) (h'.k0 (by simpa using q)), k1 := fun q => put_ne _ (by decide) (h'.k1 (by simpa using q)), k2 := fun q => put_ne _ (by decide) (h'.k2 (by simpa using q)), k3 := fun q => put_ne _ (by decide) (h'.k3 (by simpa using q)), k4 := fun q => put_ne _ (by decide) (h'.k4 (by simpa using q)), k5 := fun q => put_ne _ (by decide) (h'.k5 (by simpa using q)), k6 := fun q => put_ne _ (by decide) (h'.k6 (by simpa using q)), k7 := fun q => put_ne _ (by decide) (h'.k7 (by simpa using q)), k8 := fun q => put_ne _ (by decide) (h'.k8 (by simpa using q)), k9 := fun _ => put_at _ (by have := h'.off.size; omega), k10 := fun q => put_ne _ (by decide) (h'.k10 (by simpa using q)), k11 := fun q => put_ne _ (by decide) (h'.k11 (by simpa using q)), k12 := fun q => put_ne _ (by decide) (h'.k12 (by simpa using q)), k13 := fun q => put_ne _ (by decide) (h'.k13 (by simpa using q)), k14 := fun q => put_ne _ (by decide) (h'.k14 (by simpa using q)), k15 := fun q => put_ne _ (by decide) (h'.k15 (by simpa using q)), k16 := fun q => put_ne _ (by decide) (h'.k16 (by simpa using q)), k17 := fun q => put_ne _ (by decide) (h'.k17 (by simpa using q)), be := h'.be, d6 := fun q => by simpa using h'.d6 (by simpa using q), d14 := fun q => by simpa using h'.d14 (by simpa using q), f := fun q => h'.f (by simpa using q), g' := fun q => h'.g' (by simpa using q) }⟩
    | 10, ho, hLi, hK' =>
      cases ho
      have ea := h'.k9 (hdeps ⟨9, .data⟩ (by simp) (by rfl))
      have wn : IntKind.i64.wrap (-r) = -r := wr_in (by omega) (by omega)
      go_simp
      try rewrite [wn]
      exact hK' _ _ ⟨h, g, { off := h'.off.put (by decide) _, k0 := fun q => put_ne _ (by decide) (h'.k0 (by simpa using q)), k1 := fun q => put_ne _ (by decide) (h'.k1 (by simpa using q)), k2 := fun q => put_ne _ (by decide) (h'.k2 (by simpa using q)), k3 := fun q => put_ne _ (by decide) (h'.k3 (by simpa using q)), k4 := fun q => put_ne _ (by decide) (h'.k4 (by simpa using q)), k5 := fun q => put_ne _ (by decide) (h'.k5 (by simpa using q)), k6 := fun q => put_ne _ (by decide) (h'.k6 (by simpa using q)), k7 := fun q => put_ne _ (by decide) (h'.k7 (by simpa using q)), k8 := fun q => put_ne _ (by decide) (h'.k8 (by simpa using q)), k9 := fun q => put_ne _ (by decide) (h'.k9 (by simpa using q)), k10 := fun _ => put_at _ (by have := h'.off.size; omega), k11 := fun q => put_ne _ (by decide) (h'.k11 (by simpa using q)), k12 := fun q => put_ne _ (by decide) (h'.k12 (by simpa using q)), k13 := fun q => put_ne _ (by decide) (h'.k13 (by simpa using q)), k14 := fun q => put_ne _ (by decide) (h'.k14 (by simpa using q)), k15 := fun q => put_ne _ (by decide) (h'.k15 (by simpa using q)), k16 := fun q => put_ne _ (by decide) (h'.k16 (by simpa using q)), k17 := fun q => put_ne _ (by decide) (h'.k17 (by simpa using q)), be := h'.be, d6 := fun q => by simpa using h'.d6 (by simpa using q), d14 := fun q => by simpa using h'.d14 (by simpa using q), f := fun q => h'.f (by simpa using q), g' := fun q => h'.g' (by simpa using q) }⟩
    | 11, ho, hLi, hK' =>
      cases ho
      have ea := h'.k8 (hdeps ⟨8, .data⟩ (by simp) (by rfl))
      have eb := h'.k10 (hdeps ⟨10, .data⟩ (by simp) (by rfl))
      go_simp
      exact hK' _ _ ⟨h, wx.heap.size, { off := h'.off.put (by decide) _, k0 := fun q => put_ne _ (by decide) (h'.k0 (by simpa using q)), k1 := fun q => put_ne _ (by decide) (h'.k1 (by simpa using q)), k2 := fun q => put_ne _ (by decide) (h'.k2 (by simpa using q)), k3 := fun q => put_ne _ (by decide) (h'.k3 (by simpa using q)), k4 := fun q => put_ne _ (by decide) (h'.k4 (by simpa using q)), k5 := fun q => put_ne _ (by decide) (h'.k5 (by simpa using q)), k6 := fun q => put_ne _ (by decide) (h'.k6 (by simpa using q)), k7 := fun q => put_ne _ (by decide) (h'.k7 (by simpa using q)), k8 := fun q => put_ne _ (by decide) (h'.k8 (by simpa using q)), k9 := fun q => put_ne _ (by decide) (h'.k9 (by simpa using q)), k10 := fun q => put_ne _ (by decide) (h'.k10 (by simpa using q)), k11 := fun _ => put_at _ (by have := h'.off.size; omega), k12 := fun q => put_ne _ (by decide) (h'.k12 (by simpa using q)), k13 := fun q => put_ne _ (by decide) (h'.k13 (by simpa using q)), k14 := fun q => absurd (h'.d14 (by simpa using q)) (by simp [hLi]), k15 := fun q => put_ne _ (by decide) (h'.k15 (by simpa using q)), k16 := fun q => put_ne _ (by decide) (h'.k16 (by simpa using q)), k17 := fun q => put_ne _ (by decide) (h'.k17 (by simpa using q)), be := h'.be.alloc h'.be.size _, d6 := fun q => by simpa using h'.d6 (by simpa using q), d14 := fun _ => by simp, f := fun q => (h'.f (by simpa using q)).next ((Below.refl _ _).alloc (Nat.le_refl _) _), g' := fun _ => Four.fresh _ _ _ _ _ _ }⟩
    | 12, ho, hLi, hK' =>
      cases ho
      have ea := (h'.off.off 1 (by decide)).trans hA1
      go_simp
      exact hK' _ _ ⟨h, g, { off := h'.off.put (by decide) _, k0 := fun q => put_ne _ (by decide) (h'.k0 (by simpa using q)), k1 := fun q => put_ne _ (by decide) (h'.k1 (by simpa using q)), k2 := fun q => put_ne _ (by decide) (h'.k2 (by simpa using q)), k3 := fun q => put_ne _ (by decide) (h'.k3 (by simpa using q)), k4 := fun q => put_ne _ (by decide) (h'.k4 (by simpa using q)), k5 := fun q => put_ne _ (by decide) (h'.k5 (by simpa using q)), k6 := fun q => put_ne _ (by decide) (h'.k6 (by simpa using q)), k7 := fun q => put_ne _ (by decide) (h'.k7 (by simpa using q)), k8 := fun q => put_ne _ (by decide) (h'.k8 (by simpa using q)), k9 := fun q => put_ne _ (by decide) (h'.k9 (by simpa using q)), k10 := fun q => put_ne _ (by decide) (h'.k10 (by simpa using q)), k11 := fun q => put_ne _ (by decide) (h'.k11 (by simpa using q)), k12 := fun _ => put_at _ (by have := h'.off.size; omega), k13 := fun q => put_ne _ (by decide) (h'.k13 (by simpa using q)), k14 := fun q => put_ne _ (by decide) (h'.k14 (by simpa using q)), k15 := fun q => put_ne _ (by decide) (h'.k15 (by simpa using q)), k16 := fun q => put_ne _ (by decide) (h'.k16 (by simpa using q)), k17 := fun q => put_ne _ (by decide) (h'.k17 (by simpa using q)), be := h'.be, d6 := fun q => by simpa using h'.d6 (by simpa using q), d14 := fun q => by simpa using h'.d14 (by simpa using q), f := fun q => h'.f (by simpa using q), g' := fun q => h'.g' (by simpa using q) }⟩
    | 13, ho, hLi, hK' =>
      cases ho
      have ea := h'.k12 (hdeps ⟨12, .data⟩ (by simp) (by rfl))
      go_simp
      exact hK' _ _ ⟨h, g, { off := h'.off.put (by decide) _, k0 := fun q => put_ne _ (by decide) (h'.k0 (by simpa using q)), k1 := fun q => put_ne _ (by decide) (h'.k1 (by simpa using q)), k2 := fun q => put_ne _ (by decide) (h'.k2 (by simpa using q)), k3 := fun q => put_ne _ (by decide) (h'.k3 (by simpa using q)), k4 := fun q => put_ne _ (by decide) (h'.k4 (by simpa using q)), k5 := fun q => put_ne _ (by decide) (h'.k5 (by simpa using q)), k6 := fun q => put_ne _ (by decide) (h'.k6 (by simpa using q)), k7 := fun q => put_ne _ (by decide) (h'.k7 (by simpa using q)), k8 := fun q => put_ne _ (by decide) (h'.k8 (by simpa using q)), k9 := fun q => put_ne _ (by decide) (h'.k9 (by simpa using q)), k10 := fun q => put_ne _ (by decide) (h'.k10 (by simpa using q)), k11 := fun q => put_ne _ (by decide) (h'.k11 (by simpa using q)), k12 := fun q => put_ne _ (by decide) (h'.k12 (by simpa using q)), k13 := fun _ => put_at _ (by have := h'.off.size; omega), k14 := fun q => put_ne _ (by decide) (h'.k14 (by simpa using q)), k15 := fun q => put_ne _ (by decide) (h'.k15 (by simpa using q)), k16 := fun q => put_ne _ (by decide) (h'.k16 (by simpa using q)), k17 := fun q => put_ne _ (by decide) (h'.k17 (by simpa using q)), be := h'.be, d6 := fun q => by simpa using h'.d6 (by simpa using q), d14 := fun q => by simpa using h'.d14 (by simpa using q), f := fun q => h'.f (by simpa using q), g' := fun q => h'.g' (by simpa using q) }⟩
    | 14, ho, hLi, hK' =>
      cases ho
      have h11 := (hdeps ⟨11, .data⟩ (by simp) (by rfl))
      have ea := h'.k11 h11
      have eb := h'.k13 (hdeps ⟨13, .data⟩ (by simp) (by rfl))
      go_simp
      exact hK' _ _ ⟨h, g, { off := h'.off.put (by decide) _, k0 := fun q => put_ne _ (by decide) (h'.k0 (by simpa using q)), k1 := fun q => put_ne _ (by decide) (h'.k1 (by simpa using q)), k2 := fun q => put_ne _ (by decide) (h'.k2 (by simpa using q)), k3 := fun q => put_ne _ (by decide) (h'.k3 (by simpa using q)), k4 := fun q => put_ne _ (by decide) (h'.k4 (by simpa using q)), k5 := fun q => put_ne _ (by decide) (h'.k5 (by simpa using q)), k6 := fun q => put_ne _ (by decide) (h'.k6 (by simpa using q)), k7 := fun q => put_ne _ (by decide) (h'.k7 (by simpa using q)), k8 := fun q => put_ne _ (by decide) (h'.k8 (by simpa using q)), k9 := fun q => put_ne _ (by decide) (h'.k9 (by simpa using q)), k10 := fun q => put_ne _ (by decide) (h'.k10 (by simpa using q)), k11 := fun q => put_ne _ (by decide) (h'.k11 (by simpa using q)), k12 := fun q => put_ne _ (by decide) (h'.k12 (by simpa using q)), k13 := fun q => put_ne _ (by decide) (h'.k13 (by simpa using q)), k14 := fun _ => put_at _ (by have := h'.off.size; omega), k15 := fun q => put_ne _ (by decide) (h'.k15 (by simpa using q)), k16 := fun q => put_ne _ (by decide) (h'.k16 (by simpa using q)), k17 := fun q => put_ne _ (by decide) (h'.k17 (by simpa using q)), be := h'.be, d6 := fun q => by simpa using h'.d6 (by simpa using q), d14 := fun _ => by simpa using h11, f := fun q => h'.f (by simpa using q), g' := fun q => h'.g' (by simpa using q) }⟩
    | 15, ho, hLi, hK' =>
      cases ho
      have h14 := (hdeps ⟨14, .data⟩ (by simp) (by rfl))
      have ea := h'.k14 h14
      have ec : wx.cell? ⟨g, 1, none⟩ = some (.int .i64 (r)) := (h'.g' (h'.d14 h14)).1 1 (by decide)
      go_simp
      exact hK' _ _ ⟨h, g, { off := h'.off.put (by decide) _, k0 := fun q => put_ne _ (by decide) (h'.k0 (by simpa using q)), k1 := fun q => put_ne _ (by decide) (h'.k1 (by simpa using q)), k2 := fun q => put_ne _ (by decide) (h'.k2 (by simpa using q)), k3 := fun q => put_ne _ (by decide) (h'.k3 (by simpa using q)), k4 := fun q => put_ne _ (by decide) (h'.k4 (by simpa using q)), k5 := fun q => put_ne _ (by decide) (h'.k5 (by simpa using q)), k6 := fun q => put_ne _ (by decide) (h'.k6 (by simpa using q)), k7 := fun q => put_ne _ (by decide) (h'.k7 (by simpa using q)), k8 := fun q => put_ne _ (by decide) (h'.k8 (by simpa using q)), k9 := fun q => put_ne _ (by decide) (h'.k9 (by simpa using q)), k10 := fun q => put_ne _ (by decide) (h'.k10 (by simpa using q)), k11 := fun q => put_ne _ (by decide) (h'.k11 (by simpa using q)), k12 := fun q => put_ne _ (by decide) (h'.k12 (by simpa using q)), k13 := fun q => put_ne _ (by decide) (h'.k13 (by simpa using q)), k14 := fun q => put_ne _ (by decide) (h'.k14 (by simpa using q)), k15 := fun _ => put_at _ (by have := h'.off.size; omega), k16 := fun q => put_ne _ (by decide) (h'.k16 (by simpa using q)), k17 := fun q => put_ne _ (by decide) (h'.k17 (by simpa using q)), be := h'.be, d6 := fun q => by simpa using h'.d6 (by simpa using q), d14 := fun q => by simpa using h'.d14 (by simpa using q), f := fun q => h'.f (by simpa using q), g' := fun q => h'.g' (by simpa using q) }⟩
    | 16, ho, hLi, hK' =>
      cases ho
      have ea := h'.k7 (hdeps ⟨7, .data⟩ (by simp) (by rfl))
      go_simp
      exact hK' _ _ ⟨h, g, { off := h'.off.put (by decide) _, k0 := fun q => put_ne _ (by decide) (h'.k0 (by simpa using q)), k1 := fun q => put_ne _ (by decide) (h'.k1 (by simpa using q)), k2 := fun q => put_ne _ (by decide) (h'.k2 (by simpa using q)), k3 := fun q => put_ne _ (by decide) (h'.k3 (by simpa using q)), k4 := fun q => put_ne _ (by decide) (h'.k4 (by simpa using q)), k5 := fun q => put_ne _ (by decide) (h'.k5 (by simpa using q)), k6 := fun q => put_ne _ (by decide) (h'.k6 (by simpa using q)), k7 := fun q => put_ne _ (by decide) (h'.k7 (by simpa using q)), k8 := fun q => put_ne _ (by decide) (h'.k8 (by simpa using q)), k9 := fun q => put_ne _ (by decide) (h'.k9 (by simpa using q)), k10 := fun q => put_ne _ (by decide) (h'.k10 (by simpa using q)), k11 := fun q => put_ne _ (by decide) (h'.k11 (by simpa using q)), k12 := fun q => put_ne _ (by decide) (h'.k12 (by simpa using q)), k13 := fun q => put_ne _ (by decide) (h'.k13 (by simpa using q)), k14 := fun q => put_ne _ (by decide) (h'.k14 (by simpa using q)), k15 := fun q => put_ne _ (by decide) (h'.k15 (by simpa using q)), k16 := fun _ => put_at _ (by have := h'.off.size; omega), k17 := fun q => put_ne _ (by decide) (h'.k17 (by simpa using q)), be := h'.be, d6 := fun q => by simpa using h'.d6 (by simpa using q), d14 := fun q => by simpa using h'.d14 (by simpa using q), f := fun q => h'.f (by simpa using q), g' := fun q => h'.g' (by simpa using q) }⟩
    | 17, ho, hLi, hK' =>
      cases ho
      have ea := h'.k15 (hdeps ⟨15, .data⟩ (by simp) (by rfl))
      go_simp
      exact hK' _ _ ⟨h, g, { off := h'.off.put (by decide) _, k0 := fun q => put_ne _ (by decide) (h'.k0 (by simpa using q)), k1 := fun q => put_ne _ (by decide) (h'.k1 (by simpa using q)), k2 := fun q => put_ne _ (by decide) (h'.k2 (by simpa using q)), k3 := fun q => put_ne _ (by decide) (h'.k3 (by simpa using q)), k4 := fun q => put_ne _ (by decide) (h'.k4 (by simpa using q)), k5 := fun q => put_ne _ (by decide) (h'.k5 (by simpa using q)), k6 := fun q => put_ne _ (by decide) (h'.k6 (by simpa using q)), k7 := fun q => put_ne _ (by decide) (h'.k7 (by simpa using q)), k8 := fun q => put_ne _ (by decide) (h'.k8 (by simpa using q)), k9 := fun q => put_ne _ (by decide) (h'.k9 (by simpa using q)), k10 := fun q => put_ne _ (by decide) (h'.k10 (by simpa using q)), k11 := fun q => put_ne _ (by decide) (h'.k11 (by simpa using q)), k12 := fun q => put_ne _ (by decide) (h'.k12 (by simpa using q)), k13 := fun q => put_ne _ (by decide) (h'.k13 (by simpa using q)), k14 := fun q => put_ne _ (by decide) (h'.k14 (by simpa using q)), k15 := fun q => put_ne _ (by decide) (h'.k15 (by simpa using q)), k16 := fun q => put_ne _ (by decide) (h'.k16 (by simpa using q)), k17 := fun _ => put_at _ (by have := h'.off.size; omega), be := h'.be, d6 := fun q => by simpa using h'.d6 (by simpa using q), d14 := fun q => by simpa using h'.d14 (by simpa using q), f := fun q => h'.f (by simpa using q), g' := fun q => h'.g' (by simpa using q) }⟩
    | i + 18, ho, hLi, hK' => cases ho
  · intro L a wx hI hall
    obtain ⟨h, g, h'⟩ := hI
    have hfr := h'.off.rebuild (fun d => if d = 6 then .int .i64 (r) else if d = 7 then .int .i64 (r) else if d = 8 then .int .i64 (-r) else if d = 9 then .slice (some ⟨h, 0, none⟩) 4 4 else if d = 10 then .int .i64 (1) else if d = 11 then .int .i64 (1) else if d = 12 then .pointer (some ⟨h, 1, none⟩) else if d = 13 then .int .i64 (0) else if d = 14 then .int .i64 (r) else if d = 15 then .int .i64 (r) else if d = 16 then .int .i64 (-r) else if d = 17 then .slice (some ⟨g, 0, none⟩) 4 4 else if d = 18 then .int .i64 (1) else if d = 19 then .int .i64 (1) else if d = 20 then .pointer (some ⟨g, 1, none⟩) else if d = 21 then .int .i64 (r) else if d = 4 then .int .i64 (0) else if d = 5 then .int .i64 (r) else undef) (by
      intro d hd
      simp only [List.mem_cons, List.not_mem_nil, or_false] at hd
      rcases hd with rfl | rfl | rfl | rfl | rfl | rfl | rfl | rfl | rfl | rfl | rfl | rfl | rfl | rfl | rfl | rfl | rfl | rfl
      · exact h'.k0 (hall 0 (by decide))
      · exact h'.k1 (hall 1 (by decide))
      · exact h'.k2 (hall 2 (by decide))
      · exact h'.k3 (hall 3 (by decide))
      · exact h'.k4 (hall 4 (by decide))
      · exact h'.k5 (hall 5 (by decide))
      · exact h'.k6 (hall 6 (by decide))
      · exact h'.k7 (hall 7 (by decide))
      · exact h'.k8 (hall 8 (by decide))
      · exact h'.k9 (hall 9 (by decide))
      · exact h'.k10 (hall 10 (by decide))
      · exact h'.k11 (hall 11 (by decide))
      · exact h'.k12 (hall 12 (by decide))
      · exact h'.k13 (hall 13 (by decide))
      · exact h'.k14 (hall 14 (by decide))
      · exact h'.k15 (hall 15 (by decide))
      · exact h'.k16 (hall 16 (by decide))
      · exact h'.k17 (hall 17 (by decide))
      )
    simp only [List.foldl_cons, List.foldl_nil] at hfr
    rw [← HA.out] at hfr
    have hB := h'.be
    rw [hfr]
    clear hfr h' hall HA hsz hA0 hA1
    simp [Act.put]
    go_wp2_with fail
    go_ret2
    exact ⟨rfl, hB⟩
structure TuI2 (r : Int) (w0 : World) (A : Act) (h g : Nat) (L : Nat → Bool) (a : Act) (w : World) : Prop where
  off : OffOf [6, 7, 8, 9, 10, 11, 12, 13, 14, 15, 16, 17, 18, 19, 20, 21, 4, 5] A a
  k0 : L 0 = true → a.tmps[6]? = some (.int .i64 (r))
  k1 : L 1 = true → a.tmps[7]? = some (.int .i64 (r))
  k2 : L 2 = true → a.tmps[8]? = some (.int .i64 (-r))
  k3 : L 3 = true → a.tmps[9]? = some (.slice (some ⟨h, 0, none⟩) 4 4)
  k4 : L 4 = true → a.tmps[10]? = some (.int .i64 (2))
  k5 : L 5 = true → a.tmps[11]? = some (.int .i64 (2))
  k6 : L 6 = true → a.tmps[12]? = some (.pointer (some ⟨h, 2, none⟩))
  k7 : L 7 = true → a.tmps[13]? = some (.int .i64 (-r))
  k8 : L 8 = true → a.tmps[14]? = some (.int .i64 (r))
  k9 : L 9 = true → a.tmps[15]? = some (.int .i64 (r))
  k10 : L 10 = true → a.tmps[16]? = some (.int .i64 (-r))
  k11 : L 11 = true → a.tmps[17]? = some (.slice (some ⟨g, 0, none⟩) 4 4)
  k12 : L 12 = true → a.tmps[18]? = some (.int .i64 (2))
  k13 : L 13 = true → a.tmps[19]? = some (.int .i64 (2))
  k14 : L 14 = true → a.tmps[20]? = some (.pointer (some ⟨g, 2, none⟩))
  k15 : L 15 = true → a.tmps[21]? = some (.int .i64 (0))
  k16 : L 16 = true → a.tmps[4]? = some (.int .i64 (-r))
  k17 : L 17 = true → a.tmps[5]? = some (.int .i64 (0))
  be : Below w0.heap.size w0 w
  d6 : L 6 = true → L 3 = true
  d14 : L 14 = true → L 11 = true
  f : L 3 = true → Four h r 0 (-r) 0 w
  g' : L 11 = true → Four g 0 r 0 (-r) w
set_option maxHeartbeats 4000000 in
theorem turned_2 (r : Int) (w : World) (h1 : 0 ≤ r) (h2 : r ≤ 1000000) :
    Calls Try.prog 53 #[.int .i64 r, .int .i64 2] w fun e w' => e = .returned (.tuple #[.int .i64 (-r), .int .i64 (0)]) ∧ Below w.heap.size w w' := by
  go_enter Try.func53, Try.ntmps53
  go_upto_region 1 with fail
  generalize hA : (Act.mk _ _) = A
  have hsz : A.tmps.size = 22 := by rw [← hA]; rfl
  have hA0 : A.tmps[0]? = some (.int .i64 r) := by rw [← hA]; rfl
  have hA1 : A.tmps[1]? = some (.int .i64 2) := by rw [← hA]; rfl
  have HA := Lib.hid hA
  clear hA
  refine wp_region_inv (fun L a wx => ∃ h g, TuI2 r w A h g L a wx) (by kernel_rfl) (by kernel_rfl) ?_ ?_ ?_
  · have hD := (Below.refl w.heap.size w).drew
    exact ⟨0, 0, by constructor <;> first | exact OffOf.refl _ _ | exact hD | (intro h; exact nomatch h)⟩
  · intro i o ho L a wx hI hLi hdeps K hK'
    obtain ⟨h, g, h'⟩ := hI
    match i, ho, hLi, hK' with
    | 0, ho, hLi, hK' =>
      cases ho
      have ea := (h'.off.off 0 (by decide)).trans hA0
      go_simp
      exact hK' _ _ ⟨h, g, { off := h'.off.put (by decide) _, k0 := fun _ => put_at _ (by have := h'.off.size; omega), k1 := fun q => put_ne _ (by decide) (h'.k1 (by simpa using q)), k2 := fun q => put_ne _ (by decide) (h'.k2 (by simpa using q)), k3 := fun q => put_ne _ (by decide) (h'.k3 (by simpa using q)), k4 := fun q => put_ne _ (by decide) (h'.k4 (by simpa using q)), k5 := fun q => put_ne _ (by decide) (h'.k5 (by simpa using q)), k6 := fun q => put_ne _ (by decide) (h'.k6 (by simpa using q)), k7 := fun q => put_ne _ (by decide) (h'.k7 (by simpa using q)), k8 := fun q => put_ne _ (by decide) (h'.k8 (by simpa using q)), k9 := fun q => put_ne _ (by decide) (h'.k9 (by simpa using q)), k10 := fun q => put_ne _ (by decide) (h'.k10 (by simpa using q)), k11 := fun q => put_ne _ (by decide) (h'.k11 (by simpa using q)), k12 := fun q => put_ne _ (by decide) (h'.k12 (by simpa using q)), k13 := fun q => put_ne _ (by decide) (h'.k13 (by simpa using q)), k14 := fun q => put_ne _ (by decide) (h'.k14 (by simpa using q)), k15 := fun q => put_ne _ (by decide) (h'.k15 (by simpa using q)), k16 := fun q => put_ne _ (by decide) (h'.k16 (by simpa using q)), k17 := fun q => put_ne _ (by decide) (h'.k17 (by simpa using q)), be := h'.be, d6 := fun q => by simpa using h'.d6 (by simpa using q), d14 := fun q => by simpa using h'.d14 (by simpa using q), f := fun q => h'.f (by simpa using q), g' := fun q => h'.g' (by simpa using q) }⟩
    | 1, ho, hLi, hK' =>
      cases ho
      have ea := (h'.off.off 0 (by decide)).trans hA0
      go_simp
      exact hK' _ _ ⟨h, g, { off := h'.off.put (by decide) _, k0 := fun q => put_ne _ (by decide) (h'.k0 (by simpa using q)), k1 := fun _ => put_at _ (by have := h'.off.size; omega), k2 := fun q => put_ne _ (by decide) (h'.k2 (by simpa using q)), k3 := fun q => put_ne _ (by decide) (h'.k3 (by simpa using q)), k4 := fun q => put_ne _ (by decide) (h'.k4 (by simpa using q)), k5 := fun q => put_ne _ (by decide) (h'.k5 (by simpa using q)), k6 := fun q => put_ne _ (by decide) (h'.k6 (by simpa using q)), k7 := fun q => put_ne _ (by decide) (h'.k7 (by simpa using q)), k8 := fun q => put_ne _ (by decide) (h'.k8 (by simpa using q)), k9 := fun q => put_ne _ (by decide) (h'.k9 (by simpa using q)), k10 := fun q => put_ne _ (by decide) (h'.k10 (by simpa using q)), k11 := fun q => put_ne _ (by decide) (h'.k11 (by simpa using q)), k12 := fun q => put_ne _ (by decide) (h'.k12 (by simpa using q)), k13 := fun q => put_ne _ (by decide) (h'.k13 (by simpa using q)), k14 := fun q => put_ne _ (by decide) (h'.k14 (by simpa using q)), k15 := fun q => put_ne _ (by decide) (h'.k15 (by simpa using q)), k16 := fun q => put_ne _ (by decide) (h'.k16 (by simpa using q)), k17 := fun q => put_ne _ (by decide) (h'.k17 (by simpa using q)), be := h'.be, d6 := fun q => by simpa using h'.d6 (by simpa using q), d14 := fun q => by simpa using h'.d14 (by simpa using q), f := fun q => h'.f (by simpa using q), g' := fun q => h'.g' (by simpa using q) }⟩
    | 2, ho, hLi, hK' =>
      cases ho
      have ea := h'.k1 (hdeps ⟨1, .data⟩ (by simp) (by rfl))
      have wn : IntKind.i64.wrap (-r) = -r := wr_in (by omega) (by omega)
      go_simp
      try rewrite [wn]
      exact hK' _ _ ⟨h, g, { off := h'.off.put (by decide) _, k0 := fun q => put_ne _ (by decide) (h'.k0 (by simpa using q)), k1 := fun q => put_ne _ (by decide) (h'.k1 (by simpa using q)), k2 := fun _ => put_at _ (by have := h'.off.size; omega), k3 := fun q => put_ne _ (by decide) (h'.k3 (by simpa using q)), k4 := fun q => put_ne _ (by decide) (h'.k4 (by simpa using q)), k5 := fun q => put_ne _ (by decide) (h'.k5 (by simpa using q)), k6 := fun q => put_ne _ (by decide) (h'.k6 (by simpa using q)), k7 := fun q => put_ne _ (by decide) (h'.k7 (by simpa using q)), k8 := fun q => put_ne _ (by decide) (h'.k8 (by simpa using q)), k9 := fun q => put_ne _ (by decide) (h'.k9 (by simpa using q)), k10 := fun q => put_ne _ (by decide) (h'.k10 (by simpa using q)), k11 := fun q => put_ne _ (by decide) (h'.k11 (by simpa using q)), k12 := fun q => put_ne _ (by decide) (h'.k12 (by simpa using q)), k13 := fun q => put_ne _ (by decide) (h'.k13 (by simpa using q)), k14 := fun q => put_ne _ (by decide) (h'.k14 (by simpa using q)), k15 := fun q => put_ne _ (by decide) (h'.k15 (by simpa using q)), k16 := fun q => put_ne _ (by decide) (h'.k16 (by simpa using q)), k17 := fun q => put_ne _ (by decide) (h'.k17 (by simpa using q)), be := h'.be, d6 := fun q => by simpa using h'.d6 (by simpa using q), d14 := fun q => by simpa using h'.d14 (by simpa using q), f := fun q => h'.f (by simpa using q), g' := fun q => h'.g' (by simpa using q) }⟩
    | 3, ho, hLi, hK' =>
      cases ho
      have ea := h'.k0 (hdeps ⟨0, .data⟩ (by simp) (by rfl))
      have eb := h'.k2 (hdeps ⟨2, .data⟩ (by simp) (by rfl))
      go_simp
      exact hK' _ _ ⟨wx.heap.size, g, { off := h'.off.put (by decide) _, k0 := fun q => put_ne _ (by decide) (h'.k0 (by simpa using q)), k1 := fun q => put_ne _ (by decide) (h'.k1 (by simpa using q)), k2 := fun q => put_ne _ (by decide) (h'.k2 (by simpa using q)), k3 := fun _ => put_at _ (by have := h'.off.size; omega), k4 := fun q => put_ne _ (by decide) (h'.k4 (by simpa using q)), k5 := fun q => put_ne _ (by decide) (h'.k5 (by simpa using q)), k6 := fun q => absurd (h'.d6 (by simpa using q)) (by simp [hLi]), k7 := fun q => put_ne _ (by decide) (h'.k7 (by simpa using q)), k8 := fun q => put_ne _ (by decide) (h'.k8 (by simpa using q)), k9 := fun q => put_ne _ (by decide) (h'.k9 (by simpa using q)), k10 := fun q => put_ne _ (by decide) (h'.k10 (by simpa using q)), k11 := fun q => put_ne _ (by decide) (h'.k11 (by simpa using q)), k12 := fun q => put_ne _ (by decide) (h'.k12 (by simpa using q)), k13 := fun q => put_ne _ (by decide) (h'.k13 (by simpa using q)), k14 := fun q => put_ne _ (by decide) (h'.k14 (by simpa using q)), k15 := fun q => put_ne _ (by decide) (h'.k15 (by simpa using q)), k16 := fun q => put_ne _ (by decide) (h'.k16 (by simpa using q)), k17 := fun q => put_ne _ (by decide) (h'.k17 (by simpa using q)), be := h'.be.alloc h'.be.size _, d6 := fun _ => by simp, d14 := fun q => by simpa using h'.d14 (by simpa using q), f := fun _ => Four.fresh _ _ _ _ _ _, g' := fun q => (h'.g' (by simpa using q)).next ((Below.refl _ _).alloc (Nat.le_refl _) _) }⟩
    | 4, ho, hLi, hK' =>
      cases ho
      have ea := (h'.off.off 1 (by decide)).trans hA1
      go_simp
      exact hK' _ _ ⟨h, g, { off := h'.off.put (by decide) _, k0 := fun q => put_ne _ (by decide) (h'.k0 (by simpa using q)), k1 := fun q => put_ne _ (by decide) (h'.k1 (by simpa using q)), k2 := fun q => put_ne _ (by decide) (h'.k2 (by simpa using q)), k3 := fun q => put_ne _ (by decide) (h'.k3 (by simpa using q)), k4 := fun _ => put_at _ (by have := h'.off.size; omega), k5 := fun q => put_ne _ (by decide) (h'.k5 (by simpa using q)), k6 := fun q => put_ne _ (by decide) (h'.k6 (by simpa using q)), k7 := fun q => put_ne _ (by decide) (h'.k7 (by simpa using q)), k8 := fun q => put_ne _ (by decide) (h'.k8 (by simpa using q)), k9 := fun q => put_ne _ (by decide) (h'.k9 (by simpa using q)), k10 := fun q => put_ne _ (by decide) (h'.k10 (by simpa using q)), k11 := fun q => put_ne _ (by decide) (h'.k11 (by simpa using q)), k12 := fun q => put_ne _ (by decide) (h'.k12 (by simpa using q)), k13 := fun q => put_ne _ (by decide) (h'.k13 (by simpa using q)), k14 := fun q => put_ne _ (by decide) (h'.k14 (by simpa using q)), k15 := fun q => put_ne _ (by decide) (h'.k15 (by simpa using q)), k16 := fun q => put_ne _ (by decide) (h'.k16 (by simpa using q)), k17 := fun q => put_ne _ (by decide) (h'.k17 (by simpa using q)), be := h'.be, d6 := fun q => by simpa using h'.d6 (by simpa using q), d14 := fun q => by simpa using h'.d14 (by simpa using q), f := fun q => h'.f (by simpa using q), g' := fun q => h'.g' (by simpa using q) }⟩
    | 5, ho, hLi, hK' =>
      cases ho
      have ea := h'.k4 (hdeps ⟨4, .data⟩ (by simp) (by rfl))
      go_simp
      exact hK' _ _ ⟨h, g, { off := h'.off.put (by decide) _, k0 := fun q => put_ne _ (by decide) (h'.k0 (by simpa using q)), k1 := fun q => put_ne _ (by decide) (h'.k1 (by simpa using q)), k2 := fun q => put_ne _ (by decide) (h'.k2 (by simpa using q)), k3 := fun q => put_ne _ (by decide) (h'.k3 (by simpa using q)), k4 := fun q => put_ne _ (by decide) (h'.k4 (by simpa using q)), k5 := fun _ => put_at _ (by have := h'.off.size; omega), k6 := fun q => put_ne _ (by decide) (h'.k6 (by simpa using q)), k7 := fun q => put_ne _ (by decide) (h'.k7 (by simpa using q)), k8 := fun q => put_ne _ (by decide) (h'.k8 (by simpa using q)), k9 := fun q => put_ne _ (by decide) (h'.k9 (by simpa using q)), k10 := fun q => put_ne _ (by decide) (h'.k10 (by simpa using q)), k11 := fun q => put_ne _ (by decide) (h'.k11 (by simpa using q)), k12 := fun q => put_ne _ (by decide) (h'.k12 (by simpa using q)), k13 := fun q => put_ne _ (by decide) (h'.k13 (by simpa using q)), k14 := fun q => put_ne _ (by decide) (h'.k14 (by simpa using q)), k15 := fun q => put_ne _ (by decide) (h'.k15 (by simpa using q)), k16 := fun q => put_ne _ (by decide) (h'.k16 (by simpa using q)), k17 := fun q => put_ne _ (by decide) (h'.k17 (by simpa using q)), be := h'.be, d6 := fun q => by simpa using h'.d6 (by simpa using q), d14 := fun q => by simpa using h'.d14 (by simpa using q), f := fun q => h'.f (by simpa using q), g' := fun q => h'.g' (by simpa using q) }⟩
    | 6, ho, hLi, hK' =>
      cases ho
      have h3 := (hdeps ⟨3, .data⟩ (by simp) (by rfl))
      have ea := h'.k3 h3
      have eb := h'.k5 (hdeps ⟨5, .data⟩ (by simp) (by rfl))
      go_simp
      exact hK' _ _ ⟨h, g, { off := h'.off.put (by decide) _, k0 := fun q => put_ne _ (by decide) (h'.k0 (by simpa using q)), k1 := fun q => put_ne _ (by decide) (h'.k1 (by simpa using q)), k2 := fun q => put_ne _ (by decide) (h'.k2 (by simpa using q)), k3 := fun q => put_ne _ (by decide) (h'.k3 (by simpa using q)), k4 := fun q => put_ne _ (by decide) (h'.k4 (by simpa using q)), k5 := fun q => put_ne _ (by decide) (h'.k5 (by simpa using q)), k6 := fun _ => put_at _ (by have := h'.off.size; omega), k7 := fun q => put_ne _ (by decide) (h'.k7 (by simpa using q)), k8 := fun q => put_ne _ (by decide) (h'.k8 (by simpa using q)), k9 := fun q => put_ne _ (by decide) (h'.k9 (by simpa using q)), k10 := fun q => put_ne _ (by decide) (h'.k10 (by simpa using q)), k11 := fun q => put_ne _ (by decide) (h'.k11 (by simpa using q)), k12 := fun q => put_ne _ (by decide) (h'.k12 (by simpa using q)), k13 := fun q => put_ne _ (by decide) (h'.k13 (by simpa using q)), k14 := fun q => put_ne _ (by decide) (h'.k14 (by simpa using q)), k15 := fun q => put_ne _ (by decide) (h'.k15 (by simpa using q)), k16 := fun q => put_ne _ (by decide) (h'.k16 (by simpa using q)), k17 := fun q => put_ne _ (by decide) (h'.k17 (by simpa using q)), be := h'.be, d6 := fun _ => by simpa using h3, d14 := fun q => by simpa using h'.d14 (by simpa using q), f := fun q => h'.f (by simpa using q), g' := fun q => h'.g' (by simpa using q) }⟩
    | 7, ho, hLi, hK' =>
      cases ho
      have h6 := (hdeps ⟨6, .data⟩ (by simp) (by rfl))
      have ea := h'.k6 h6
      have ec : wx.cell? ⟨h, 2, none⟩ = some (.int .i64 (-r)) := (h'.f (h'.d6 h6)).1 2 (by decide)
      go_simp
      exact hK' _ _ ⟨h, g, { off := h'.off.put (by decide) _, k0 := fun q => put_ne _ (by decide) (h'.k0 (by simpa using q)), k1 := fun q => put_ne _ (by decide) (h'.k1 (by simpa using q)), k2 := fun q => put_ne _ (by decide) (h'.k2 (by simpa using q)), k3 := fun q => put_ne _ (by decide) (h'.k3 (by simpa using q)), k4 := fun q => put_ne _ (by decide) (h'.k4 (by simpa using q)), k5 := fun q => put_ne _ (by decide) (h'.k5 (by simpa using q)), k6 := fun q => put_ne _ (by decide) (h'.k6 (by simpa using q)), k7 := fun _ => put_at _ (by have := h'.off.size; omega), k8 := fun q => put_ne _ (by decide) (h'.k8 (by simpa using q)), k9 := fun q => put_ne _ (by decide) (h'.k9 (by simpa using q)), k10 := fun q => put_ne _ (by decide) (h'.k10 (by simpa using q)), k11 := fun q => put_ne _ (by decide) (h'.k11 (by simpa using q)), k12 := fun q => put_ne _ (by decide) (h'.k12 (by simpa using q)), k13 := fun q => put_ne _ (by decide) (h'.k13 (by simpa using q)), k14 := fun q => put_ne _ (by decide) (h'.k14 (by simpa using q)), k15 := fun q => put_ne _ (by decide) (h'.k15 (by simpa using q)), k16 := fun q => put_ne _ (by decide) (h'.k16 (by simpa using q)), k17 := fun q => put_ne _ (by decide) (h'.k17 (by simpa using q)), be := h'.be, d6 := fun q => by simpa using h'.d6 (by simpa using q), d14 := fun q => by simpa using h'.d14 (by simpa using q), f := fun q => h'.f (by simpa using q), g' := fun q => h'.g' (by simpa using q) }⟩
    | 8, ho, hLi, hK' =>
      cases ho
      have ea := (h'.off.off 0 (by decide)).trans hA0
      go_simp
      exact hK' _ _ ⟨h, g, { off := h'.off.put (by decide) _, k0 := fun q => put_ne _ (by decide) (h'.k0 (by simpa using q)), k1 := fun q => put_ne _ (by decide) (h'.k1 (by simpa using q)), k2 := fun q => put_ne _ (by decide) (h'.k2 (by simpa using q)), k3 := fun q => put_ne _ (by decide) (h'.k3 (by simpa using q)), k4 := fun q => put_ne _ (by decide) (h'.k4 (by simpa using q)), k5 := fun q => put_ne _ (by decide) (h'.k5 (by simpa using q)), k6 := fun q => put_ne _ (by decide) (h'.k6 (by simpa using q)), k7 := fun q => put_ne _ (by decide) (h'.k7 (by simpa using q)), k8 := fun _ => put_at _ (by have := h'.off.size; omega), k9 := fun q => put_ne _ (by decide) (h'.k9 (by simpa using q)), k10 := fun q => put_ne _ (by decide) (h'.k10 (by simpa using q)), k11 := fun q => put_ne _ (by decide) (h'.k11 (by simpa using q)), k12 := fun q => put_ne _ (by decide) (h'.k12 (by simpa using q)), k13 := fun q => put_ne _ (by decide) (h'.k13 (by simpa using q)), k14 := fun q => put_ne _ (by decide) (h'.k14 (by simpa using q)), k15 := fun q => put_ne _ (by decide) (h'.k15 (by simpa using q)), k16 := fun q => put_ne _ (by decide) (h'.k16 (by simpa using q)), k17 := fun q => put_ne _ (by decide) (h'.k17 (by simpa using q)), be := h'.be, d6 := fun q => by simpa using h'.d6 (by simpa using q), d14 := fun q => by simpa using h'.d14 (by simpa using q), f := fun q => h'.f (by simpa using q), g' := fun q => h'.g' (by simpa using q) }⟩
    | 9, ho, hLi, hK' =>
      cases ho
      have ea := (h'.off.off 0 (by decide)).trans hA0
      go_simp
      exact hK' _ _ ⟨h, g, { off := h'.off.put (by decide) _, k0 := fun q => put_ne _ (by decide) (h'.k0 (by simpa using q)), k1 := fun q => put_ne _ (by decide) (h'.k1 (by simpa using q)), k2 := fun q => put_ne _ (by decide) (h'.k2 (by simpa using q)), k3 := fun q => put_ne _ (by decide) (h'.k3 (by simpa using q)), k4 := fun q => put_ne _ (by decide) (h'.k4 (by simpa using q)), k5 := fun q => put_ne _ (by decide) (h'.k5 (by simpa using q)), k6 := fun q => put_ne _ (by decide) (h'.k6 (by simpa using q)), k7 := fun q => put_ne _ (by decide) (h'.k7 (by simpa using q)), k8 := fun q => put_ne _ (by decide) (h'.k8 (by simpa using q)), k9 := fun _ => put_at _ (by have := h'.off.size; omega), k10 := fun q => put_ne _ (by decide) (h'.k10 (by simpa using q)), k11 := fun q => put_ne _ (by decide) (h'.k11 (by simpa using q)), k12 := fun q => put_ne _ (by decide) (h'.k12 (by simpa using q)), k13 := fun q => put_ne _ (by decide) (h'.k13 (by simpa using q)), k14 := fun q => put_ne _ (by decide) (h'.k14 (by simpa using q)), k15 := fun q => put_ne _ (by decide) (h'.k15 (by simpa using q)), k16 := fun q => put_ne _ (by decide) (h'.k16 (by simpa using q)), k17 := fun q => put_ne _ (by decide) (h'.k17 (by simpa using q)), be := h'.be, d6 := fun q => by simpa using h'.d6 (by simpa using q), d14 := fun q => by simpa using h'.d14 (by simpa using q), f := fun q => h'.f (by simpa using q), g' := fun q => h'.g' (by simpa using q) }⟩
    | 10, ho, hLi, hK' =>
      cases ho
      have ea := h'.k9 (hdeps ⟨9, .data⟩ (by simp) (by rfl))
      have wn : IntKind.i64.wrap (-r) = -r := wr_in (by omega) (by omega)
      go_simp
      try rewrite [wn]
      exact hK' _ _ ⟨h, g, { off := h'.off.put (by decide) _, k0 := fun q => put_ne _ (by decide) (h'.k0 (by simpa using q)), k1 := fun q => put_ne _ (by decide) (h'.k1 (by simpa using q)), k2 := fun q => put_ne _ (by decide) (h'.k2 (by simpa using q)), k3 := fun q => put_ne _ (by decide) (h'.k3 (by simpa using q)), k4 := fun q => put_ne _ (by decide) (h'.k4 (by simpa using q)), k5 := fun q => put_ne _ (by decide) (h'.k5 (by simpa using q)), k6 := fun q => put_ne _ (by decide) (h'.k6 (by simpa using q)), k7 := fun q => put_ne _ (by decide) (h'.k7 (by simpa using q)), k8 := fun q => put_ne _ (by decide) (h'.k8 (by simpa using q)), k9 := fun q => put_ne _ (by decide) (h'.k9 (by simpa using q)), k10 := fun _ => put_at _ (by have := h'.off.size; omega), k11 := fun q => put_ne _ (by decide) (h'.k11 (by simpa using q)), k12 := fun q => put_ne _ (by decide) (h'.k12 (by simpa using q)), k13 := fun q => put_ne _ (by decide) (h'.k13 (by simpa using q)), k14 := fun q => put_ne _ (by decide) (h'.k14 (by simpa using q)), k15 := fun q => put_ne _ (by decide) (h'.k15 (by simpa using q)), k16 := fun q => put_ne _ (by decide) (h'.k16 (by simpa using q)), k17 := fun q => put_ne _ (by decide) (h'.k17 (by simpa using q)), be := h'.be, d6 := fun q => by simpa using h'.d6 (by simpa using q), d14 := fun q => by simpa using h'.d14 (by simpa using q), f := fun q => h'.f (by simpa using q), g' := fun q => h'.g' (by simpa using q) }⟩
    | 11, ho, hLi, hK' =>
      cases ho
      have ea := h'.k8 (hdeps ⟨8, .data⟩ (by simp) (by rfl))
      have eb := h'.k10 (hdeps ⟨10, .data⟩ (by simp) (by rfl))
      go_simp
      exact hK' _ _ ⟨h, wx.heap.size, { off := h'.off.put (by decide) _, k0 := fun q => put_ne _ (by decide) (h'.k0 (by simpa using q)), k1 := fun q => put_ne _ (by decide) (h'.k1 (by simpa using q)), k2 := fun q => put_ne _ (by decide) (h'.k2 (by simpa using q)), k3 := fun q => put_ne _ (by decide) (h'.k3 (by simpa using q)), k4 := fun q => put_ne _ (by decide) (h'.k4 (by simpa using q)), k5 := fun q => put_ne _ (by decide) (h'.k5 (by simpa using q)), k6 := fun q => put_ne _ (by decide) (h'.k6 (by simpa using q)), k7 := fun q => put_ne _ (by decide) (h'.k7 (by simpa using q)), k8 := fun q => put_ne _ (by decide) (h'.k8 (by simpa using q)), k9 := fun q => put_ne _ (by decide) (h'.k9 (by simpa using q)), k10 := fun q => put_ne _ (by decide) (h'.k10 (by simpa using q)), k11 := fun _ => put_at _ (by have := h'.off.size; omega), k12 := fun q => put_ne _ (by decide) (h'.k12 (by simpa using q)), k13 := fun q => put_ne _ (by decide) (h'.k13 (by simpa using q)), k14 := fun q => absurd (h'.d14 (by simpa using q)) (by simp [hLi]), k15 := fun q => put_ne _ (by decide) (h'.k15 (by simpa using q)), k16 := fun q => put_ne _ (by decide) (h'.k16 (by simpa using q)), k17 := fun q => put_ne _ (by decide) (h'.k17 (by simpa using q)), be := h'.be.alloc h'.be.size _, d6 := fun q => by simpa using h'.d6 (by simpa using q), d14 := fun _ => by simp, f := fun q => (h'.f (by simpa using q)).next ((Below.refl _ _).alloc (Nat.le_refl _) _), g' := fun _ => Four.fresh _ _ _ _ _ _ }⟩
    | 12, ho, hLi, hK' =>
      cases ho
      have ea := (h'.off.off 1 (by decide)).trans hA1
      go_simp
      exact hK' _ _ ⟨h, g, { off := h'.off.put (by decide) _, k0 := fun q => put_ne _ (by decide) (h'.k0 (by simpa using q)), k1 := fun q => put_ne _ (by decide) (h'.k1 (by simpa using q)), k2 := fun q => put_ne _ (by decide) (h'.k2 (by simpa using q)), k3 := fun q => put_ne _ (by decide) (h'.k3 (by simpa using q)), k4 := fun q => put_ne _ (by decide) (h'.k4 (by simpa using q)), k5 := fun q => put_ne _ (by decide) (h'.k5 (by simpa using q)), k6 := fun q => put_ne _ (by decide) (h'.k6 (by simpa using q)), k7 := fun q => put_ne _ (by decide) (h'.k7 (by simpa using q)), k8 := fun q => put_ne _ (by decide) (h'.k8 (by simpa using q)), k9 := fun q => put_ne _ (by decide) (h'.k9 (by simpa using q)), k10 := fun q => put_ne _ (by decide) (h'.k10 (by simpa using q)), k11 := fun q => put_ne _ (by decide) (h'.k11 (by simpa using q)), k12 := fun _ => put_at _ (by have := h'.off.size; omega), k13 := fun q => put_ne _ (by decide) (h'.k13 (by simpa using q)), k14 := fun q => put_ne _ (by decide) (h'.k14 (by simpa using q)), k15 := fun q => put_ne _ (by decide) (h'.k15 (by simpa using q)), k16 := fun q => put_ne _ (by decide) (h'.k16 (by simpa using q)), k17 := fun q => put_ne _ (by decide) (h'.k17 (by simpa using q)), be := h'.be, d6 := fun q => by simpa using h'.d6 (by simpa using q), d14 := fun q => by simpa using h'.d14 (by simpa using q), f := fun q => h'.f (by simpa using q), g' := fun q => h'.g' (by simpa using q) }⟩
    | 13, ho, hLi, hK' =>
      cases ho
      have ea := h'.k12 (hdeps ⟨12, .data⟩ (by simp) (by rfl))
      go_simp
      exact hK' _ _ ⟨h, g, { off := h'.off.put (by decide) _, k0 := fun q => put_ne _ (by decide) (h'.k0 (by simpa using q)), k1 := fun q => put_ne _ (by decide) (h'.k1 (by simpa using q)), k2 := fun q => put_ne _ (by decide) (h'.k2 (by simpa using q)), k3 := fun q => put_ne _ (by decide) (h'.k3 (by simpa using q)), k4 := fun q => put_ne _ (by decide) (h'.k4 (by simpa using q)), k5 := fun q => put_ne _ (by decide) (h'.k5 (by simpa using q)), k6 := fun q => put_ne _ (by decide) (h'.k6 (by simpa using q)), k7 := fun q => put_ne _ (by decide) (h'.k7 (by simpa using q)), k8 := fun q => put_ne _ (by decide) (h'.k8 (by simpa using q)), k9 := fun q => put_ne _ (by decide) (h'.k9 (by simpa using q)), k10 := fun q => put_ne _ (by decide) (h'.k10 (by simpa using q)), k11 := fun q => put_ne _ (by decide) (h'.k11 (by simpa using q)), k12 := fun q => put_ne _ (by decide) (h'.k12 (by simpa using q)), k13 := fun _ => put_at _ (by have := h'.off.size; omega), k14 := fun q => put_ne _ (by decide) (h'.k14 (by simpa using q)), k15 := fun q => put_ne _ (by decide) (h'.k15 (by simpa using q)), k16 := fun q => put_ne _ (by decide) (h'.k16 (by simpa using q)), k17 := fun q => put_ne _ (by decide) (h'.k17 (by simpa using q)), be := h'.be, d6 := fun q => by simpa using h'.d6 (by simpa using q), d14 := fun q => by simpa using h'.d14 (by simpa using q), f := fun q => h'.f (by simpa using q), g' := fun q => h'.g' (by simpa using q) }⟩
    | 14, ho, hLi, hK' =>
      cases ho
      have h11 := (hdeps ⟨11, .data⟩ (by simp) (by rfl))
      have ea := h'.k11 h11
      have eb := h'.k13 (hdeps ⟨13, .data⟩ (by simp) (by rfl))
      go_simp
      exact hK' _ _ ⟨h, g, { off := h'.off.put (by decide) _, k0 := fun q => put_ne _ (by decide) (h'.k0 (by simpa using q)), k1 := fun q => put_ne _ (by decide) (h'.k1 (by simpa using q)), k2 := fun q => put_ne _ (by decide) (h'.k2 (by simpa using q)), k3 := fun q => put_ne _ (by decide) (h'.k3 (by simpa using q)), k4 := fun q => put_ne _ (by decide) (h'.k4 (by simpa using q)), k5 := fun q => put_ne _ (by decide) (h'.k5 (by simpa using q)), k6 := fun q => put_ne _ (by decide) (h'.k6 (by simpa using q)), k7 := fun q => put_ne _ (by decide) (h'.k7 (by simpa using q)), k8 := fun q => put_ne _ (by decide) (h'.k8 (by simpa using q)), k9 := fun q => put_ne _ (by decide) (h'.k9 (by simpa using q)), k10 := fun q => put_ne _ (by decide) (h'.k10 (by simpa using q)), k11 := fun q => put_ne _ (by decide) (h'.k11 (by simpa using q)), k12 := fun q => put_ne _ (by decide) (h'.k12 (by simpa using q)), k13 := fun q => put_ne _ (by decide) (h'.k13 (by simpa using q)), k14 := fun _ => put_at _ (by have := h'.off.size; omega), k15 := fun q => put_ne _ (by decide) (h'.k15 (by simpa using q)), k16 := fun q => put_ne _ (by decide) (h'.k16 (by simpa using q)), k17 := fun q => put_ne _ (by decide) (h'.k17 (by simpa using q)), be := h'.be, d6 := fun q => by simpa using h'.d6 (by simpa using q), d14 := fun _ => by simpa using h11, f := fun q => h'.f (by simpa using q), g' := fun q => h'.g' (by simpa using q) }⟩
    | 15, ho, hLi, hK' =>
      cases ho
      have h14 := (hdeps ⟨14, .data⟩ (by simp) (by rfl))
      have ea := h'.k14 h14
      have ec : wx.cell? ⟨g, 2, none⟩ = some (.int .i64 (0)) := (h'.g' (h'.d14 h14)).1 2 (by decide)
      go_simp
      exact hK' _ _ ⟨h, g, { off := h'.off.put (by decide) _, k0 := fun q => put_ne _ (by decide) (h'.k0 (by simpa using q)), k1 := fun q => put_ne _ (by decide) (h'.k1 (by simpa using q)), k2 := fun q => put_ne _ (by decide) (h'.k2 (by simpa using q)), k3 := fun q => put_ne _ (by decide) (h'.k3 (by simpa using q)), k4 := fun q => put_ne _ (by decide) (h'.k4 (by simpa using q)), k5 := fun q => put_ne _ (by decide) (h'.k5 (by simpa using q)), k6 := fun q => put_ne _ (by decide) (h'.k6 (by simpa using q)), k7 := fun q => put_ne _ (by decide) (h'.k7 (by simpa using q)), k8 := fun q => put_ne _ (by decide) (h'.k8 (by simpa using q)), k9 := fun q => put_ne _ (by decide) (h'.k9 (by simpa using q)), k10 := fun q => put_ne _ (by decide) (h'.k10 (by simpa using q)), k11 := fun q => put_ne _ (by decide) (h'.k11 (by simpa using q)), k12 := fun q => put_ne _ (by decide) (h'.k12 (by simpa using q)), k13 := fun q => put_ne _ (by decide) (h'.k13 (by simpa using q)), k14 := fun q => put_ne _ (by decide) (h'.k14 (by simpa using q)), k15 := fun _ => put_at _ (by have := h'.off.size; omega), k16 := fun q => put_ne _ (by decide) (h'.k16 (by simpa using q)), k17 := fun q => put_ne _ (by decide) (h'.k17 (by simpa using q)), be := h'.be, d6 := fun q => by simpa using h'.d6 (by simpa using q), d14 := fun q => by simpa using h'.d14 (by simpa using q), f := fun q => h'.f (by simpa using q), g' := fun q => h'.g' (by simpa using q) }⟩
    | 16, ho, hLi, hK' =>
      cases ho
      have ea := h'.k7 (hdeps ⟨7, .data⟩ (by simp) (by rfl))
      go_simp
      exact hK' _ _ ⟨h, g, { off := h'.off.put (by decide) _, k0 := fun q => put_ne _ (by decide) (h'.k0 (by simpa using q)), k1 := fun q => put_ne _ (by decide) (h'.k1 (by simpa using q)), k2 := fun q => put_ne _ (by decide) (h'.k2 (by simpa using q)), k3 := fun q => put_ne _ (by decide) (h'.k3 (by simpa using q)), k4 := fun q => put_ne _ (by decide) (h'.k4 (by simpa using q)), k5 := fun q => put_ne _ (by decide) (h'.k5 (by simpa using q)), k6 := fun q => put_ne _ (by decide) (h'.k6 (by simpa using q)), k7 := fun q => put_ne _ (by decide) (h'.k7 (by simpa using q)), k8 := fun q => put_ne _ (by decide) (h'.k8 (by simpa using q)), k9 := fun q => put_ne _ (by decide) (h'.k9 (by simpa using q)), k10 := fun q => put_ne _ (by decide) (h'.k10 (by simpa using q)), k11 := fun q => put_ne _ (by decide) (h'.k11 (by simpa using q)), k12 := fun q => put_ne _ (by decide) (h'.k12 (by simpa using q)), k13 := fun q => put_ne _ (by decide) (h'.k13 (by simpa using q)), k14 := fun q => put_ne _ (by decide) (h'.k14 (by simpa using q)), k15 := fun q => put_ne _ (by decide) (h'.k15 (by simpa using q)), k16 := fun _ => put_at _ (by have := h'.off.size; omega), k17 := fun q => put_ne _ (by decide) (h'.k17 (by simpa using q)), be := h'.be, d6 := fun q => by simpa using h'.d6 (by simpa using q), d14 := fun q => by simpa using h'.d14 (by simpa using q), f := fun q => h'.f (by simpa using q), g' := fun q => h'.g' (by simpa using q) }⟩
    | 17, ho, hLi, hK' =>
      cases ho
      have ea := h'.k15 (hdeps ⟨15, .data⟩ (by simp) (by rfl))
      go_simp
      exact hK' _ _ ⟨h, g, { off := h'.off.put (by decide) _, k0 := fun q => put_ne _ (by decide) (h'.k0 (by simpa using q)), k1 := fun q => put_ne _ (by decide) (h'.k1 (by simpa using q)), k2 := fun q => put_ne _ (by decide) (h'.k2 (by simpa using q)), k3 := fun q => put_ne _ (by decide) (h'.k3 (by simpa using q)), k4 := fun q => put_ne _ (by decide) (h'.k4 (by simpa using q)), k5 := fun q => put_ne _ (by decide) (h'.k5 (by simpa using q)), k6 := fun q => put_ne _ (by decide) (h'.k6 (by simpa using q)), k7 := fun q => put_ne _ (by decide) (h'.k7 (by simpa using q)), k8 := fun q => put_ne _ (by decide) (h'.k8 (by simpa using q)), k9 := fun q => put_ne _ (by decide) (h'.k9 (by simpa using q)), k10 := fun q => put_ne _ (by decide) (h'.k10 (by simpa using q)), k11 := fun q => put_ne _ (by decide) (h'.k11 (by simpa using q)), k12 := fun q => put_ne _ (by decide) (h'.k12 (by simpa using q)), k13 := fun q => put_ne _ (by decide) (h'.k13 (by simpa using q)), k14 := fun q => put_ne _ (by decide) (h'.k14 (by simpa using q)), k15 := fun q => put_ne _ (by decide) (h'.k15 (by simpa using q)), k16 := fun q => put_ne _ (by decide) (h'.k16 (by simpa using q)), k17 := fun _ => put_at _ (by have := h'.off.size; omega), be := h'.be, d6 := fun q => by simpa using h'.d6 (by simpa using q), d14 := fun q => by simpa using h'.d14 (by simpa using q), f := fun q => h'.f (by simpa using q), g' := fun q => h'.g' (by simpa using q) }⟩
    | i + 18, ho, hLi, hK' => cases ho
  · intro L a wx hI hall
    obtain ⟨h, g, h'⟩ := hI
    have hfr := h'.off.rebuild (fun d => if d = 6 then .int .i64 (r) else if d = 7 then .int .i64 (r) else if d = 8 then .int .i64 (-r) else if d = 9 then .slice (some ⟨h, 0, none⟩) 4 4 else if d = 10 then .int .i64 (2) else if d = 11 then .int .i64 (2) else if d = 12 then .pointer (some ⟨h, 2, none⟩) else if d = 13 then .int .i64 (-r) else if d = 14 then .int .i64 (r) else if d = 15 then .int .i64 (r) else if d = 16 then .int .i64 (-r) else if d = 17 then .slice (some ⟨g, 0, none⟩) 4 4 else if d = 18 then .int .i64 (2) else if d = 19 then .int .i64 (2) else if d = 20 then .pointer (some ⟨g, 2, none⟩) else if d = 21 then .int .i64 (0) else if d = 4 then .int .i64 (-r) else if d = 5 then .int .i64 (0) else undef) (by
      intro d hd
      simp only [List.mem_cons, List.not_mem_nil, or_false] at hd
      rcases hd with rfl | rfl | rfl | rfl | rfl | rfl | rfl | rfl | rfl | rfl | rfl | rfl | rfl | rfl | rfl | rfl | rfl | rfl
      · exact h'.k0 (hall 0 (by decide))
      · exact h'.k1 (hall 1 (by decide))
      · exact h'.k2 (hall 2 (by decide))
      · exact h'.k3 (hall 3 (by decide))
      · exact h'.k4 (hall 4 (by decide))
      · exact h'.k5 (hall 5 (by decide))
      · exact h'.k6 (hall 6 (by decide))
      · exact h'.k7 (hall 7 (by decide))
      · exact h'.k8 (hall 8 (by decide))
      · exact h'.k9 (hall 9 (by decide))
      · exact h'.k10 (hall 10 (by decide))
      · exact h'.k11 (hall 11 (by decide))
      · exact h'.k12 (hall 12 (by decide))
      · exact h'.k13 (hall 13 (by decide))
      · exact h'.k14 (hall 14 (by decide))
      · exact h'.k15 (hall 15 (by decide))
      · exact h'.k16 (hall 16 (by decide))
      · exact h'.k17 (hall 17 (by decide))
      )
    simp only [List.foldl_cons, List.foldl_nil] at hfr
    rw [← HA.out] at hfr
    have hB := h'.be
    rw [hfr]
    clear hfr h' hall HA hsz hA0 hA1
    simp [Act.put]
    go_wp2_with fail
    go_ret2
    exact ⟨rfl, hB⟩
structure TuI3 (r : Int) (w0 : World) (A : Act) (h g : Nat) (L : Nat → Bool) (a : Act) (w : World) : Prop where
  off : OffOf [6, 7, 8, 9, 10, 11, 12, 13, 14, 15, 16, 17, 18, 19, 20, 21, 4, 5] A a
  k0 : L 0 = true → a.tmps[6]? = some (.int .i64 (r))
  k1 : L 1 = true → a.tmps[7]? = some (.int .i64 (r))
  k2 : L 2 = true → a.tmps[8]? = some (.int .i64 (-r))
  k3 : L 3 = true → a.tmps[9]? = some (.slice (some ⟨h, 0, none⟩) 4 4)
  k4 : L 4 = true → a.tmps[10]? = some (.int .i64 (3))
  k5 : L 5 = true → a.tmps[11]? = some (.int .i64 (3))
  k6 : L 6 = true → a.tmps[12]? = some (.pointer (some ⟨h, 3, none⟩))
  k7 : L 7 = true → a.tmps[13]? = some (.int .i64 (0))
  k8 : L 8 = true → a.tmps[14]? = some (.int .i64 (r))
  k9 : L 9 = true → a.tmps[15]? = some (.int .i64 (r))
  k10 : L 10 = true → a.tmps[16]? = some (.int .i64 (-r))
  k11 : L 11 = true → a.tmps[17]? = some (.slice (some ⟨g, 0, none⟩) 4 4)
  k12 : L 12 = true → a.tmps[18]? = some (.int .i64 (3))
  k13 : L 13 = true → a.tmps[19]? = some (.int .i64 (3))
  k14 : L 14 = true → a.tmps[20]? = some (.pointer (some ⟨g, 3, none⟩))
  k15 : L 15 = true → a.tmps[21]? = some (.int .i64 (-r))
  k16 : L 16 = true → a.tmps[4]? = some (.int .i64 (0))
  k17 : L 17 = true → a.tmps[5]? = some (.int .i64 (-r))
  be : Below w0.heap.size w0 w
  d6 : L 6 = true → L 3 = true
  d14 : L 14 = true → L 11 = true
  f : L 3 = true → Four h r 0 (-r) 0 w
  g' : L 11 = true → Four g 0 r 0 (-r) w
set_option maxHeartbeats 4000000 in
theorem turned_3 (r : Int) (w : World) (h1 : 0 ≤ r) (h2 : r ≤ 1000000) :
    Calls Try.prog 53 #[.int .i64 r, .int .i64 3] w fun e w' => e = .returned (.tuple #[.int .i64 (0), .int .i64 (-r)]) ∧ Below w.heap.size w w' := by
  go_enter Try.func53, Try.ntmps53
  go_upto_region 1 with fail
  generalize hA : (Act.mk _ _) = A
  have hsz : A.tmps.size = 22 := by rw [← hA]; rfl
  have hA0 : A.tmps[0]? = some (.int .i64 r) := by rw [← hA]; rfl
  have hA1 : A.tmps[1]? = some (.int .i64 3) := by rw [← hA]; rfl
  have HA := Lib.hid hA
  clear hA
  refine wp_region_inv (fun L a wx => ∃ h g, TuI3 r w A h g L a wx) (by kernel_rfl) (by kernel_rfl) ?_ ?_ ?_
  · have hD := (Below.refl w.heap.size w).drew
    exact ⟨0, 0, by constructor <;> first | exact OffOf.refl _ _ | exact hD | (intro h; exact nomatch h)⟩
  · intro i o ho L a wx hI hLi hdeps K hK'
    obtain ⟨h, g, h'⟩ := hI
    match i, ho, hLi, hK' with
    | 0, ho, hLi, hK' =>
      cases ho
      have ea := (h'.off.off 0 (by decide)).trans hA0
      go_simp
      exact hK' _ _ ⟨h, g, { off := h'.off.put (by decide) _, k0 := fun _ => put_at _ (by have := h'.off.size; omega), k1 := fun q => put_ne _ (by decide) (h'.k1 (by simpa using q)), k2 := fun q => put_ne _ (by decide) (h'.k2 (by simpa using q)), k3 := fun q => put_ne _ (by decide) (h'.k3 (by simpa using q)), k4 := fun q => put_ne _ (by decide) (h'.k4 (by simpa using q)), k5 := fun q => put_ne _ (by decide) (h'.k5 (by simpa using q)), k6 := fun q => put_ne _ (by decide) (h'.k6 (by simpa using q)), k7 := fun q => put_ne _ (by decide) (h'.k7 (by simpa using q)), k8 := fun q => put_ne _ (by decide) (h'.k8 (by simpa using q)), k9 := fun q => put_ne _ (by decide) (h'.k9 (by simpa using q)), k10 := fun q => put_ne _ (by decide) (h'.k10 (by simpa using q)), k11 := fun q => put_ne _ (by decide) (h'.k11 (by simpa using q)), k12 := fun q => put_ne _ (by decide) (h'.k12 (by simpa using q)), k13 := fun q => put_ne _ (by decide) (h'.k13 (by simpa using q)), k14 := fun q => put_ne _ (by decide) (h'.k14 (by simpa using q)), k15 := fun q => put_ne _ (by decide) (h'.k15 (by simpa using q)), k16 := fun q => put_ne _ (by decide) (h'.k16 (by simpa using q)), k17 := fun q => put_ne _ (by decide) (h'.k17 (by simpa using q)), be := h'.be, d6 := fun q => by simpa using h'.d6 (by simpa using q), d14 := fun q => by simpa using h'.d14 (by simpa using q), f := fun q => h'.f (by simpa using q), g' := fun q => h'.g' (by simpa using q) }⟩
    | 1, ho, hLi, hK' =>
      cases ho
      have ea := (h'.off.off 0 (by decide)).trans hA0
      go_simp
      exact hK' _ _ ⟨h, g, { off := h'.off.put (by decide) _, k0 := fun q => put_ne _ (by decide) (h'.k0 (by simpa using q)), k1 := fun _ => put_at _ (by have := h'.off.size; omega), k2 := fun q => put_ne _ (by decide) (h'.k2 (by simpa using q)), k3 := fun q => put_ne _ (by decide) (h'.k3 (by simpa using q)), k4 := fun q => put_ne _ (by decide) (h'.k4 (by simpa using q)), k5 := fun q => put_ne _ (by decide) (h'.k5 (by simpa using q)), k6 := fun q => put_ne _ (by decide) (h'.k6 (by simpa using q)), k7 := fun q => put_ne _ (by decide) (h'.k7 (by simpa using q)), k8 := fun q => put_ne _ (by decide) (h'.k8 (by simpa using q)), k9 := fun q => put_ne _ (by decide) (h'.k9 (by simpa using q)), k10 := fun q => put_ne _ (by decide) (h'.k10 (by simpa using q)), k11 := fun q => put_ne _ (by decide) (h'.k11 (by simpa using q)), k12 := fun q => put_ne _ (by decide) (h'.k12 (by simpa using q)), k13 := fun q => put_ne _ (by decide) (h'.k13 (by simpa using q)), k14 := fun q => put_ne _ (by decide) (h'.k14 (by simpa using q)), k15 := fun q => put_ne _ (by decide) (h'.k15 (by simpa using q)), k16 := fun q => put_ne _ (by decide) (h'.k16 (by simpa using q)), k17 := fun q => put_ne _ (by decide) (h'.k17 (by simpa using q)), be := h'.be, d6 := fun q => by simpa using h'.d6 (by simpa using q), d14 := fun q => by simpa using h'.d14 (by simpa using q), f := fun q => h'.f (by simpa using q), g' := fun q => h'.g' (by simpa using q) }⟩
    | 2, ho, hLi, hK' =>
      cases ho
      have ea := h'.k1 (hdeps ⟨1, .data⟩ (by simp) (by rfl))
      have wn : IntKind.i64.wrap (-r) = -r := wr_in (by omega) (by omega)
      go_simp
      try rewrite [wn]
      exact hK' _ _ ⟨h, g, { off := h'.off.put (by decide) _, k0 := fun q => put_ne _ (by decide) (h'.k0 (by simpa using q)), k1 := fun q => put_ne _ (by decide) (h'.k1 (by simpa using q)), k2 := fun _ => put_at _ (by have := h'.off.size; omega), k3 := fun q => put_ne _ (by decide) (h'.k3 (by simpa using q)), k4 := fun q => put_ne _ (by decide) (h'.k4 (by simpa using q)), k5 := fun q => put_ne _ (by decide) (h'.k5 (by simpa using q)), k6 := fun q => put_ne _ (by decide) (h'.k6 (by simpa using q)), k7 := fun q => put_ne _ (by decide) (h'.k7 (by simpa using q)), k8 := fun q => put_ne _ (by decide) (h'.k8 (by simpa using q)), k9 := fun q => put_ne _ (by decide) (h'.k9 (by simpa using q)), k10 := fun q => put_ne _ (by decide) (h'.k10 (by simpa using q)), k11 := fun q => put_ne _ (by decide) (h'.k11 (by simpa using q)), k12 := fun q => put_ne _ (by decide) (h'.k12 (by simpa using q)), k13 := fun q => put_ne _ (by decide) (h'.k13 (by simpa using q)), k14 := fun q => put_ne _ (by decide) (h'.k14 (by simpa using q)), k15 := fun q => put_ne _ (by decide) (h'.k15 (by simpa using q)), k16 := fun q => put_ne _ (by decide) (h'.k16 (by simpa using q)), k17 := fun q => put_ne _ (by decide) (h'.k17 (by simpa using q)), be := h'.be, d6 := fun q => by simpa using h'.d6 (by simpa using q), d14 := fun q => by simpa using h'.d14 (by simpa using q), f := fun q => h'.f (by simpa using q), g' := fun q => h'.g' (by simpa using q) }⟩
    | 3, ho, hLi, hK' =>
      cases ho
      have ea := h'.k0 (hdeps ⟨0, .data⟩ (by simp) (by rfl))
      have eb := h'.k2 (hdeps ⟨2, .data⟩ (by simp) (by rfl))
      go_simp
      exact hK' _ _ ⟨wx.heap.size, g, { off := h'.off.put (by decide) _, k0 := fun q => put_ne _ (by decide) (h'.k0 (by simpa using q)), k1 := fun q => put_ne _ (by decide) (h'.k1 (by simpa using q)), k2 := fun q => put_ne _ (by decide) (h'.k2 (by simpa using q)), k3 := fun _ => put_at _ (by have := h'.off.size; omega), k4 := fun q => put_ne _ (by decide) (h'.k4 (by simpa using q)), k5 := fun q => put_ne _ (by decide) (h'.k5 (by simpa using q)), k6 := fun q => absurd (h'.d6 (by simpa using q)) (by simp [hLi]), k7 := fun q => put_ne _ (by decide) (h'.k7 (by simpa using q)), k8 := fun q => put_ne _ (by decide) (h'.k8 (by simpa using q)), k9 := fun q => put_ne _ (by decide) (h'.k9 (by simpa using q)), k10 := fun q => put_ne _ (by decide) (h'.k10 (by simpa using q)), k11 := fun q => put_ne _ (by decide) (h'.k11 (by simpa using q)), k12 := fun q => put_ne _ (by decide) (h'.k12 (by simpa using q)), k13 := fun q => put_ne _ (by decide) (h'.k13 (by simpa using q)), k14 := fun q => put_ne _ (by decide) (h'.k14 (by simpa using q)), k15 := fun q => put_ne _ (by decide) (h'.k15 (by simpa using q)), k16 := fun q => put_ne _ (by decide) (h'.k16 (by simpa using q)), k17 := fun q => put_ne _ (by decide) (h'.k17 (by simpa using q)), be := h'.be.alloc h'.be.size _, d6 := fun _ => by simp, d14 := fun q => by simpa using h'.d14 (by simpa using q), f := fun _ => Four.fresh _ _ _ _ _ _, g' := fun q => (h'.g' (by simpa using q)).next ((Below.refl _ _).alloc (Nat.le_refl _) _) }⟩
    | 4, ho, hLi, hK' =>
      cases ho
      have ea := (h'.off.off 1 (by decide)).trans hA1
      go_simp
      exact hK' _ _ ⟨h, g, { off := h'.off.put (by decide) _, k0 := fun q => put_ne _ (by decide) (h'.k0 (by simpa using q)), k1 := fun q => put_ne _ (by decide) (h'.k1 (by simpa using q)), k2 := fun q => put_ne _ (by decide) (h'.k2 (by simpa using q)), k3 := fun q => put_ne _ (by decide) (h'.k3 (by simpa using q)), k4 := fun _ => put_at _ (by have := h'.off.size; omega), k5 := fun q => put_ne _ (by decide) (h'.k5 (by simpa using q)), k6 := fun q => put_ne _ (by decide) (h'.k6 (by simpa using q)), k7 := fun q => put_ne _ (by decide) (h'.k7 (by simpa using q)), k8 := fun q => put_ne _ (by decide) (h'.k8 (by simpa using q)), k9 := fun q => put_ne _ (by decide) (h'.k9 (by simpa using q)), k10 := fun q => put_ne _ (by decide) (h'.k10 (by simpa using q)), k11 := fun q => put_ne _ (by decide) (h'.k11 (by simpa using q)), k12 := fun q => put_ne _ (by decide) (h'.k12 (by simpa using q)), k13 := fun q => put_ne _ (by decide) (h'.k13 (by simpa using q)), k14 := fun q => put_ne _ (by decide) (h'.k14 (by simpa using q)), k15 := fun q => put_ne _ (by decide) (h'.k15 (by simpa using q)), k16 := fun q => put_ne _ (by decide) (h'.k16 (by simpa using q)), k17 := fun q => put_ne _ (by decide) (h'.k17 (by simpa using q)), be := h'.be, d6 := fun q => by simpa using h'.d6 (by simpa using q), d14 := fun q => by simpa using h'.d14 (by simpa using q), f := fun q => h'.f (by simpa using q), g' := fun q => h'.g' (by simpa using q) }⟩
    | 5, ho, hLi, hK' =>
      cases ho
      have ea := h'.k4 (hdeps ⟨4, .data⟩ (by simp) (by rfl))
      go_simp
      exact hK' _ _ ⟨h, g, { off := h'.off.put (by decide) _, k0 := fun q => put_ne _ (by decide) (h'.k0 (by simpa using q)), k1 := fun q => put_ne _ (by decide) (h'.k1 (by simpa using q)), k2 := fun q => put_ne _ (by decide) (h'.k2 (by simpa using q)), k3 := fun q => put_ne _ (by decide) (h'.k3 (by simpa using q)), k4 := fun q => put_ne _ (by decide) (h'.k4 (by simpa using q)), k5 := fun _ => put_at _ (by have := h'.off.size; omega), k6 := fun q => put_ne _ (by decide) (h'.k6 (by simpa using q)), k7 := fun q => put_ne _ (by decide) (h'.k7 (by simpa using q)), k8 := fun q => put_ne _ (by decide) (h'.k8 (by simpa using q)), k9 := fun q => put_ne _ (by decide) (h'.k9 (by simpa using q)), k10 := fun q => put_ne _ (by decide) (h'.k10 (by simpa using q)), k11 := fun q => put_ne _ (by decide) (h'.k11 (by simpa using q)), k12 := fun q => put_ne _ (by decide) (h'.k12 (by simpa using q)), k13 := fun q => put_ne _ (by decide) (h'.k13 (by simpa using q)), k14 := fun q => put_ne _ (by decide) (h'.k14 (by simpa using q)), k15 := fun q => put_ne _ (by decide) (h'.k15 (by simpa using q)), k16 := fun q => put_ne _ (by decide) (h'.k16 (by simpa using q)), k17 := fun q => put_ne _ (by decide) (h'.k17 (by simpa using q)), be := h'.be, d6 := fun q => by simpa using h'.d6 (by simpa using q), d14 := fun q => by simpa using h'.d14 (by simpa using q), f := fun q => h'.f (by simpa using q), g' := fun q => h'.g' (by simpa using q) }⟩
    | 6, ho, hLi, hK' =>
      cases ho
      have h3 := (hdeps ⟨3, .data⟩ (by simp) (by rfl))
      have ea := h'.k3 h3
      have eb := h'.k5 (hdeps ⟨5, .data⟩ (by simp) (by rfl))
      go_simp
      exact hK' _ _ ⟨h, g, { off := h'.off.put (by decide) _, k0 := fun q => put_ne _ (by decide) (h'.k0 (by simpa using q)), k1 := fun q => put_ne _ (by decide) (h'.k1 (by simpa using q)), k2 := fun q => put_ne _ (by decide) (h'.k2 (by simpa using q)), k3 := fun q => put_ne _ (by decide) (h'.k3 (by simpa using q)), k4 := fun q => put_ne _ (by decide) (h'.k4 (by simpa using q)), k5 := fun q => put_ne _ (by decide) (h'.k5 (by simpa using q)), k6 := fun _ => put_at _ (by have := h'.off.size; omega), k7 := fun q => put_ne _ (by decide) (h'.k7 (by simpa using q)), k8 := fun q => put_ne _ (by decide) (h'.k8 (by simpa using q)), k9 := fun q => put_ne _ (by decide) (h'.k9 (by simpa using q)), k10 := fun q => put_ne _ (by decide) (h'.k10 (by simpa using q)), k11 := fun q => put_ne _ (by decide) (h'.k11 (by simpa using q)), k12 := fun q => put_ne _ (by decide) (h'.k12 (by simpa using q)), k13 := fun q => put_ne _ (by decide) (h'.k13 (by simpa using q)), k14 := fun q => put_ne _ (by decide) (h'.k14 (by simpa using q)), k15 := fun q => put_ne _ (by decide) (h'.k15 (by simpa using q)), k16 := fun q => put_ne _ (by decide) (h'.k16 (by simpa using q)), k17 := fun q => put_ne _ (by decide) (h'.k17 (by simpa using q)), be := h'.be, d6 := fun _ => by simpa using h3, d14 := fun q => by simpa using h'.d14 (by simpa using q), f := fun q => h'.f (by simpa using q), g' := fun q => h'.g' (by simpa using q) }⟩
    | 7, ho, hLi, hK' =>
      cases ho
      have h6 := (hdeps ⟨6, .data⟩ (by simp) (by rfl))
      have ea := h'.k6 h6
      have ec : wx.cell? ⟨h, 3, none⟩ = some (.int .i64 (0)) := (h'.f (h'.d6 h6)).1 3 (by decide)
      go_simp
      exact hK' _ _ ⟨h, g, { off := h'.off.put (by decide) _, k0 := fun q => put_ne _ (by decide) (h'.k0 (by simpa using q)), k1 := fun q => put_ne _ (by decide) (h'.k1 (by simpa using q)), k2 := fun q => put_ne _ (by decide) (h'.k2 (by simpa using q)), k3 := fun q => put_ne _ (by decide) (h'.k3 (by simpa using q)), k4 := fun q => put_ne _ (by decide) (h'.k4 (by simpa using q)), k5 := fun q => put_ne _ (by decide) (h'.k5 (by simpa using q)), k6 := fun q => put_ne _ (by decide) (h'.k6 (by simpa using q)), k7 := fun _ => put_at _ (by have := h'.off.size; omega), k8 := fun q => put_ne _ (by decide) (h'.k8 (by simpa using q)), k9 := fun q => put_ne _ (by decide) (h'.k9 (by simpa using q)), k10 := fun q => put_ne _ (by decide) (h'.k10 (by simpa using q)), k11 := fun q => put_ne _ (by decide) (h'.k11 (by simpa using q)), k12 := fun q => put_ne _ (by decide) (h'.k12 (by simpa using q)), k13 := fun q => put_ne _ (by decide) (h'.k13 (by simpa using q)), k14 := fun q => put_ne _ (by decide) (h'.k14 (by simpa using q)), k15 := fun q => put_ne _ (by decide) (h'.k15 (by simpa using q)), k16 := fun q => put_ne _ (by decide) (h'.k16 (by simpa using q)), k17 := fun q => put_ne _ (by decide) (h'.k17 (by simpa using q)), be := h'.be, d6 := fun q => by simpa using h'.d6 (by simpa using q), d14 := fun q => by simpa using h'.d14 (by simpa using q), f := fun q => h'.f (by simpa using q), g' := fun q => h'.g' (by simpa using q) }⟩
    | 8, ho, hLi, hK' =>
      cases ho
      have ea := (h'.off.off 0 (by decide)).trans hA0
      go_simp
      exact hK' _ _ ⟨h, g, { off := h'.off.put (by decide) _, k0 := fun q => put_ne _ (by decide) (h'.k0 (by simpa using q)), k1 := fun q => put_ne _ (by decide) (h'.k1 (by simpa using q)), k2 := fun q => put_ne _ (by decide) (h'.k2 (by simpa using q)), k3 := fun q => put_ne _ (by decide) (h'.k3 (by simpa using q)), k4 := fun q => put_ne _ (by decide) (h'.k4 (by simpa using q)), k5 := fun q => put_ne _ (by decide) (h'.k5 (by simpa using q)), k6 := fun q => put_ne _ (by decide) (h'.k6 (by simpa using q)), k7 := fun q => put_ne _ (by decide) (h'.k7 (by simpa using q)), k8 := fun _ => put_at _ (by have := h'.off.size; omega), k9 := fun q => put_ne _ (by decide) (h'.k9 (by simpa using q)), k10 := fun q => put_ne _ (by decide) (h'.k10 (by simpa using q)), k11 := fun q => put_ne _ (by decide) (h'.k11 (by simpa using q)), k12 := fun q => put_ne _ (by decide) (h'.k12 (by simpa using q)), k13 := fun q => put_ne _ (by decide) (h'.k13 (by simpa using q)), k14 := fun q => put_ne _ (by decide) (h'.k14 (by simpa using q)), k15 := fun q => put_ne _ (by decide) (h'.k15 (by simpa using q)), k16 := fun q => put_ne _ (by decide) (h'.k16 (by simpa using q)), k17 := fun q => put_ne _ (by decide) (h'.k17 (by simpa using q)), be := h'.be, d6 := fun q => by simpa using h'.d6 (by simpa using q), d14 := fun q => by simpa using h'.d14 (by simpa using q), f := fun q => h'.f (by simpa using q), g' := fun q => h'.g' (by simpa using q) }⟩
    | 9, ho, hLi, hK' =>
      cases ho
      have ea := (h'.off.off 0 (by decide)).trans hA0
      go_simp
      exact hK' _ _ ⟨h, g, { off := h'.off.put (by decide) _, k0 := fun q => put_ne _ (by decide) (h'.k0 (by simpa using q)), k1 := fun q => put_ne _ (by decide) (h'.k1 (by simpa using q)), k2 := fun q => put_ne _ (by decide) (h'.k2 (by simpa using q)), k3 := fun q => put_ne _ (by decide) (h'.k3 (by simpa using q)), k4 := fun q => put_ne _ (by decide) (h'.k4 (by simpa using q)), k5 := fun q => put_ne _ (by decide) (h'.k5 (by simpa using q)), k6 := fun q => put_ne _ (by decide) (h'.k6 (by simpa using q)), k7 := fun q => put_ne _ (by decide) (h'.k7 (by simpa using q)), k8 := fun q => put_ne _ (by decide) (h'.k8 (by simpa using q)), k9 := fun _ => put_at _ (by have := h'.off.size; omega), k10 := fun q => put_ne _ (by decide) (h'.k10 (by simpa using q)), k11 := fun q => put_ne _ (by decide) (h'.k11 (by simpa using q)), k12 := fun q => put_ne _ (by decide) (h'.k12 (by simpa using q)), k13 := fun q => put_ne _ (by decide) (h'.k13 (by simpa using q)), k14 := fun q => put_ne _ (by decide) (h'.k14 (by simpa using q)), k15 := fun q => put_ne _ (by decide) (h'.k15 (by simpa using q)), k16 := fun q => put_ne _ (by decide) (h'.k16 (by simpa using q)), k17 := fun q => put_ne _ (by decide) (h'.k17 (by simpa using q)), be := h'.be, d6 := fun q => by simpa using h'.d6 (by simpa using q), d14 := fun q => by simpa using h'.d14 (by simpa using q), f := fun q => h'.f (by simpa using q), g' := fun q => h'.g' (by simpa using q) }⟩
    | 10, ho, hLi, hK' =>
      cases ho
      have ea := h'.k9 (hdeps ⟨9, .data⟩ (by simp) (by rfl))
      have wn : IntKind.i64.wrap (-r) = -r := wr_in (by omega) (by omega)
      go_simp
      try rewrite [wn]
      exact hK' _ _ ⟨h, g, { off := h'.off.put (by decide) _, k0 := fun q => put_ne _ (by decide) (h'.k0 (by simpa using q)), k1 := fun q => put_ne _ (by decide) (h'.k1 (by simpa using q)), k2 := fun q => put_ne _ (by decide) (h'.k2 (by simpa using q)), k3 := fun q => put_ne _ (by decide) (h'.k3 (by simpa using q)), k4 := fun q => put_ne _ (by decide) (h'.k4 (by simpa using q)), k5 := fun q => put_ne _ (by decide) (h'.k5 (by simpa using q)), k6 := fun q => put_ne _ (by decide) (h'.k6 (by simpa using q)), k7 := fun q => put_ne _ (by decide) (h'.k7 (by simpa using q)), k8 := fun q => put_ne _ (by decide) (h'.k8 (by simpa using q)), k9 := fun q => put_ne _ (by decide) (h'.k9 (by simpa using q)), k10 := fun _ => put_at _ (by have := h'.off.size; omega), k11 := fun q => put_ne _ (by decide) (h'.k11 (by simpa using q)), k12 := fun q => put_ne _ (by decide) (h'.k12 (by simpa using q)), k13 := fun q => put_ne _ (by decide) (h'.k13 (by simpa using q)), k14 := fun q => put_ne _ (by decide) (h'.k14 (by simpa using q)), k15 := fun q => put_ne _ (by decide) (h'.k15 (by simpa using q)), k16 := fun q => put_ne _ (by decide) (h'.k16 (by simpa using q)), k17 := fun q => put_ne _ (by decide) (h'.k17 (by simpa using q)), be := h'.be, d6 := fun q => by simpa using h'.d6 (by simpa using q), d14 := fun q => by simpa using h'.d14 (by simpa using q), f := fun q => h'.f (by simpa using q), g' := fun q => h'.g' (by simpa using q) }⟩
    | 11, ho, hLi, hK' =>
      cases ho
      have ea := h'.k8 (hdeps ⟨8, .data⟩ (by simp) (by rfl))
      have eb := h'.k10 (hdeps ⟨10, .data⟩ (by simp) (by rfl))
      go_simp
      exact hK' _ _ ⟨h, wx.heap.size, { off := h'.off.put (by decide) _, k0 := fun q => put_ne _ (by decide) (h'.k0 (by simpa using q)), k1 := fun q => put_ne _ (by decide) (h'.k1 (by simpa using q)), k2 := fun q => put_ne _ (by decide) (h'.k2 (by simpa using q)), k3 := fun q => put_ne _ (by decide) (h'.k3 (by simpa using q)), k4 := fun q => put_ne _ (by decide) (h'.k4 (by simpa using q)), k5 := fun q => put_ne _ (by decide) (h'.k5 (by simpa using q)), k6 := fun q => put_ne _ (by decide) (h'.k6 (by simpa using q)), k7 := fun q => put_ne _ (by decide) (h'.k7 (by simpa using q)), k8 := fun q => put_ne _ (by decide) (h'.k8 (by simpa using q)), k9 := fun q => put_ne _ (by decide) (h'.k9 (by simpa using q)), k10 := fun q => put_ne _ (by decide) (h'.k10 (by simpa using q)), k11 := fun _ => put_at _ (by have := h'.off.size; omega), k12 := fun q => put_ne _ (by decide) (h'.k12 (by simpa using q)), k13 := fun q => put_ne _ (by decide) (h'.k13 (by simpa using q)), k14 := fun q => absurd (h'.d14 (by simpa using q)) (by simp [hLi]), k15 := fun q => put_ne _ (by decide) (h'.k15 (by simpa using q)), k16 := fun q => put_ne _ (by decide) (h'.k16 (by simpa using q)), k17 := fun q => put_ne _ (by decide) (h'.k17 (by simpa using q)), be := h'.be.alloc h'.be.size _, d6 := fun q => by simpa using h'.d6 (by simpa using q), d14 := fun _ => by simp, f := fun q => (h'.f (by simpa using q)).next ((Below.refl _ _).alloc (Nat.le_refl _) _), g' := fun _ => Four.fresh _ _ _ _ _ _ }⟩
    | 12, ho, hLi, hK' =>
      cases ho
      have ea := (h'.off.off 1 (by decide)).trans hA1
      go_simp
      exact hK' _ _ ⟨h, g, { off := h'.off.put (by decide) _, k0 := fun q => put_ne _ (by decide) (h'.k0 (by simpa using q)), k1 := fun q => put_ne _ (by decide) (h'.k1 (by simpa using q)), k2 := fun q => put_ne _ (by decide) (h'.k2 (by simpa using q)), k3 := fun q => put_ne _ (by decide) (h'.k3 (by simpa using q)), k4 := fun q => put_ne _ (by decide) (h'.k4 (by simpa using q)), k5 := fun q => put_ne _ (by decide) (h'.k5 (by simpa using q)), k6 := fun q => put_ne _ (by decide) (h'.k6 (by simpa using q)), k7 := fun q => put_ne _ (by decide) (h'.k7 (by simpa using q)), k8 := fun q => put_ne _ (by decide) (h'.k8 (by simpa using q)), k9 := fun q => put_ne _ (by decide) (h'.k9 (by simpa using q)), k10 := fun q => put_ne _ (by decide) (h'.k10 (by simpa using q)), k11 := fun q => put_ne _ (by decide) (h'.k11 (by simpa using q)), k12 := fun _ => put_at _ (by have := h'.off.size; omega), k13 := fun q => put_ne _ (by decide) (h'.k13 (by simpa using q)), k14 := fun q => put_ne _ (by decide) (h'.k14 (by simpa using q)), k15 := fun q => put_ne _ (by decide) (h'.k15 (by simpa using q)), k16 := fun q => put_ne _ (by decide) (h'.k16 (by simpa using q)), k17 := fun q => put_ne _ (by decide) (h'.k17 (by simpa using q)), be := h'.be, d6 := fun q => by simpa using h'.d6 (by simpa using q), d14 := fun q => by simpa using h'.d14 (by simpa using q), f := fun q => h'.f (by simpa using q), g' := fun q => h'.g' (by simpa using q) }⟩
    | 13, ho, hLi, hK' =>
      cases ho
      have ea := h'.k12 (hdeps ⟨12, .data⟩ (by simp) (by rfl))
      go_simp
      exact hK' _ _ ⟨h, g, { off := h'.off.put (by decide) _, k0 := fun q => put_ne _ (by decide) (h'.k0 (by simpa using q)), k1 := fun q => put_ne _ (by decide) (h'.k1 (by simpa using q)), k2 := fun q => put_ne _ (by decide) (h'.k2 (by simpa using q)), k3 := fun q => put_ne _ (by decide) (h'.k3 (by simpa using q)), k4 := fun q => put_ne _ (by decide) (h'.k4 (by simpa using q)), k5 := fun q => put_ne _ (by decide) (h'.k5 (by simpa using q)), k6 := fun q => put_ne _ (by decide) (h'.k6 (by simpa using q)), k7 := fun q => put_ne _ (by decide) (h'.k7 (by simpa using q)), k8 := fun q => put_ne _ (by decide) (h'.k8 (by simpa using q)), k9 := fun q => put_ne _ (by decide) (h'.k9 (by simpa using q)), k10 := fun q => put_ne _ (by decide) (h'.k10 (by simpa using q)), k11 := fun q => put_ne _ (by decide) (h'.k11 (by simpa using q)), k12 := fun q => put_ne _ (by decide) (h'.k12 (by simpa using q)), k13 := fun _ => put_at _ (by have := h'.off.size; omega), k14 := fun q => put_ne _ (by decide) (h'.k14 (by simpa using q)), k15 := fun q => put_ne _ (by decide) (h'.k15 (by simpa using q)), k16 := fun q => put_ne _ (by decide) (h'.k16 (by simpa using q)), k17 := fun q => put_ne _ (by decide) (h'.k17 (by simpa using q)), be := h'.be, d6 := fun q => by simpa using h'.d6 (by simpa using q), d14 := fun q => by simpa using h'.d14 (by simpa using q), f := fun q => h'.f (by simpa using q), g' := fun q => h'.g' (by simpa using q) }⟩
    | 14, ho, hLi, hK' =>
      cases ho
      have h11 := (hdeps ⟨11, .data⟩ (by simp) (by rfl))
      have ea := h'.k11 h11
      have eb := h'.k13 (hdeps ⟨13, .data⟩ (by simp) (by rfl))
      go_simp
      exact hK' _ _ ⟨h, g, { off := h'.off.put (by decide) _, k0 := fun q => put_ne _ (by decide) (h'.k0 (by simpa using q)), k1 := fun q => put_ne _ (by decide) (h'.k1 (by simpa using q)), k2 := fun q => put_ne _ (by decide) (h'.k2 (by simpa using q)), k3 := fun q => put_ne _ (by decide) (h'.k3 (by simpa using q)), k4 := fun q => put_ne _ (by decide) (h'.k4 (by simpa using q)), k5 := fun q => put_ne _ (by decide) (h'.k5 (by simpa using q)), k6 := fun q => put_ne _ (by decide) (h'.k6 (by simpa using q)), k7 := fun q => put_ne _ (by decide) (h'.k7 (by simpa using q)), k8 := fun q => put_ne _ (by decide) (h'.k8 (by simpa using q)), k9 := fun q => put_ne _ (by decide) (h'.k9 (by simpa using q)), k10 := fun q => put_ne _ (by decide) (h'.k10 (by simpa using q)), k11 := fun q => put_ne _ (by decide) (h'.k11 (by simpa using q)), k12 := fun q => put_ne _ (by decide) (h'.k12 (by simpa using q)), k13 := fun q => put_ne _ (by decide) (h'.k13 (by simpa using q)), k14 := fun _ => put_at _ (by have := h'.off.size; omega), k15 := fun q => put_ne _ (by decide) (h'.k15 (by simpa using q)), k16 := fun q => put_ne _ (by decide) (h'.k16 (by simpa using q)), k17 := fun q => put_ne _ (by decide) (h'.k17 (by simpa using q)), be := h'.be, d6 := fun q => by simpa using h'.d6 (by simpa using q), d14 := fun _ => by simpa using h11, f := fun q => h'.f (by simpa using q), g' := fun q => h'.g' (by simpa using q) }⟩
    | 15, ho, hLi, hK' =>
      cases ho
      have h14 := (hdeps ⟨14, .data⟩ (by simp) (by rfl))
      have ea := h'.k14 h14
      have ec : wx.cell? ⟨g, 3, none⟩ = some (.int .i64 (-r)) := (h'.g' (h'.d14 h14)).1 3 (by decide)
      go_simp
      exact hK' _ _ ⟨h, g, { off := h'.off.put (by decide) _, k0 := fun q => put_ne _ (by decide) (h'.k0 (by simpa using q)), k1 := fun q => put_ne _ (by decide) (h'.k1 (by simpa using q)), k2 := fun q => put_ne _ (by decide) (h'.k2 (by simpa using q)), k3 := fun q => put_ne _ (by decide) (h'.k3 (by simpa using q)), k4 := fun q => put_ne _ (by decide) (h'.k4 (by simpa using q)), k5 := fun q => put_ne _ (by decide) (h'.k5 (by simpa using q)), k6 := fun q => put_ne _ (by decide) (h'.k6 (by simpa using q)), k7 := fun q => put_ne _ (by decide) (h'.k7 (by simpa using q)), k8 := fun q => put_ne _ (by decide) (h'.k8 (by simpa using q)), k9 := fun q => put_ne _ (by decide) (h'.k9 (by simpa using q)), k10 := fun q => put_ne _ (by decide) (h'.k10 (by simpa using q)), k11 := fun q => put_ne _ (by decide) (h'.k11 (by simpa using q)), k12 := fun q => put_ne _ (by decide) (h'.k12 (by simpa using q)), k13 := fun q => put_ne _ (by decide) (h'.k13 (by simpa using q)), k14 := fun q => put_ne _ (by decide) (h'.k14 (by simpa using q)), k15 := fun _ => put_at _ (by have := h'.off.size; omega), k16 := fun q => put_ne _ (by decide) (h'.k16 (by simpa using q)), k17 := fun q => put_ne _ (by decide) (h'.k17 (by simpa using q)), be := h'.be, d6 := fun q => by simpa using h'.d6 (by simpa using q), d14 := fun q => by simpa using h'.d14 (by simpa using q), f := fun q => h'.f (by simpa using q), g' := fun q => h'.g' (by simpa using q) }⟩
    | 16, ho, hLi, hK' =>
      cases ho
      have ea := h'.k7 (hdeps ⟨7, .data⟩ (by simp) (by rfl))
      go_simp
      exact hK' _ _ ⟨h, g, { off := h'.off.put (by decide) _, k0 := fun q => put_ne _ (by decide) (h'.k0 (by simpa using q)), k1 := fun q => put_ne _ (by decide) (h'.k1 (by simpa using q)), k2 := fun q => put_ne _ (by decide) (h'.k2 (by simpa using q)), k3 := fun q => put_ne _ (by decide) (h'.k3 (by simpa using q)), k4 := fun q => put_ne _ (by decide) (h'.k4 (by simpa using q)), k5 := fun q => put_ne _ (by decide) (h'.k5 (by simpa using q)), k6 := fun q => put_ne _ (by decide) (h'.k6 (by simpa using q)), k7 := fun q => put_ne _ (by decide) (h'.k7 (by simpa using q)), k8 := fun q => put_ne _ (by decide) (h'.k8 (by simpa using q)), k9 := fun q => put_ne _ (by decide) (h'.k9 (by simpa using q)), k10 := fun q => put_ne _ (by decide) (h'.k10 (by simpa using q)), k11 := fun q => put_ne _ (by decide) (h'.k11 (by simpa using q)), k12 := fun q => put_ne _ (by decide) (h'.k12 (by simpa using q)), k13 := fun q => put_ne _ (by decide) (h'.k13 (by simpa using q)), k14 := fun q => put_ne _ (by decide) (h'.k14 (by simpa using q)), k15 := fun q => put_ne _ (by decide) (h'.k15 (by simpa using q)), k16 := fun _ => put_at _ (by have := h'.off.size; omega), k17 := fun q => put_ne _ (by decide) (h'.k17 (by simpa using q)), be := h'.be, d6 := fun q => by simpa using h'.d6 (by simpa using q), d14 := fun q => by simpa using h'.d14 (by simpa using q), f := fun q => h'.f (by simpa using q), g' := fun q => h'.g' (by simpa using q) }⟩
    | 17, ho, hLi, hK' =>
      cases ho
      have ea := h'.k15 (hdeps ⟨15, .data⟩ (by simp) (by rfl))
      go_simp
      exact hK' _ _ ⟨h, g, { off := h'.off.put (by decide) _, k0 := fun q => put_ne _ (by decide) (h'.k0 (by simpa using q)), k1 := fun q => put_ne _ (by decide) (h'.k1 (by simpa using q)), k2 := fun q => put_ne _ (by decide) (h'.k2 (by simpa using q)), k3 := fun q => put_ne _ (by decide) (h'.k3 (by simpa using q)), k4 := fun q => put_ne _ (by decide) (h'.k4 (by simpa using q)), k5 := fun q => put_ne _ (by decide) (h'.k5 (by simpa using q)), k6 := fun q => put_ne _ (by decide) (h'.k6 (by simpa using q)), k7 := fun q => put_ne _ (by decide) (h'.k7 (by simpa using q)), k8 := fun q => put_ne _ (by decide) (h'.k8 (by simpa using q)), k9 := fun q => put_ne _ (by decide) (h'.k9 (by simpa using q)), k10 := fun q => put_ne _ (by decide) (h'.k10 (by simpa using q)), k11 := fun q => put_ne _ (by decide) (h'.k11 (by simpa using q)), k12 := fun q => put_ne _ (by decide) (h'.k12 (by simpa using q)), k13 := fun q => put_ne _ (by decide) (h'.k13 (by simpa using q)), k14 := fun q => put_ne _ (by decide) (h'.k14 (by simpa using q)), k15 := fun q => put_ne _ (by decide) (h'.k15 (by simpa using q)), k16 := fun q => put_ne _ (by decide) (h'.k16 (by simpa using q)), k17 := fun _ => put_at _ (by have := h'.off.size; omega), be := h'.be, d6 := fun q => by simpa using h'.d6 (by simpa using q), d14 := fun q => by simpa using h'.d14 (by simpa using q), f := fun q => h'.f (by simpa using q), g' := fun q => h'.g' (by simpa using q) }⟩
    | i + 18, ho, hLi, hK' => cases ho
  · intro L a wx hI hall
    obtain ⟨h, g, h'⟩ := hI
    have hfr := h'.off.rebuild (fun d => if d = 6 then .int .i64 (r) else if d = 7 then .int .i64 (r) else if d = 8 then .int .i64 (-r) else if d = 9 then .slice (some ⟨h, 0, none⟩) 4 4 else if d = 10 then .int .i64 (3) else if d = 11 then .int .i64 (3) else if d = 12 then .pointer (some ⟨h, 3, none⟩) else if d = 13 then .int .i64 (0) else if d = 14 then .int .i64 (r) else if d = 15 then .int .i64 (r) else if d = 16 then .int .i64 (-r) else if d = 17 then .slice (some ⟨g, 0, none⟩) 4 4 else if d = 18 then .int .i64 (3) else if d = 19 then .int .i64 (3) else if d = 20 then .pointer (some ⟨g, 3, none⟩) else if d = 21 then .int .i64 (-r) else if d = 4 then .int .i64 (0) else if d = 5 then .int .i64 (-r) else undef) (by
      intro d hd
      simp only [List.mem_cons, List.not_mem_nil, or_false] at hd
      rcases hd with rfl | rfl | rfl | rfl | rfl | rfl | rfl | rfl | rfl | rfl | rfl | rfl | rfl | rfl | rfl | rfl | rfl | rfl
      · exact h'.k0 (hall 0 (by decide))
      · exact h'.k1 (hall 1 (by decide))
      · exact h'.k2 (hall 2 (by decide))
      · exact h'.k3 (hall 3 (by decide))
      · exact h'.k4 (hall 4 (by decide))
      · exact h'.k5 (hall 5 (by decide))
      · exact h'.k6 (hall 6 (by decide))
      · exact h'.k7 (hall 7 (by decide))
      · exact h'.k8 (hall 8 (by decide))
      · exact h'.k9 (hall 9 (by decide))
      · exact h'.k10 (hall 10 (by decide))
      · exact h'.k11 (hall 11 (by decide))
      · exact h'.k12 (hall 12 (by decide))
      · exact h'.k13 (hall 13 (by decide))
      · exact h'.k14 (hall 14 (by decide))
      · exact h'.k15 (hall 15 (by decide))
      · exact h'.k16 (hall 16 (by decide))
      · exact h'.k17 (hall 17 (by decide))
      )
    simp only [List.foldl_cons, List.foldl_nil] at hfr
    rw [← HA.out] at hfr
    have hB := h'.be
    rw [hfr]
    clear hfr h' hall HA hsz hA0 hA1
    simp [Act.put]
    go_wp2_with fail
    go_ret2
    exact ⟨rfl, hB⟩
structure TuI4 (r : Int) (w0 : World) (A : Act) (h g : Nat) (L : Nat → Bool) (a : Act) (w : World) : Prop where
  off : OffOf [6, 7, 8, 9, 10, 11, 12, 13, 14, 15, 16, 17, 18, 19, 20, 21, 4, 5] A a
  k0 : L 0 = true → a.tmps[6]? = some (.int .i64 (r))
  k1 : L 1 = true → a.tmps[7]? = some (.int .i64 (r))
  k2 : L 2 = true → a.tmps[8]? = some (.int .i64 (-r))
  k3 : L 3 = true → a.tmps[9]? = some (.slice (some ⟨h, 0, none⟩) 4 4)
  k4 : L 4 = true → a.tmps[10]? = some (.int .i64 (4))
  k5 : L 5 = true → a.tmps[11]? = some (.int .i64 (0))
  k6 : L 6 = true → a.tmps[12]? = some (.pointer (some ⟨h, 0, none⟩))
  k7 : L 7 = true → a.tmps[13]? = some (.int .i64 (r))
  k8 : L 8 = true → a.tmps[14]? = some (.int .i64 (r))
  k9 : L 9 = true → a.tmps[15]? = some (.int .i64 (r))
  k10 : L 10 = true → a.tmps[16]? = some (.int .i64 (-r))
  k11 : L 11 = true → a.tmps[17]? = some (.slice (some ⟨g, 0, none⟩) 4 4)
  k12 : L 12 = true → a.tmps[18]? = some (.int .i64 (4))
  k13 : L 13 = true → a.tmps[19]? = some (.int .i64 (0))
  k14 : L 14 = true → a.tmps[20]? = some (.pointer (some ⟨g, 0, none⟩))
  k15 : L 15 = true → a.tmps[21]? = some (.int .i64 (0))
  k16 : L 16 = true → a.tmps[4]? = some (.int .i64 (r))
  k17 : L 17 = true → a.tmps[5]? = some (.int .i64 (0))
  be : Below w0.heap.size w0 w
  d6 : L 6 = true → L 3 = true
  d14 : L 14 = true → L 11 = true
  f : L 3 = true → Four h r 0 (-r) 0 w
  g' : L 11 = true → Four g 0 r 0 (-r) w
set_option maxHeartbeats 4000000 in
theorem turned_4 (r : Int) (w : World) (h1 : 0 ≤ r) (h2 : r ≤ 1000000) :
    Calls Try.prog 53 #[.int .i64 r, .int .i64 4] w fun e w' => e = .returned (.tuple #[.int .i64 (r), .int .i64 (0)]) ∧ Below w.heap.size w w' := by
  go_enter Try.func53, Try.ntmps53
  go_upto_region 1 with fail
  generalize hA : (Act.mk _ _) = A
  have hsz : A.tmps.size = 22 := by rw [← hA]; rfl
  have hA0 : A.tmps[0]? = some (.int .i64 r) := by rw [← hA]; rfl
  have hA1 : A.tmps[1]? = some (.int .i64 4) := by rw [← hA]; rfl
  have HA := Lib.hid hA
  clear hA
  refine wp_region_inv (fun L a wx => ∃ h g, TuI4 r w A h g L a wx) (by kernel_rfl) (by kernel_rfl) ?_ ?_ ?_
  · have hD := (Below.refl w.heap.size w).drew
    exact ⟨0, 0, by constructor <;> first | exact OffOf.refl _ _ | exact hD | (intro h; exact nomatch h)⟩
  · intro i o ho L a wx hI hLi hdeps K hK'
    obtain ⟨h, g, h'⟩ := hI
    match i, ho, hLi, hK' with
    | 0, ho, hLi, hK' =>
      cases ho
      have ea := (h'.off.off 0 (by decide)).trans hA0
      go_simp
      exact hK' _ _ ⟨h, g, { off := h'.off.put (by decide) _, k0 := fun _ => put_at _ (by have := h'.off.size; omega), k1 := fun q => put_ne _ (by decide) (h'.k1 (by simpa using q)), k2 := fun q => put_ne _ (by decide) (h'.k2 (by simpa using q)), k3 := fun q => put_ne _ (by decide) (h'.k3 (by simpa using q)), k4 := fun q => put_ne _ (by decide) (h'.k4 (by simpa using q)), k5 := fun q => put_ne _ (by decide) (h'.k5 (by simpa using q)), k6 := fun q => put_ne _ (by decide) (h'.k6 (by simpa using q)), k7 := fun q => put_ne _ (by decide) (h'.k7 (by simpa using q)), k8 := fun q => put_ne _ (by decide) (h'.k8 (by simpa using q)), k9 := fun q => put_ne _ (by decide) (h'.k9 (by simpa using q)), k10 := fun q => put_ne _ (by decide) (h'.k10 (by simpa using q)), k11 := fun q => put_ne _ (by decide) (h'.k11 (by simpa using q)), k12 := fun q => put_ne _ (by decide) (h'.k12 (by simpa using q)), k13 := fun q => put_ne _ (by decide) (h'.k13 (by simpa using q)), k14 := fun q => put_ne _ (by decide) (h'.k14 (by simpa using q)), k15 := fun q => put_ne _ (by decide) (h'.k15 (by simpa using q)), k16 := fun q => put_ne _ (by decide) (h'.k16 (by simpa using q)), k17 := fun q => put_ne _ (by decide) (h'.k17 (by simpa using q)), be := h'.be, d6 := fun q => by simpa using h'.d6 (by simpa using q), d14 := fun q => by simpa using h'.d14 (by simpa using q), f := fun q => h'.f (by simpa using q), g' := fun q => h'.g' (by simpa using q) }⟩
    | 1, ho, hLi, hK' =>
      cases ho
      have ea := (h'.off.off 0 (by decide)).trans hA0
      go_simp
      exact hK' _ _ ⟨h, g, { off := h'.off.put (by decide) _, k0 := fun q => put_ne _ (by decide) (h'.k0 (by simpa using q)), k1 := fun _ => put_at _ (by have := h'.off.size; omega), k2 := fun q => put_ne _ (by decide) (h'.k2 (by simpa using q)), k3 := fun q => put_ne _ (by decide) (h'.k3 (by simpa using q)), k4 := fun q => put_ne _ (by decide) (h'.k4 (by simpa using q)), k5 := fun q => put_ne _ (by decide) (h'.k5 (by simpa using q)), k6 := fun q => put_ne _ (by decide) (h'.k6 (by simpa using q)), k7 := fun q => put_ne _ (by decide) (h'.k7 (by simpa using q)), k8 := fun q => put_ne _ (by decide) (h'.k8 (by simpa using q)), k9 := fun q => put_ne _ (by decide) (h'.k9 (by simpa using q)), k10 := fun q => put_ne _ (by decide) (h'.k10 (by simpa using q)), k11 := fun q => put_ne _ (by decide) (h'.k11 (by simpa using q)), k12 := fun q => put_ne _ (by decide) (h'.k12 (by simpa using q)), k13 := fun q => put_ne _ (by decide) (h'.k13 (by simpa using q)), k14 := fun q => put_ne _ (by decide) (h'.k14 (by simpa using q)), k15 := fun q => put_ne _ (by decide) (h'.k15 (by simpa using q)), k16 := fun q => put_ne _ (by decide) (h'.k16 (by simpa using q)), k17 := fun q => put_ne _ (by decide) (h'.k17 (by simpa using q)), be := h'.be, d6 := fun q => by simpa using h'.d6 (by simpa using q), d14 := fun q => by simpa using h'.d14 (by simpa using q), f := fun q => h'.f (by simpa using q), g' := fun q => h'.g' (by simpa using q) }⟩
    | 2, ho, hLi, hK' =>
      cases ho
      have ea := h'.k1 (hdeps ⟨1, .data⟩ (by simp) (by rfl))
      have wn : IntKind.i64.wrap (-r) = -r := wr_in (by omega) (by omega)
      go_simp
      try rewrite [wn]
      exact hK' _ _ ⟨h, g, { off := h'.off.put (by decide) _, k0 := fun q => put_ne _ (by decide) (h'.k0 (by simpa using q)), k1 := fun q => put_ne _ (by decide) (h'.k1 (by simpa using q)), k2 := fun _ => put_at _ (by have := h'.off.size; omega), k3 := fun q => put_ne _ (by decide) (h'.k3 (by simpa using q)), k4 := fun q => put_ne _ (by decide) (h'.k4 (by simpa using q)), k5 := fun q => put_ne _ (by decide) (h'.k5 (by simpa using q)), k6 := fun q => put_ne _ (by decide) (h'.k6 (by simpa using q)), k7 := fun q => put_ne _ (by decide) (h'.k7 (by simpa using q)), k8 := fun q => put_ne _ (by decide) (h'.k8 (by simpa using q)), k9 := fun q => put_ne _ (by decide) (h'.k9 (by simpa using q)), k10 := fun q => put_ne _ (by decide) (h'.k10 (by simpa using q)), k11 := fun q => put_ne _ (by decide) (h'.k11 (by simpa using q)), k12 := fun q => put_ne _ (by decide) (h'.k12 (by simpa using q)), k13 := fun q => put_ne _ (by decide) (h'.k13 (by simpa using q)), k14 := fun q => put_ne _ (by decide) (h'.k14 (by simpa using q)), k15 := fun q => put_ne _ (by decide) (h'.k15 (by simpa using q)), k16 := fun q => put_ne _ (by decide) (h'.k16 (by simpa using q)), k17 := fun q => put_ne _ (by decide) (h'.k17 (by simpa using q)), be := h'.be, d6 := fun q => by simpa using h'.d6 (by simpa using q), d14 := fun q => by simpa using h'.d14 (by simpa using q), f := fun q => h'.f (by simpa using q), g' := fun q => h'.g' (by simpa using q) }⟩
    | 3, ho, hLi, hK' =>
      cases ho
      have ea := h'.k0 (hdeps ⟨0, .data⟩ (by simp) (by rfl))
      have eb := h'.k2 (hdeps ⟨2, .data⟩ (by simp) (by rfl))
      go_simp
      exact hK' _ _ ⟨wx.heap.size, g, { off := h'.off.put (by decide) _, k0 := fun q => put_ne _ (by decide) (h'.k0 (by simpa using q)), k1 := fun q => put_ne _ (by decide) (h'.k1 (by simpa using q)), k2 := fun q => put_ne _ (by decide) (h'.k2 (by simpa using q)), k3 := fun _ => put_at _ (by have := h'.off.size; omega), k4 := fun q => put_ne _ (by decide) (h'.k4 (by simpa using q)), k5 := fun q => put_ne _ (by decide) (h'.k5 (by simpa using q)), k6 := fun q => absurd (h'.d6 (by simpa using q)) (by simp [hLi]), k7 := fun q => put_ne _ (by decide) (h'.k7 (by simpa using q)), k8 := fun q => put_ne _ (by decide) (h'.k8 (by simpa using q)), k9 := fun q => put_ne _ (by decide) (h'.k9 (by simpa using q)), k10 := fun q => put_ne _ (by decide) (h'.k10 (by simpa using q)), k11 := fun q => put_ne _ (by decide) (h'.k11 (by simpa using q)), k12 := fun q => put_ne _ (by decide) (h'.k12 (by simpa using q)), k13 := fun q => put_ne _ (by decide) (h'.k13 (by simpa using q)), k14 := fun q => put_ne _ (by decide) (h'.k14 (by simpa using q)), k15 := fun q => put_ne _ (by decide) (h'.k15 (by simpa using q)), k16 := fun q => put_ne _ (by decide) (h'.k16 (by simpa using q)), k17 := fun q => put_ne _ (by decide) (h'.k17 (by simpa using q)), be := h'.be.alloc h'.be.size _, d6 := fun _ => by simp, d14 := fun q => by simpa using h'.d14 (by simpa using q), f := fun _ => Four.fresh _ _ _ _ _ _, g' := fun q => (h'.g' (by simpa using q)).next ((Below.refl _ _).alloc (Nat.le_refl _) _) }⟩
    | 4, ho, hLi, hK' =>
      cases ho
      have ea := (h'.off.off 1 (by decide)).trans hA1
      go_simp
      exact hK' _ _ ⟨h, g, { off := h'.off.put (by decide) _, k0 := fun q => put_ne _ (by decide) (h'.k0 (by simpa using q)), k1 := fun q => put_ne _ (by decide) (h'.k1 (by simpa using q)), k2 := fun q => put_ne _ (by decide) (h'.k2 (by simpa using q)), k3 := fun q => put_ne _ (by decide) (h'.k3 (by simpa using q)), k4 := fun _ => put_at _ (by have := h'.off.size; omega), k5 := fun q => put_ne _ (by decide) (h'.k5 (by simpa using q)), k6 := fun q => put_ne _ (by decide) (h'.k6 (by simpa using q)), k7 := fun q => put_ne _ (by decide) (h'.k7 (by simpa using q)), k8 := fun q => put_ne _ (by decide) (h'.k8 (by simpa using q)), k9 := fun q => put_ne _ (by decide) (h'.k9 (by simpa using q)), k10 := fun q => put_ne _ (by decide) (h'.k10 (by simpa using q)), k11 := fun q => put_ne _ (by decide) (h'.k11 (by simpa using q)), k12 := fun q => put_ne _ (by decide) (h'.k12 (by simpa using q)), k13 := fun q => put_ne _ (by decide) (h'.k13 (by simpa using q)), k14 := fun q => put_ne _ (by decide) (h'.k14 (by simpa using q)), k15 := fun q => put_ne _ (by decide) (h'.k15 (by simpa using q)), k16 := fun q => put_ne _ (by decide) (h'.k16 (by simpa using q)), k17 := fun q => put_ne _ (by decide) (h'.k17 (by simpa using q)), be := h'.be, d6 := fun q => by simpa using h'.d6 (by simpa using q), d14 := fun q => by simpa using h'.d14 (by simpa using q), f := fun q => h'.f (by simpa using q), g' := fun q => h'.g' (by simpa using q) }⟩
    | 5, ho, hLi, hK' =>
      cases ho
      have ea := h'.k4 (hdeps ⟨4, .data⟩ (by simp) (by rfl))
      go_simp
      exact hK' _ _ ⟨h, g, { off := h'.off.put (by decide) _, k0 := fun q => put_ne _ (by decide) (h'.k0 (by simpa using q)), k1 := fun q => put_ne _ (by decide) (h'.k1 (by simpa using q)), k2 := fun q => put_ne _ (by decide) (h'.k2 (by simpa using q)), k3 := fun q => put_ne _ (by decide) (h'.k3 (by simpa using q)), k4 := fun q => put_ne _ (by decide) (h'.k4 (by simpa using q)), k5 := fun _ => put_at _ (by have := h'.off.size; omega), k6 := fun q => put_ne _ (by decide) (h'.k6 (by simpa using q)), k7 := fun q => put_ne _ (by decide) (h'.k7 (by simpa using q)), k8 := fun q => put_ne _ (by decide) (h'.k8 (by simpa using q)), k9 := fun q => put_ne _ (by decide) (h'.k9 (by simpa using q)), k10 := fun q => put_ne _ (by decide) (h'.k10 (by simpa using q)), k11 := fun q => put_ne _ (by decide) (h'.k11 (by simpa using q)), k12 := fun q => put_ne _ (by decide) (h'.k12 (by simpa using q)), k13 := fun q => put_ne _ (by decide) (h'.k13 (by simpa using q)), k14 := fun q => put_ne _ (by decide) (h'.k14 (by simpa using q)), k15 := fun q => put_ne _ (by decide) (h'.k15 (by simpa using q)), k16 := fun q => put_ne _ (by decide) (h'.k16 (by simpa using q)), k17 := fun q => put_ne _ (by decide) (h'.k17 (by simpa using q)), be := h'.be, d6 := fun q => by simpa using h'.d6 (by simpa using q), d14 := fun q => by simpa using h'.d14 (by simpa using q), f := fun q => h'.f (by simpa using q), g' := fun q => h'.g' (by simpa using q) }⟩
    | 6, ho, hLi, hK' =>
      cases ho
      have h3 := (hdeps ⟨3, .data⟩ (by simp) (by rfl))
      have ea := h'.k3 h3
      have eb := h'.k5 (hdeps ⟨5, .data⟩ (by simp) (by rfl))
      go_simp
      exact hK' _ _ ⟨h, g, { off := h'.off.put (by decide) _, k0 := fun q => put_ne _ (by decide) (h'.k0 (by simpa using q)), k1 := fun q => put_ne _ (by decide) (h'.k1 (by simpa using q)), k2 := fun q => put_ne _ (by decide) (h'.k2 (by simpa using q)), k3 := fun q => put_ne _ (by decide) (h'.k3 (by simpa using q)), k4 := fun q => put_ne _ (by decide) (h'.k4 (by simpa using q)), k5 := fun q => put_ne _ (by decide) (h'.k5 (by simpa using q)), k6 := fun _ => put_at _ (by have := h'.off.size; omega), k7 := fun q => put_ne _ (by decide) (h'.k7 (by simpa using q)), k8 := fun q => put_ne _ (by decide) (h'.k8 (by simpa using q)), k9 := fun q => put_ne _ (by decide) (h'.k9 (by simpa using q)), k10 := fun q => put_ne _ (by decide) (h'.k10 (by simpa using q)), k11 := fun q => put_ne _ (by decide) (h'.k11 (by simpa using q)), k12 := fun q => put_ne _ (by decide) (h'.k12 (by simpa using q)), k13 := fun q => put_ne _ (by decide) (h'.k13 (by simpa using q)), k14 := fun q => put_ne _ (by decide) (h'.k14 (by simpa using q)), k15 := fun q => put_ne _ (by decide) (h'.k15 (by simpa using q)), k16 := fun q => put_ne _ (by decide) (h'.k16 (by simpa using q)), k17 := fun q => put_ne _ (by decide) (h'.k17 (by simpa using q)), be := h'.be, d6 := fun _ => by simpa using h3, d14 := fun q => by simpa using h'.d14 (by simpa using q), f := fun q => h'.f (by simpa using q), g' := fun q => h'.g' (by simpa using q) }⟩
    | 7, ho, hLi, hK' =>
      cases ho
      have h6 := (hdeps ⟨6, .data⟩ (by simp) (by rfl))
      have ea := h'.k6 h6
      have ec : wx.cell? ⟨h, 0, none⟩ = some (.int .i64 (r)) := (h'.f (h'.d6 h6)).1 0 (by decide)
      go_simp
      exact hK' _ _ ⟨h, g, { off := h'.off.put (by decide) _, k0 := fun q => put_ne _ (by decide) (h'.k0 (by simpa using q)), k1 := fun q => put_ne _ (by decide) (h'.k1 (by simpa using q)), k2 := fun q => put_ne _ (by decide) (h'.k2 (by simpa using q)), k3 := fun q => put_ne _ (by decide) (h'.k3 (by simpa using q)), k4 := fun q => put_ne _ (by decide) (h'.k4 (by simpa using q)), k5 := fun q => put_ne _ (by decide) (h'.k5 (by simpa using q)), k6 := fun q => put_ne _ (by decide) (h'.k6 (by simpa using q)), k7 := fun _ => put_at _ (by have := h'.off.size; omega), k8 := fun q => put_ne _ (by decide) (h'.k8 (by simpa using q)), k9 := fun q => put_ne _ (by decide) (h'.k9 (by simpa using q)), k10 := fun q => put_ne _ (by decide) (h'.k10 (by simpa using q)), k11 := fun q => put_ne _ (by decide) (h'.k11 (by simpa using q)), k12 := fun q => put_ne _ (by decide) (h'.k12 (by simpa using q)), k13 := fun q => put_ne _ (by decide) (h'.k13 (by simpa using q)), k14 := fun q => put_ne _ (by decide) (h'.k14 (by simpa using q)), k15 := fun q => put_ne _ (by decide) (h'.k15 (by simpa using q)), k16 := fun q => put_ne _ (by decide) (h'.k16 (by simpa using q)), k17 := fun q => put_ne _ (by decide) (h'.k17 (by simpa using q)), be := h'.be, d6 := fun q => by simpa using h'.d6 (by simpa using q), d14 := fun q => by simpa using h'.d14 (by simpa using q), f := fun q => h'.f (by simpa using q), g' := fun q => h'.g' (by simpa using q) }⟩
    | 8, ho, hLi, hK' =>
      cases ho
      have ea := (h'.off.off 0 (by decide)).trans hA0
      go_simp
      exact hK' _ _ ⟨h, g, { off := h'.off.put (by decide) _, k0 := fun q => put_ne _ (by decide) (h'.k0 (by simpa using q)), k1 := fun q => put_ne _ (by decide) (h'.k1 (by simpa using q)), k2 := fun q => put_ne _ (by decide) (h'.k2 (by simpa using q)), k3 := fun q => put_ne _ (by decide) (h'.k3 (by simpa using q)), k4 := fun q => put_ne _ (by decide) (h'.k4 (by simpa using q)), k5 := fun q => put_ne _ (by decide) (h'.k5 (by simpa using q)), k6 := fun q => put_ne _ (by decide) (h'.k6 (by simpa using q)), k7 := fun q => put_ne _ (by decide) (h'.k7 (by simpa using q)), k8 := fun _ => put_at _ (by have := h'.off.size; omega), k9 := fun q => put_ne _ (by decide) (h'.k9 (by simpa using q)), k10 := fun q => put_ne _ (by decide) (h'.k10 (by simpa using q)), k11 := fun q => put_ne _ (by decide) (h'.k11 (by simpa using q)), k12 := fun q => put_ne _ (by decide) (h'.k12 (by simpa using q)), k13 := fun q => put_ne _ (by decide) (h'.k13 (by simpa using q)), k14 := fun q => put_ne _ (by decide) (h'.k14 (by simpa using q)), k15 := fun q => put_ne _ (by decide) (h'.k15 (by simpa using q)), k16 := fun q => put_ne _ (by decide) (h'.k16 (by simpa using q)), k17 := fun q => put_ne _ (by decide) (h'.k17 (by simpa using q)), be := h'.be, d6 := fun q => by simpa using h'.d6 (by simpa using q), d14 := fun q => by simpa using h'.d14 (by simpa using q), f := fun q => h'.f (by simpa using q), g' := fun q => h'.g' (by simpa using q) }⟩
    | 9, ho, hLi, hK' =>
      cases ho
      have ea := (h'.off.off 0 (by decide)).trans hA0
      go_simp
      exact hK' _ _ ⟨h, g, { off := h'.off.put (by decide) _, k0 := fun q => put_ne _ (by decide) (h'.k0 (by simpa using q)), k1 := fun q => put_ne _ (by decide) (h'.k1 (by simpa using q)), k2 := fun q => put_ne _ (by decide) (h'.k2 (by simpa using q)), k3 := fun q => put_ne _ (by decide) (h'.k3 (by simpa using q)), k4 := fun q => put_ne _ (by decide) (h'.k4 (by simpa using q)), k5 := fun q => put_ne _ (by decide) (h'.k5 (by simpa using q)), k6 := fun q => put_ne _ (by decide) (h'.k6 (by simpa using q)), k7 := fun q => put_ne _ (by decide) (h'.k7 (by simpa using q)), k8 := fun q => put_ne _ (by decide) (h'.k8 (by simpa using q)), k9 := fun _ => put_at _ (by have := h'.off.size; omega), k10 := fun q => put_ne _ (by decide) (h'.k10 (by simpa using q)), k11 := fun q => put_ne _ (by decide) (h'.k11 (by simpa using q)), k12 := fun q => put_ne _ (by decide) (h'.k12 (by simpa using q)), k13 := fun q => put_ne _ (by decide) (h'.k13 (by simpa using q)), k14 := fun q => put_ne _ (by decide) (h'.k14 (by simpa using q)), k15 := fun q => put_ne _ (by decide) (h'.k15 (by simpa using q)), k16 := fun q => put_ne _ (by decide) (h'.k16 (by simpa using q)), k17 := fun q => put_ne _ (by decide) (h'.k17 (by simpa using q)), be := h'.be, d6 := fun q => by simpa using h'.d6 (by simpa using q), d14 := fun q => by simpa using h'.d14 (by simpa using q), f := fun q => h'.f (by simpa using q), g' := fun q => h'.g' (by simpa using q) }⟩
    | 10, ho, hLi, hK' =>
      cases ho
      have ea := h'.k9 (hdeps ⟨9, .data⟩ (by simp) (by rfl))
      have wn : IntKind.i64.wrap (-r) = -r := wr_in (by omega) (by omega)
      go_simp
      try rewrite [wn]
      exact hK' _ _ ⟨h, g, { off := h'.off.put (by decide) _, k0 := fun q => put_ne _ (by decide) (h'.k0 (by simpa using q)), k1 := fun q => put_ne _ (by decide) (h'.k1 (by simpa using q)), k2 := fun q => put_ne _ (by decide) (h'.k2 (by simpa using q)), k3 := fun q => put_ne _ (by decide) (h'.k3 (by simpa using q)), k4 := fun q => put_ne _ (by decide) (h'.k4 (by simpa using q)), k5 := fun q => put_ne _ (by decide) (h'.k5 (by simpa using q)), k6 := fun q => put_ne _ (by decide) (h'.k6 (by simpa using q)), k7 := fun q => put_ne _ (by decide) (h'.k7 (by simpa using q)), k8 := fun q => put_ne _ (by decide) (h'.k8 (by simpa using q)), k9 := fun q => put_ne _ (by decide) (h'.k9 (by simpa using q)), k10 := fun _ => put_at _ (by have := h'.off.size; omega), k11 := fun q => put_ne _ (by decide) (h'.k11 (by simpa using q)), k12 := fun q => put_ne _ (by decide) (h'.k12 (by simpa using q)), k13 := fun q => put_ne _ (by decide) (h'.k13 (by simpa using q)), k14 := fun q => put_ne _ (by decide) (h'.k14 (by simpa using q)), k15 := fun q => put_ne _ (by decide) (h'.k15 (by simpa using q)), k16 := fun q => put_ne _ (by decide) (h'.k16 (by simpa using q)), k17 := fun q => put_ne _ (by decide) (h'.k17 (by simpa using q)), be := h'.be, d6 := fun q => by simpa using h'.d6 (by simpa using q), d14 := fun q => by simpa using h'.d14 (by simpa using q), f := fun q => h'.f (by simpa using q), g' := fun q => h'.g' (by simpa using q) }⟩
    | 11, ho, hLi, hK' =>
      cases ho
      have ea := h'.k8 (hdeps ⟨8, .data⟩ (by simp) (by rfl))
      have eb := h'.k10 (hdeps ⟨10, .data⟩ (by simp) (by rfl))
      go_simp
      exact hK' _ _ ⟨h, wx.heap.size, { off := h'.off.put (by decide) _, k0 := fun q => put_ne _ (by decide) (h'.k0 (by simpa using q)), k1 := fun q => put_ne _ (by decide) (h'.k1 (by simpa using q)), k2 := fun q => put_ne _ (by decide) (h'.k2 (by simpa using q)), k3 := fun q => put_ne _ (by decide) (h'.k3 (by simpa using q)), k4 := fun q => put_ne _ (by decide) (h'.k4 (by simpa using q)), k5 := fun q => put_ne _ (by decide) (h'.k5 (by simpa using q)), k6 := fun q => put_ne _ (by decide) (h'.k6 (by simpa using q)), k7 := fun q => put_ne _ (by decide) (h'.k7 (by simpa using q)), k8 := fun q => put_ne _ (by decide) (h'.k8 (by simpa using q)), k9 := fun q => put_ne _ (by decide) (h'.k9 (by simpa using q)), k10 := fun q => put_ne _ (by decide) (h'.k10 (by simpa using q)), k11 := fun _ => put_at _ (by have := h'.off.size; omega), k12 := fun q => put_ne _ (by decide) (h'.k12 (by simpa using q)), k13 := fun q => put_ne _ (by decide) (h'.k13 (by simpa using q)), k14 := fun q => absurd (h'.d14 (by simpa using q)) (by simp [hLi]), k15 := fun q => put_ne _ (by decide) (h'.k15 (by simpa using q)), k16 := fun q => put_ne _ (by decide) (h'.k16 (by simpa using q)), k17 := fun q => put_ne _ (by decide) (h'.k17 (by simpa using q)), be := h'.be.alloc h'.be.size _, d6 := fun q => by simpa using h'.d6 (by simpa using q), d14 := fun _ => by simp, f := fun q => (h'.f (by simpa using q)).next ((Below.refl _ _).alloc (Nat.le_refl _) _), g' := fun _ => Four.fresh _ _ _ _ _ _ }⟩
    | 12, ho, hLi, hK' =>
      cases ho
      have ea := (h'.off.off 1 (by decide)).trans hA1
      go_simp
      exact hK' _ _ ⟨h, g, { off := h'.off.put (by decide) _, k0 := fun q => put_ne _ (by decide) (h'.k0 (by simpa using q)), k1 := fun q => put_ne _ (by decide) (h'.k1 (by simpa using q)), k2 := fun q => put_ne _ (by decide) (h'.k2 (by simpa using q)), k3 := fun q => put_ne _ (by decide) (h'.k3 (by simpa using q)), k4 := fun q => put_ne _ (by decide) (h'.k4 (by simpa using q)), k5 := fun q => put_ne _ (by decide) (h'.k5 (by simpa using q)), k6 := fun q => put_ne _ (by decide) (h'.k6 (by simpa using q)), k7 := fun q => put_ne _ (by decide) (h'.k7 (by simpa using q)), k8 := fun q => put_ne _ (by decide) (h'.k8 (by simpa using q)), k9 := fun q => put_ne _ (by decide) (h'.k9 (by simpa using q)), k10 := fun q => put_ne _ (by decide) (h'.k10 (by simpa using q)), k11 := fun q => put_ne _ (by decide) (h'.k11 (by simpa using q)), k12 := fun _ => put_at _ (by have := h'.off.size; omega), k13 := fun q => put_ne _ (by decide) (h'.k13 (by simpa using q)), k14 := fun q => put_ne _ (by decide) (h'.k14 (by simpa using q)), k15 := fun q => put_ne _ (by decide) (h'.k15 (by simpa using q)), k16 := fun q => put_ne _ (by decide) (h'.k16 (by simpa using q)), k17 := fun q => put_ne _ (by decide) (h'.k17 (by simpa using q)), be := h'.be, d6 := fun q => by simpa using h'.d6 (by simpa using q), d14 := fun q => by simpa using h'.d14 (by simpa using q), f := fun q => h'.f (by simpa using q), g' := fun q => h'.g' (by simpa using q) }⟩
    | 13, ho, hLi, hK' =>
      cases ho
      have ea := h'.k12 (hdeps ⟨12, .data⟩ (by simp) (by rfl))
      go_simp
      exact hK' _ _ ⟨h, g, { off := h'.off.put (by decide) _, k0 := fun q => put_ne _ (by decide) (h'.k0 (by simpa using q)), k1 := fun q => put_ne _ (by decide) (h'.k1 (by simpa using q)), k2 := fun q => put_ne _ (by decide) (h'.k2 (by simpa using q)), k3 := fun q => put_ne _ (by decide) (h'.k3 (by simpa using q)), k4 := fun q => put_ne _ (by decide) (h'.k4 (by simpa using q)), k5 := fun q => put_ne _ (by decide) (h'.k5 (by simpa using q)), k6 := fun q => put_ne _ (by decide) (h'.k6 (by simpa using q)), k7 := fun q => put_ne _ (by decide) (h'.k7 (by simpa using q)), k8 := fun q => put_ne _ (by decide) (h'.k8 (by simpa using q)), k9 := fun q => put_ne _ (by decide) (h'.k9 (by simpa using q)), k10 := fun q => put_ne _ (by decide) (h'.k10 (by simpa using q)), k11 := fun q => put_ne _ (by decide) (h'.k11 (by simpa using q)), k12 := fun q => put_ne _ (by decide) (h'.k12 (by simpa using q)), k13 := fun _ => put_at _ (by have := h'.off.size; omega), k14 := fun q => put_ne _ (by decide) (h'.k14 (by simpa using q)), k15 := fun q => put_ne _ (by decide) (h'.k15 (by simpa using q)), k16 := fun q => put_ne _ (by decide) (h'.k16 (by simpa using q)), k17 := fun q => put_ne _ (by decide) (h'.k17 (by simpa using q)), be := h'.be, d6 := fun q => by simpa using h'.d6 (by simpa using q), d14 := fun q => by simpa using h'.d14 (by simpa using q), f := fun q => h'.f (by simpa using q), g' := fun q => h'.g' (by simpa using q) }⟩
    | 14, ho, hLi, hK' =>
      cases ho
      have h11 := (hdeps ⟨11, .data⟩ (by simp) (by rfl))
      have ea := h'.k11 h11
      have eb := h'.k13 (hdeps ⟨13, .data⟩ (by simp) (by rfl))
      go_simp
      exact hK' _ _ ⟨h, g, { off := h'.off.put (by decide) _, k0 := fun q => put_ne _ (by decide) (h'.k0 (by simpa using q)), k1 := fun q => put_ne _ (by decide) (h'.k1 (by simpa using q)), k2 := fun q => put_ne _ (by decide) (h'.k2 (by simpa using q)), k3 := fun q => put_ne _ (by decide) (h'.k3 (by simpa using q)), k4 := fun q => put_ne _ (by decide) (h'.k4 (by simpa using q)), k5 := fun q => put_ne _ (by decide) (h'.k5 (by simpa using q)), k6 := fun q => put_ne _ (by decide) (h'.k6 (by simpa using q)), k7 := fun q => put_ne _ (by decide) (h'.k7 (by simpa using q)), k8 := fun q => put_ne _ (by decide) (h'.k8 (by simpa using q)), k9 := fun q => put_ne _ (by decide) (h'.k9 (by simpa using q)), k10 := fun q => put_ne _ (by decide) (h'.k10 (by simpa using q)), k11 := fun q => put_ne _ (by decide) (h'.k11 (by simpa using q)), k12 := fun q => put_ne _ (by decide) (h'.k12 (by simpa using q)), k13 := fun q => put_ne _ (by decide) (h'.k13 (by simpa using q)), k14 := fun _ => put_at _ (by have := h'.off.size; omega), k15 := fun q => put_ne _ (by decide) (h'.k15 (by simpa using q)), k16 := fun q => put_ne _ (by decide) (h'.k16 (by simpa using q)), k17 := fun q => put_ne _ (by decide) (h'.k17 (by simpa using q)), be := h'.be, d6 := fun q => by simpa using h'.d6 (by simpa using q), d14 := fun _ => by simpa using h11, f := fun q => h'.f (by simpa using q), g' := fun q => h'.g' (by simpa using q) }⟩
    | 15, ho, hLi, hK' =>
      cases ho
      have h14 := (hdeps ⟨14, .data⟩ (by simp) (by rfl))
      have ea := h'.k14 h14
      have ec : wx.cell? ⟨g, 0, none⟩ = some (.int .i64 (0)) := (h'.g' (h'.d14 h14)).1 0 (by decide)
      go_simp
      exact hK' _ _ ⟨h, g, { off := h'.off.put (by decide) _, k0 := fun q => put_ne _ (by decide) (h'.k0 (by simpa using q)), k1 := fun q => put_ne _ (by decide) (h'.k1 (by simpa using q)), k2 := fun q => put_ne _ (by decide) (h'.k2 (by simpa using q)), k3 := fun q => put_ne _ (by decide) (h'.k3 (by simpa using q)), k4 := fun q => put_ne _ (by decide) (h'.k4 (by simpa using q)), k5 := fun q => put_ne _ (by decide) (h'.k5 (by simpa using q)), k6 := fun q => put_ne _ (by decide) (h'.k6 (by simpa using q)), k7 := fun q => put_ne _ (by decide) (h'.k7 (by simpa using q)), k8 := fun q => put_ne _ (by decide) (h'.k8 (by simpa using q)), k9 := fun q => put_ne _ (by decide) (h'.k9 (by simpa using q)), k10 := fun q => put_ne _ (by decide) (h'.k10 (by simpa using q)), k11 := fun q => put_ne _ (by decide) (h'.k11 (by simpa using q)), k12 := fun q => put_ne _ (by decide) (h'.k12 (by simpa using q)), k13 := fun q => put_ne _ (by decide) (h'.k13 (by simpa using q)), k14 := fun q => put_ne _ (by decide) (h'.k14 (by simpa using q)), k15 := fun _ => put_at _ (by have := h'.off.size; omega), k16 := fun q => put_ne _ (by decide) (h'.k16 (by simpa using q)), k17 := fun q => put_ne _ (by decide) (h'.k17 (by simpa using q)), be := h'.be, d6 := fun q => by simpa using h'.d6 (by simpa using q), d14 := fun q => by simpa using h'.d14 (by simpa using q), f := fun q => h'.f (by simpa using q), g' := fun q => h'.g' (by simpa using q) }⟩
    | 16, ho, hLi, hK' =>
      cases ho
      have ea := h'.k7 (hdeps ⟨7, .data⟩ (by simp) (by rfl))
      go_simp
      exact hK' _ _ ⟨h, g, { off := h'.off.put (by decide) _, k0 := fun q => put_ne _ (by decide) (h'.k0 (by simpa using q)), k1 := fun q => put_ne _ (by decide) (h'.k1 (by simpa using q)), k2 := fun q => put_ne _ (by decide) (h'.k2 (by simpa using q)), k3 := fun q => put_ne _ (by decide) (h'.k3 (by simpa using q)), k4 := fun q => put_ne _ (by decide) (h'.k4 (by simpa using q)), k5 := fun q => put_ne _ (by decide) (h'.k5 (by simpa using q)), k6 := fun q => put_ne _ (by decide) (h'.k6 (by simpa using q)), k7 := fun q => put_ne _ (by decide) (h'.k7 (by simpa using q)), k8 := fun q => put_ne _ (by decide) (h'.k8 (by simpa using q)), k9 := fun q => put_ne _ (by decide) (h'.k9 (by simpa using q)), k10 := fun q => put_ne _ (by decide) (h'.k10 (by simpa using q)), k11 := fun q => put_ne _ (by decide) (h'.k11 (by simpa using q)), k12 := fun q => put_ne _ (by decide) (h'.k12 (by simpa using q)), k13 := fun q => put_ne _ (by decide) (h'.k13 (by simpa using q)), k14 := fun q => put_ne _ (by decide) (h'.k14 (by simpa using q)), k15 := fun q => put_ne _ (by decide) (h'.k15 (by simpa using q)), k16 := fun _ => put_at _ (by have := h'.off.size; omega), k17 := fun q => put_ne _ (by decide) (h'.k17 (by simpa using q)), be := h'.be, d6 := fun q => by simpa using h'.d6 (by simpa using q), d14 := fun q => by simpa using h'.d14 (by simpa using q), f := fun q => h'.f (by simpa using q), g' := fun q => h'.g' (by simpa using q) }⟩
    | 17, ho, hLi, hK' =>
      cases ho
      have ea := h'.k15 (hdeps ⟨15, .data⟩ (by simp) (by rfl))
      go_simp
      exact hK' _ _ ⟨h, g, { off := h'.off.put (by decide) _, k0 := fun q => put_ne _ (by decide) (h'.k0 (by simpa using q)), k1 := fun q => put_ne _ (by decide) (h'.k1 (by simpa using q)), k2 := fun q => put_ne _ (by decide) (h'.k2 (by simpa using q)), k3 := fun q => put_ne _ (by decide) (h'.k3 (by simpa using q)), k4 := fun q => put_ne _ (by decide) (h'.k4 (by simpa using q)), k5 := fun q => put_ne _ (by decide) (h'.k5 (by simpa using q)), k6 := fun q => put_ne _ (by decide) (h'.k6 (by simpa using q)), k7 := fun q => put_ne _ (by decide) (h'.k7 (by simpa using q)), k8 := fun q => put_ne _ (by decide) (h'.k8 (by simpa using q)), k9 := fun q => put_ne _ (by decide) (h'.k9 (by simpa using q)), k10 := fun q => put_ne _ (by decide) (h'.k10 (by simpa using q)), k11 := fun q => put_ne _ (by decide) (h'.k11 (by simpa using q)), k12 := fun q => put_ne _ (by decide) (h'.k12 (by simpa using q)), k13 := fun q => put_ne _ (by decide) (h'.k13 (by simpa using q)), k14 := fun q => put_ne _ (by decide) (h'.k14 (by simpa using q)), k15 := fun q => put_ne _ (by decide) (h'.k15 (by simpa using q)), k16 := fun q => put_ne _ (by decide) (h'.k16 (by simpa using q)), k17 := fun _ => put_at _ (by have := h'.off.size; omega), be := h'.be, d6 := fun q => by simpa using h'.d6 (by simpa using q), d14 := fun q => by simpa using h'.d14 (by simpa using q), f := fun q => h'.f (by simpa using q), g' := fun q => h'.g' (by simpa using q) }⟩
    | i + 18, ho, hLi, hK' => cases ho
  · intro L a wx hI hall
    obtain ⟨h, g, h'⟩ := hI
    have hfr := h'.off.rebuild (fun d => if d = 6 then .int .i64 (r) else if d = 7 then .int .i64 (r) else if d = 8 then .int .i64 (-r) else if d = 9 then .slice (some ⟨h, 0, none⟩) 4 4 else if d = 10 then .int .i64 (4) else if d = 11 then .int .i64 (0) else if d = 12 then .pointer (some ⟨h, 0, none⟩) else if d = 13 then .int .i64 (r) else if d = 14 then .int .i64 (r) else if d = 15 then .int .i64 (r) else if d = 16 then .int .i64 (-r) else if d = 17 then .slice (some ⟨g, 0, none⟩) 4 4 else if d = 18 then .int .i64 (4) else if d = 19 then .int .i64 (0) else if d = 20 then .pointer (some ⟨g, 0, none⟩) else if d = 21 then .int .i64 (0) else if d = 4 then .int .i64 (r) else if d = 5 then .int .i64 (0) else undef) (by
      intro d hd
      simp only [List.mem_cons, List.not_mem_nil, or_false] at hd
      rcases hd with rfl | rfl | rfl | rfl | rfl | rfl | rfl | rfl | rfl | rfl | rfl | rfl | rfl | rfl | rfl | rfl | rfl | rfl
      · exact h'.k0 (hall 0 (by decide))
      · exact h'.k1 (hall 1 (by decide))
      · exact h'.k2 (hall 2 (by decide))
      · exact h'.k3 (hall 3 (by decide))
      · exact h'.k4 (hall 4 (by decide))
      · exact h'.k5 (hall 5 (by decide))
      · exact h'.k6 (hall 6 (by decide))
      · exact h'.k7 (hall 7 (by decide))
      · exact h'.k8 (hall 8 (by decide))
      · exact h'.k9 (hall 9 (by decide))
      · exact h'.k10 (hall 10 (by decide))
      · exact h'.k11 (hall 11 (by decide))
      · exact h'.k12 (hall 12 (by decide))
      · exact h'.k13 (hall 13 (by decide))
      · exact h'.k14 (hall 14 (by decide))
      · exact h'.k15 (hall 15 (by decide))
      · exact h'.k16 (hall 16 (by decide))
      · exact h'.k17 (hall 17 (by decide))
      )
    simp only [List.foldl_cons, List.foldl_nil] at hfr
    rw [← HA.out] at hfr
    have hB := h'.be
    rw [hfr]
    clear hfr h' hall HA hsz hA0 hA1
    simp [Act.put]
    go_wp2_with fail
    go_ret2
    exact ⟨rfl, hB⟩
structure TuI5 (r : Int) (w0 : World) (A : Act) (h g : Nat) (L : Nat → Bool) (a : Act) (w : World) : Prop where
  off : OffOf [6, 7, 8, 9, 10, 11, 12, 13, 14, 15, 16, 17, 18, 19, 20, 21, 4, 5] A a
  k0 : L 0 = true → a.tmps[6]? = some (.int .i64 (r))
  k1 : L 1 = true → a.tmps[7]? = some (.int .i64 (r))
  k2 : L 2 = true → a.tmps[8]? = some (.int .i64 (-r))
  k3 : L 3 = true → a.tmps[9]? = some (.slice (some ⟨h, 0, none⟩) 4 4)
  k4 : L 4 = true → a.tmps[10]? = some (.int .i64 (5))
  k5 : L 5 = true → a.tmps[11]? = some (.int .i64 (1))
  k6 : L 6 = true → a.tmps[12]? = some (.pointer (some ⟨h, 1, none⟩))
  k7 : L 7 = true → a.tmps[13]? = some (.int .i64 (0))
  k8 : L 8 = true → a.tmps[14]? = some (.int .i64 (r))
  k9 : L 9 = true → a.tmps[15]? = some (.int .i64 (r))
  k10 : L 10 = true → a.tmps[16]? = some (.int .i64 (-r))
  k11 : L 11 = true → a.tmps[17]? = some (.slice (some ⟨g, 0, none⟩) 4 4)
  k12 : L 12 = true → a.tmps[18]? = some (.int .i64 (5))
  k13 : L 13 = true → a.tmps[19]? = some (.int .i64 (1))
  k14 : L 14 = true → a.tmps[20]? = some (.pointer (some ⟨g, 1, none⟩))
  k15 : L 15 = true → a.tmps[21]? = some (.int .i64 (r))
  k16 : L 16 = true → a.tmps[4]? = some (.int .i64 (0))
  k17 : L 17 = true → a.tmps[5]? = some (.int .i64 (r))
  be : Below w0.heap.size w0 w
  d6 : L 6 = true → L 3 = true
  d14 : L 14 = true → L 11 = true
  f : L 3 = true → Four h r 0 (-r) 0 w
  g' : L 11 = true → Four g 0 r 0 (-r) w
set_option maxHeartbeats 4000000 in
theorem turned_5 (r : Int) (w : World) (h1 : 0 ≤ r) (h2 : r ≤ 1000000) :
    Calls Try.prog 53 #[.int .i64 r, .int .i64 5] w fun e w' => e = .returned (.tuple #[.int .i64 (0), .int .i64 (r)]) ∧ Below w.heap.size w w' := by
  go_enter Try.func53, Try.ntmps53
  go_upto_region 1 with fail
  generalize hA : (Act.mk _ _) = A
  have hsz : A.tmps.size = 22 := by rw [← hA]; rfl
  have hA0 : A.tmps[0]? = some (.int .i64 r) := by rw [← hA]; rfl
  have hA1 : A.tmps[1]? = some (.int .i64 5) := by rw [← hA]; rfl
  have HA := Lib.hid hA
  clear hA
  refine wp_region_inv (fun L a wx => ∃ h g, TuI5 r w A h g L a wx) (by kernel_rfl) (by kernel_rfl) ?_ ?_ ?_
  · have hD := (Below.refl w.heap.size w).drew
    exact ⟨0, 0, by constructor <;> first | exact OffOf.refl _ _ | exact hD | (intro h; exact nomatch h)⟩
  · intro i o ho L a wx hI hLi hdeps K hK'
    obtain ⟨h, g, h'⟩ := hI
    match i, ho, hLi, hK' with
    | 0, ho, hLi, hK' =>
      cases ho
      have ea := (h'.off.off 0 (by decide)).trans hA0
      go_simp
      exact hK' _ _ ⟨h, g, { off := h'.off.put (by decide) _, k0 := fun _ => put_at _ (by have := h'.off.size; omega), k1 := fun q => put_ne _ (by decide) (h'.k1 (by simpa using q)), k2 := fun q => put_ne _ (by decide) (h'.k2 (by simpa using q)), k3 := fun q => put_ne _ (by decide) (h'.k3 (by simpa using q)), k4 := fun q => put_ne _ (by decide) (h'.k4 (by simpa using q)), k5 := fun q => put_ne _ (by decide) (h'.k5 (by simpa using q)), k6 := fun q => put_ne _ (by decide) (h'.k6 (by simpa using q)), k7 := fun q => put_ne _ (by decide) (h'.k7 (by simpa using q)), k8 := fun q => put_ne _ (by decide) (h'.k8 (by simpa using q)), k9 := fun q => put_ne _ (by decide) (h'.k9 (by simpa using q)), k10 := fun q => put_ne _ (by decide) (h'.k10 (by simpa using q)), k11 := fun q => put_ne _ (by decide) (h'.k11 (by simpa using q)), k12 := fun q => put_ne _ (by decide) (h'.k12 (by simpa using q)), k13 := fun q => put_ne _ (by decide) (h'.k13 (by simpa using q)), k14 := fun q => put_ne _ (by decide) (h'.k14 (by simpa using q)), k15 := fun q => put_ne _ (by decide) (h'.k15 (by simpa using q)), k16 := fun q => put_ne _ (by decide) (h'.k16 (by simpa using q)), k17 := fun q => put_ne _ (by decide) (h'.k17 (by simpa using q)), be := h'.be, d6 := fun q => by simpa using h'.d6 (by simpa using q), d14 := fun q => by simpa using h'.d14 (by simpa using q), f := fun q => h'.f (by simpa using q), g' := fun q => h'.g' (by simpa using q) }⟩
    | 1, ho, hLi, hK' =>
      cases ho
      have ea := (h'.off.off 0 (by decide)).trans hA0
      go_simp
      exact hK' _ _ ⟨h, g, { off := h'.off.put (by decide) _, k0 := fun q => put_ne _ (by decide) (h'.k0 (by simpa using q)), k1 := fun _ => put_at _ (by have := h'.off.size; omega), k2 := fun q => put_ne _ (by decide) (h'.k2 (by simpa using q)), k3 := fun q => put_ne _ (by decide) (h'.k3 (by simpa using q)), k4 := fun q => put_ne _ (by decide) (h'.k4 (by simpa using q)), k5 := fun q => put_ne _ (by decide) (h'.k5 (by simpa using q)), k6 := fun q => put_ne _ (by decide) (h'.k6 (by simpa using q)), k7 := fun q => put_ne _ (by decide) (h'.k7 (by simpa using q)), k8 := fun q => put_ne _ (by decide) (h'.k8 (by simpa using q)), k9 := fun q => put_ne _ (by decide) (h'.k9 (by simpa using q)), k10 := fun q => put_ne _ (by decide) (h'.k10 (by simpa using q)), k11 := fun q => put_ne _ (by decide) (h'.k11 (by simpa using q)), k12 := fun q => put_ne _ (by decide) (h'.k12 (by simpa using q)), k13 := fun q => put_ne _ (by decide) (h'.k13 (by simpa using q)), k14 := fun q => put_ne _ (by decide) (h'.k14 (by simpa using q)), k15 := fun q => put_ne _ (by decide) (h'.k15 (by simpa using q)), k16 := fun q => put_ne _ (by decide) (h'.k16 (by simpa using q)), k17 := fun q => put_ne _ (by decide) (h'.k17 (by simpa using q)), be := h'.be, d6 := fun q => by simpa using h'.d6 (by simpa using q), d14 := fun q => by simpa using h'.d14 (by simpa using q), f := fun q => h'.f (by simpa using q), g' := fun q => h'.g' (by simpa using q) }⟩
    | 2, ho, hLi, hK' =>
      cases ho
      have ea := h'.k1 (hdeps ⟨1, .data⟩ (by simp) (by rfl))
      have wn : IntKind.i64.wrap (-r) = -r := wr_in (by omega) (by omega)
      go_simp
      try rewrite [wn]
      exact hK' _ _ ⟨h, g, { off := h'.off.put (by decide) _, k0 := fun q => put_ne _ (by decide) (h'.k0 (by simpa using q)), k1 := fun q => put_ne _ (by decide) (h'.k1 (by simpa using q)), k2 := fun _ => put_at _ (by have := h'.off.size; omega), k3 := fun q => put_ne _ (by decide) (h'.k3 (by simpa using q)), k4 := fun q => put_ne _ (by decide) (h'.k4 (by simpa using q)), k5 := fun q => put_ne _ (by decide) (h'.k5 (by simpa using q)), k6 := fun q => put_ne _ (by decide) (h'.k6 (by simpa using q)), k7 := fun q => put_ne _ (by decide) (h'.k7 (by simpa using q)), k8 := fun q => put_ne _ (by decide) (h'.k8 (by simpa using q)), k9 := fun q => put_ne _ (by decide) (h'.k9 (by simpa using q)), k10 := fun q => put_ne _ (by decide) (h'.k10 (by simpa using q)), k11 := fun q => put_ne _ (by decide) (h'.k11 (by simpa using q)), k12 := fun q => put_ne _ (by decide) (h'.k12 (by simpa using q)), k13 := fun q => put_ne _ (by decide) (h'.k13 (by simpa using q)), k14 := fun q => put_ne _ (by decide) (h'.k14 (by simpa using q)), k15 := fun q => put_ne _ (by decide) (h'.k15 (by simpa using q)), k16 := fun q => put_ne _ (by decide) (h'.k16 (by simpa using q)), k17 := fun q => put_ne _ (by decide) (h'.k17 (by simpa using q)), be := h'.be, d6 := fun q => by simpa using h'.d6 (by simpa using q), d14 := fun q => by simpa using h'.d14 (by simpa using q), f := fun q => h'.f (by simpa using q), g' := fun q => h'.g' (by simpa using q) }⟩
    | 3, ho, hLi, hK' =>
      cases ho
      have ea := h'.k0 (hdeps ⟨0, .data⟩ (by simp) (by rfl))
      have eb := h'.k2 (hdeps ⟨2, .data⟩ (by simp) (by rfl))
      go_simp
      exact hK' _ _ ⟨wx.heap.size, g, { off := h'.off.put (by decide) _, k0 := fun q => put_ne _ (by decide) (h'.k0 (by simpa using q)), k1 := fun q => put_ne _ (by decide) (h'.k1 (by simpa using q)), k2 := fun q => put_ne _ (by decide) (h'.k2 (by simpa using q)), k3 := fun _ => put_at _ (by have := h'.off.size; omega), k4 := fun q => put_ne _ (by decide) (h'.k4 (by simpa using q)), k5 := fun q => put_ne _ (by decide) (h'.k5 (by simpa using q)), k6 := fun q => absurd (h'.d6 (by simpa using q)) (by simp [hLi]), k7 := fun q => put_ne _ (by decide) (h'.k7 (by simpa using q)), k8 := fun q => put_ne _ (by decide) (h'.k8 (by simpa using q)), k9 := fun q => put_ne _ (by decide) (h'.k9 (by simpa using q)), k10 := fun q => put_ne _ (by decide) (h'.k10 (by simpa using q)), k11 := fun q => put_ne _ (by decide) (h'.k11 (by simpa using q)), k12 := fun q => put_ne _ (by decide) (h'.k12 (by simpa using q)), k13 := fun q => put_ne _ (by decide) (h'.k13 (by simpa using q)), k14 := fun q => put_ne _ (by decide) (h'.k14 (by simpa using q)), k15 := fun q => put_ne _ (by decide) (h'.k15 (by simpa using q)), k16 := fun q => put_ne _ (by decide) (h'.k16 (by simpa using q)), k17 := fun q => put_ne _ (by decide) (h'.k17 (by simpa using q)), be := h'.be.alloc h'.be.size _, d6 := fun _ => by simp, d14 := fun q => by simpa using h'.d14 (by simpa using q), f := fun _ => Four.fresh _ _ _ _ _ _, g' := fun q => (h'.g' (by simpa using q)).next ((Below.refl _ _).alloc (Nat.le_refl _) _) }⟩
    | 4, ho, hLi, hK' =>
      cases ho
      have ea := (h'.off.off 1 (by decide)).trans hA1
      go_simp
      exact hK' _ _ ⟨h, g, { off := h'.off.put (by decide) _, k0 := fun q => put_ne _ (by decide) (h'.k0 (by simpa using q)), k1 := fun q => put_ne _ (by decide) (h'.k1 (by simpa using q)), k2 := fun q => put_ne _ (by decide) (h'.k2 (by simpa using q)), k3 := fun q => put_ne _ (by decide) (h'.k3 (by simpa using q)), k4 := fun _ => put_at _ (by have := h'.off.size; omega), k5 := fun q => put_ne _ (by decide) (h'.k5 (by simpa using q)), k6 := fun q => put_ne _ (by decide) (h'.k6 (by simpa using q)), k7 := fun q => put_ne _ (by decide) (h'.k7 (by simpa using q)), k8 := fun q => put_ne _ (by decide) (h'.k8 (by simpa using q)), k9 := fun q => put_ne _ (by decide) (h'.k9 (by simpa using q)), k10 := fun q => put_ne _ (by decide) (h'.k10 (by simpa using q)), k11 := fun q => put_ne _ (by decide) (h'.k11 (by simpa using q)), k12 := fun q => put_ne _ (by decide) (h'.k12 (by simpa using q)), k13 := fun q => put_ne _ (by decide) (h'.k13 (by simpa using q)), k14 := fun q => put_ne _ (by decide) (h'.k14 (by simpa using q)), k15 := fun q => put_ne _ (by decide) (h'.k15 (by simpa using q)), k16 := fun q => put_ne _ (by decide) (h'.k16 (by simpa using q)), k17 := fun q => put_ne _ (by decide) (h'.k17 (by simpa using q)), be := h'.be, d6 := fun q => by simpa using h'.d6 (by simpa using q), d14 := fun q => by simpa using h'.d14 (by simpa using q), f := fun q => h'.f (by simpa using q), g' := fun q => h'.g' (by simpa using q) }⟩
    | 5, ho, hLi, hK' =>
      cases ho
      have ea := h'.k4 (hdeps ⟨4, .data⟩ (by simp) (by rfl))
      go_simp
      exact hK' _ _ ⟨h, g, { off := h'.off.put (by decide) _, k0 := fun q => put_ne _ (by decide) (h'.k0 (by simpa using q)), k1 := fun q => put_ne _ (by decide) (h'.k1 (by simpa using q)), k2 := fun q => put_ne _ (by decide) (h'.k2 (by simpa using q)), k3 := fun q => put_ne _ (by decide) (h'.k3 (by simpa using q)), k4 := fun q => put_ne _ (by decide) (h'.k4 (by simpa using q)), k5 := fun _ => put_at _ (by have := h'.off.size; omega), k6 := fun q => put_ne _ (by decide) (h'.k6 (by simpa using q)), k7 := fun q => put_ne _ (by decide) (h'.k7 (by simpa using q)), k8 := fun q => put_ne _ (by decide) (h'.k8 (by simpa using q)), k9 := fun q => put_ne _ (by decide) (h'.k9 (by simpa using q)), k10 := fun q => put_ne _ (by decide) (h'.k10 (by simpa using q)), k11 := fun q => put_ne _ (by decide) (h'.k11 (by simpa using q)), k12 := fun q => put_ne _ (by decide) (h'.k12 (by simpa using q)), k13 := fun q => put_ne _ (by decide) (h'.k13 (by simpa using q)), k14 := fun q => put_ne _ (by decide) (h'.k14 (by simpa using q)), k15 := fun q => put_ne _ (by decide) (h'.k15 (by simpa using q)), k16 := fun q => put_ne _ (by decide) (h'.k16 (by simpa using q)), k17 := fun q => put_ne _ (by decide) (h'.k17 (by simpa using q)), be := h'.be, d6 := fun q => by simpa using h'.d6 (by simpa using q), d14 := fun q => by simpa using h'.d14 (by simpa using q), f := fun q => h'.f (by simpa using q), g' := fun q => h'.g' (by simpa using q) }⟩
    | 6, ho, hLi, hK' =>
      cases ho
      have h3 := (hdeps ⟨3, .data⟩ (by simp) (by rfl))
      have ea := h'.k3 h3
      have eb := h'.k5 (hdeps ⟨5, .data⟩ (by simp) (by rfl))
      go_simp
      exact hK' _ _ ⟨h, g, { off := h'.off.put (by decide) _, k0 := fun q => put_ne _ (by decide) (h'.k0 (by simpa using q)), k1 := fun q => put_ne _ (by decide) (h'.k1 (by simpa using q)), k2 := fun q => put_ne _ (by decide) (h'.k2 (by simpa using q)), k3 := fun q => put_ne _ (by decide) (h'.k3 (by simpa using q)), k4 := fun q => put_ne _ (by decide) (h'.k4 (by simpa using q)), k5 := fun q => put_ne _ (by decide) (h'.k5 (by simpa using q)), k6 := fun _ => put_at _ (by have := h'.off.size; omega), k7 := fun q => put_ne _ (by decide) (h'.k7 (by simpa using q)), k8 := fun q => put_ne _ (by decide) (h'.k8 (by simpa using q)), k9 := fun q => put_ne _ (by decide) (h'.k9 (by simpa using q)), k10 := fun q => put_ne _ (by decide) (h'.k10 (by simpa using q)), k11 := fun q => put_ne _ (by decide) (h'.k11 (by simpa using q)), k12 := fun q => put_ne _ (by decide) (h'.k12 (by simpa using q)), k13 := fun q => put_ne _ (by decide) (h'.k13 (by simpa using q)), k14 := fun q => put_ne _ (by decide) (h'.k14 (by simpa using q)), k15 := fun q => put_ne _ (by decide) (h'.k15 (by simpa using q)), k16 := fun q => put_ne _ (by decide) (h'.k16 (by simpa using q)), k17 := fun q => put_ne _ (by decide) (h'.k17 (by simpa using q)), be := h'.be, d6 := fun _ => by simpa using h3, d14 := fun q => by simpa using h'.d14 (by simpa using q), f := fun q => h'.f (by simpa using q), g' := fun q => h'.g' (by simpa using q) }⟩
    | 7, ho, hLi, hK' =>
      cases ho
      have h6 := (hdeps ⟨6, .data⟩ (by simp) (by rfl))
      have ea := h'.k6 h6
      have ec : wx.cell? ⟨h, 1, none⟩ = some (.int .i64 (0)) := (h'.f (h'.d6 h6)).1 1 (by decide)
      go_simp
      exact hK' _ _ ⟨h, g, { off := h'.off.put (by decide) _, k0 := fun q => put_ne _ (by decide) (h'.k0 (by simpa using q)), k1 := fun q => put_ne _ (by decide) (h'.k1 (by simpa using q)), k2 := fun q => put_ne _ (by decide) (h'.k2 (by simpa using q)), k3 := fun q => put_ne _ (by decide) (h'.k3 (by simpa using q)), k4 := fun q => put_ne _ (by decide) (h'.k4 (by simpa using q)), k5 := fun q => put_ne _ (by decide) (h'.k5 (by simpa using q)), k6 := fun q => put_ne _ (by decide) (h'.k6 (by simpa using q)), k7 := fun _ => put_at _ (by have := h'.off.size; omega), k8 := fun q => put_ne _ (by decide) (h'.k8 (by simpa using q)), k9 := fun q => put_ne _ (by decide) (h'.k9 (by simpa using q)), k10 := fun q => put_ne _ (by decide) (h'.k10 (by simpa using q)), k11 := fun q => put_ne _ (by decide) (h'.k11 (by simpa using q)), k12 := fun q => put_ne _ (by decide) (h'.k12 (by simpa using q)), k13 := fun q => put_ne _ (by decide) (h'.k13 (by simpa using q)), k14 := fun q => put_ne _ (by decide) (h'.k14 (by simpa using q)), k15 := fun q => put_ne _ (by decide) (h'.k15 (by simpa using q)), k16 := fun q => put_ne _ (by decide) (h'.k16 (by simpa using q)), k17 := fun q => put_ne _ (by decide) (h'.k17 (by simpa using q)), be := h'.be, d6 := fun q => by simpa using h'.d6 (by simpa using q), d14 := fun q => by simpa using h'.d14 (by simpa using q), f := fun q => h'.f (by simpa using q), g' := fun q => h'.g' (by simpa using q) }⟩
    | 8, ho, hLi, hK' =>
      cases ho
      have ea := (h'.off.off 0 (by decide)).trans hA0
      go_simp
      exact hK' _ _ ⟨h, g, { off := h'.off.put (by decide) _, k0 := fun q => put_ne _ (by decide) (h'.k0 (by simpa using q)), k1 := fun q => put_ne _ (by decide) (h'.k1 (by simpa using q)), k2 := fun q => put_ne _ (by decide) (h'.k2 (by simpa using q)), k3 := fun q => put_ne _ (by decide) (h'.k3 (by simpa using q)), k4 := fun q => put_ne _ (by decide) (h'.k4 (by simpa using q)), k5 := fun q => put_ne _ (by decide) (h'.k5 (by simpa using q)), k6 := fun q => put_ne _ (by decide) (h'.k6 (by simpa using q)), k7 := fun q => put_ne _ (by decide) (h'.k7 (by simpa using q)), k8 := fun _ => put_at _ (by have := h'.off.size; omega), k9 := fun q => put_ne _ (by decide) (h'.k9 (by simpa using q)), k10 := fun q => put_ne _ (by decide) (h'.k10 (by simpa using q)), k11 := fun q => put_ne _ (by decide) (h'.k11 (by simpa using q)), k12 := fun q => put_ne _ (by decide) (h'.k12 (by simpa using q)), k13 := fun q => put_ne _ (by decide) (h'.k13 (by simpa using q)), k14 := fun q => put_ne _ (by decide) (h'.k14 (by simpa using q)), k15 := fun q => put_ne _ (by decide) (h'.k15 (by simpa using q)), k16 := fun q => put_ne _ (by decide) (h'.k16 (by simpa using q)), k17 := fun q => put_ne _ (by decide) (h'.k17 (by simpa using q)), be := h'.be, d6 := fun q => by simpa using h'.d6 (by simpa using q), d14 := fun q => by simpa using h'.d14 (by simpa using q), f := fun q => h'.f (by simpa using q), g' := fun q => h'.g' (by simpa using q) }⟩
    | 9, ho, hLi, hK' =>
      cases ho
      have ea := (h'.off.off 0 (by decide)).trans hA0
      go_simp
      exact hK' _ _ ⟨h, g, { off := h'.off.put (by decide) _, k0 := fun q => put_ne _ (by decide) (h'.k0 (by simpa using q)), k1 := fun q => put_ne _ (by decide) (h'.k1 (by simpa using q)), k2 := fun q => put_ne _ (by decide) (h'.k2 (by simpa using q)), k3 := fun q => put_ne _ (by decide) (h'.k3 (by simpa using q)), k4 := fun q => put_ne _ (by decide) (h'.k4 (by simpa using q)), k5 := fun q => put_ne _ (by decide) (h'.k5 (by simpa using q)), k6 := fun q => put_ne _ (by decide) (h'.k6 (by simpa using q)), k7 := fun q => put_ne _ (by decide) (h'.k7 (by simpa using q)), k8 := fun q => put_ne _ (by decide) (h'.k8 (by simpa using q)), k9 := fun _ => put_at _ (by have := h'.off.size; omega), k10 := fun q => put_ne _ (by decide) (h'.k10 (by simpa using q)), k11 := fun q => put_ne _ (by decide) (h'.k11 (by simpa using q)), k12 := fun q => put_ne _ (by decide) (h'.k12 (by simpa using q)), k13 := fun q => put_ne _ (by decide) (h'.k13 (by simpa using q)), k14 := fun q => put_ne _ (by decide) (h'.k14 (by simpa using q)), k15 := fun q => put_ne _ (by decide) (h'.k15 (by simpa using q)), k16 := fun q => put_ne _ (by decide) (h'.k16 (by simpa using q)), k17 := fun q => put_ne _ (by decide) (h'.k17 (by simpa using q)), be := h'.be, d6 := fun q => by simpa using h'.d6 (by simpa using q), d14 := fun q => by simpa using h'.d14 (by simpa using q), f := fun q => h'.f (by simpa using q), g' := fun q => h'.g' (by simpa using q) }⟩
    | 10, ho, hLi, hK' =>
      cases ho
      have ea := h'.k9 (hdeps ⟨9, .data⟩ (by simp) (by rfl))
      have wn : IntKind.i64.wrap (-r) = -r := wr_in (by omega) (by omega)
      go_simp
      try rewrite [wn]
      exact hK' _ _ ⟨h, g, { off := h'.off.put (by decide) _, k0 := fun q => put_ne _ (by decide) (h'.k0 (by simpa using q)), k1 := fun q => put_ne _ (by decide) (h'.k1 (by simpa using q)), k2 := fun q => put_ne _ (by decide) (h'.k2 (by simpa using q)), k3 := fun q => put_ne _ (by decide) (h'.k3 (by simpa using q)), k4 := fun q => put_ne _ (by decide) (h'.k4 (by simpa using q)), k5 := fun q => put_ne _ (by decide) (h'.k5 (by simpa using q)), k6 := fun q => put_ne _ (by decide) (h'.k6 (by simpa using q)), k7 := fun q => put_ne _ (by decide) (h'.k7 (by simpa using q)), k8 := fun q => put_ne _ (by decide) (h'.k8 (by simpa using q)), k9 := fun q => put_ne _ (by decide) (h'.k9 (by simpa using q)), k10 := fun _ => put_at _ (by have := h'.off.size; omega), k11 := fun q => put_ne _ (by decide) (h'.k11 (by simpa using q)), k12 := fun q => put_ne _ (by decide) (h'.k12 (by simpa using q)), k13 := fun q => put_ne _ (by decide) (h'.k13 (by simpa using q)), k14 := fun q => put_ne _ (by decide) (h'.k14 (by simpa using q)), k15 := fun q => put_ne _ (by decide) (h'.k15 (by simpa using q)), k16 := fun q => put_ne _ (by decide) (h'.k16 (by simpa using q)), k17 := fun q => put_ne _ (by decide) (h'.k17 (by simpa using q)), be := h'.be, d6 := fun q => by simpa using h'.d6 (by simpa using q), d14 := fun q => by simpa using h'.d14 (by simpa using q), f := fun q => h'.f (by simpa using q), g' := fun q => h'.g' (by simpa using q) }⟩
    | 11, ho, hLi, hK' =>
      cases ho
      have ea := h'.k8 (hdeps ⟨8, .data⟩ (by simp) (by rfl))
      have eb := h'.k10 (hdeps ⟨10, .data⟩ (by simp) (by rfl))
      go_simp
      exact hK' _ _ ⟨h, wx.heap.size, { off := h'.off.put (by decide) _, k0 := fun q => put_ne _ (by decide) (h'.k0 (by simpa using q)), k1 := fun q => put_ne _ (by decide) (h'.k1 (by simpa using q)), k2 := fun q => put_ne _ (by decide) (h'.k2 (by simpa using q)), k3 := fun q => put_ne _ (by decide) (h'.k3 (by simpa using q)), k4 := fun q => put_ne _ (by decide) (h'.k4 (by simpa using q)), k5 := fun q => put_ne _ (by decide) (h'.k5 (by simpa using q)), k6 := fun q => put_ne _ (by decide) (h'.k6 (by simpa using q)), k7 := fun q => put_ne _ (by decide) (h'.k7 (by simpa using q)), k8 := fun q => put_ne _ (by decide) (h'.k8 (by simpa using q)), k9 := fun q => put_ne _ (by decide) (h'.k9 (by simpa using q)), k10 := fun q => put_ne _ (by decide) (h'.k10 (by simpa using q)), k11 := fun _ => put_at _ (by have := h'.off.size; omega), k12 := fun q => put_ne _ (by decide) (h'.k12 (by simpa using q)), k13 := fun q => put_ne _ (by decide) (h'.k13 (by simpa using q)), k14 := fun q => absurd (h'.d14 (by simpa using q)) (by simp [hLi]), k15 := fun q => put_ne _ (by decide) (h'.k15 (by simpa using q)), k16 := fun q => put_ne _ (by decide) (h'.k16 (by simpa using q)), k17 := fun q => put_ne _ (by decide) (h'.k17 (by simpa using q)), be := h'.be.alloc h'.be.size _, d6 := fun q => by simpa using h'.d6 (by simpa using q), d14 := fun _ => by simp, f := fun q => (h'.f (by simpa using q)).next ((Below.refl _ _).alloc (Nat.le_refl _) _), g' := fun _ => Four.fresh _ _ _ _ _ _ }⟩
    | 12, ho, hLi, hK' =>
      cases ho
      have ea := (h'.off.off 1 (by decide)).trans hA1
      go_simp
      exact hK' _ _ ⟨h, g, { off := h'.off.put (by decide) _, k0 := fun q => put_ne _ (by decide) (h'.k0 (by simpa using q)), k1 := fun q => put_ne _ (by decide) (h'.k1 (by simpa using q)), k2 := fun q => put_ne _ (by decide) (h'.k2 (by simpa using q)), k3 := fun q => put_ne _ (by decide) (h'.k3 (by simpa using q)), k4 := fun q => put_ne _ (by decide) (h'.k4 (by simpa using q)), k5 := fun q => put_ne _ (by decide) (h'.k5 (by simpa using q)), k6 := fun q => put_ne _ (by decide) (h'.k6 (by simpa using q)), k7 := fun q => put_ne _ (by decide) (h'.k7 (by simpa using q)), k8 := fun q => put_ne _ (by decide) (h'.k8 (by simpa using q)), k9 := fun q => put_ne _ (by decide) (h'.k9 (by simpa using q)), k10 := fun q => put_ne _ (by decide) (h'.k10 (by simpa using q)), k11 := fun q => put_ne _ (by decide) (h'.k11 (by simpa using q)), k12 := fun _ => put_at _ (by have := h'.off.size; omega), k13 := fun q => put_ne _ (by decide) (h'.k13 (by simpa using q)), k14 := fun q => put_ne _ (by decide) (h'.k14 (by simpa using q)), k15 := fun q => put_ne _ (by decide) (h'.k15 (by simpa using q)), k16 := fun q => put_ne _ (by decide) (h'.k16 (by simpa using q)), k17 := fun q => put_ne _ (by decide) (h'.k17 (by simpa using q)), be := h'.be, d6 := fun q => by simpa using h'.d6 (by simpa using q), d14 := fun q => by simpa using h'.d14 (by simpa using q), f := fun q => h'.f (by simpa using q), g' := fun q => h'.g' (by simpa using q) }⟩
    | 13, ho, hLi, hK' =>
      cases ho
      have ea := h'.k12 (hdeps ⟨12, .data⟩ (by simp) (by rfl))
      go_simp
      exact hK' _ _ ⟨h, g, { off := h'.off.put (by decide) _, k0 := fun q => put_ne _ (by decide) (h'.k0 (by simpa using q)), k1 := fun q => put_ne _ (by decide) (h'.k1 (by simpa using q)), k2 := fun q => put_ne _ (by decide) (h'.k2 (by simpa using q)), k3 := fun q => put_ne _ (by decide) (h'.k3 (by simpa using q)), k4 := fun q => put_ne _ (by decide) (h'.k4 (by simpa using q)), k5 := fun q => put_ne _ (by decide) (h'.k5 (by simpa using q)), k6 := fun q => put_ne _ (by decide) (h'.k6 (by simpa using q)), k7 := fun q => put_ne _ (by decide) (h'.k7 (by simpa using q)), k8 := fun q => put_ne _ (by decide) (h'.k8 (by simpa using q)), k9 := fun q => put_ne _ (by decide) (h'.k9 (by simpa using q)), k10 := fun q => put_ne _ (by decide) (h'.k10 (by simpa using q)), k11 := fun q => put_ne _ (by decide) (h'.k11 (by simpa using q)), k12 := fun q => put_ne _ (by decide) (h'.k12 (by simpa using q)), k13 := fun _ => put_at _ (by have := h'.off.size; omega), k14 := fun q => put_ne _ (by decide) (h'.k14 (by simpa using q)), k15 := fun q => put_ne _ (by decide) (h'.k15 (by simpa using q)), k16 := fun q => put_ne _ (by decide) (h'.k16 (by simpa using q)), k17 := fun q => put_ne _ (by decide) (h'.k17 (by simpa using q)), be := h'.be, d6 := fun q => by simpa using h'.d6 (by simpa using q), d14 := fun q => by simpa using h'.d14 (by simpa using q), f := fun q => h'.f (by simpa using q), g' := fun q => h'.g' (by simpa using q) }⟩
    | 14, ho, hLi, hK' =>
      cases ho
      have h11 := (hdeps ⟨11, .data⟩ (by simp) (by rfl))
      have ea := h'.k11 h11
      have eb := h'.k13 (hdeps ⟨13, .data⟩ (by simp) (by rfl))
      go_simp
      exact hK' _ _ ⟨h, g, { off := h'.off.put (by decide) _, k0 := fun q => put_ne _ (by decide) (h'.k0 (by simpa using q)), k1 := fun q => put_ne _ (by decide) (h'.k1 (by simpa using q)), k2 := fun q => put_ne _ (by decide) (h'.k2 (by simpa using q)), k3 := fun q => put_ne _ (by decide) (h'.k3 (by simpa using q)), k4 := fun q => put_ne _ (by decide) (h'.k4 (by simpa using q)), k5 := fun q => put_ne _ (by decide) (h'.k5 (by simpa using q)), k6 := fun q => put_ne _ (by decide) (h'.k6 (by simpa using q)), k7 := fun q => put_ne _ (by decide) (h'.k7 (by simpa using q)), k8 := fun q => put_ne _ (by decide) (h'.k8 (by simpa using q)), k9 := fun q => put_ne _ (by decide) (h'.k9 (by simpa using q)), k10 := fun q => put_ne _ (by decide) (h'.k10 (by simpa using q)), k11 := fun q => put_ne _ (by decide) (h'.k11 (by simpa using q)), k12 := fun q => put_ne _ (by decide) (h'.k12 (by simpa using q)), k13 := fun q => put_ne _ (by decide) (h'.k13 (by simpa using q)), k14 := fun _ => put_at _ (by have := h'.off.size; omega), k15 := fun q => put_ne _ (by decide) (h'.k15 (by simpa using q)), k16 := fun q => put_ne _ (by decide) (h'.k16 (by simpa using q)), k17 := fun q => put_ne _ (by decide) (h'.k17 (by simpa using q)), be := h'.be, d6 := fun q => by simpa using h'.d6 (by simpa using q), d14 := fun _ => by simpa using h11, f := fun q => h'.f (by simpa using q), g' := fun q => h'.g' (by simpa using q) }⟩
    | 15, ho, hLi, hK' =>
      cases ho
      have h14 := (hdeps ⟨14, .data⟩ (by simp) (by rfl))
      have ea := h'.k14 h14
      have ec : wx.cell? ⟨g, 1, none⟩ = some (.int .i64 (r)) := (h'.g' (h'.d14 h14)).1 1 (by decide)
      go_simp
      exact hK' _ _ ⟨h, g, { off := h'.off.put (by decide) _, k0 := fun q => put_ne _ (by decide) (h'.k0 (by simpa using q)), k1 := fun q => put_ne _ (by decide) (h'.k1 (by simpa using q)), k2 := fun q => put_ne _ (by decide) (h'.k2 (by simpa using q)), k3 := fun q => put_ne _ (by decide) (h'.k3 (by simpa using q)), k4 := fun q => put_ne _ (by decide) (h'.k4 (by simpa using q)), k5 := fun q => put_ne _ (by decide) (h'.k5 (by simpa using q)), k6 := fun q => put_ne _ (by decide) (h'.k6 (by simpa using q)), k7 := fun q => put_ne _ (by decide) (h'.k7 (by simpa using q)), k8 := fun q => put_ne _ (by decide) (h'.k8 (by simpa using q)), k9 := fun q => put_ne _ (by decide) (h'.k9 (by simpa using q)), k10 := fun q => put_ne _ (by decide) (h'.k10 (by simpa using q)), k11 := fun q => put_ne _ (by decide) (h'.k11 (by simpa using q)), k12 := fun q => put_ne _ (by decide) (h'.k12 (by simpa using q)), k13 := fun q => put_ne _ (by decide) (h'.k13 (by simpa using q)), k14 := fun q => put_ne _ (by decide) (h'.k14 (by simpa using q)), k15 := fun _ => put_at _ (by have := h'.off.size; omega), k16 := fun q => put_ne _ (by decide) (h'.k16 (by simpa using q)), k17 := fun q => put_ne _ (by decide) (h'.k17 (by simpa using q)), be := h'.be, d6 := fun q => by simpa using h'.d6 (by simpa using q), d14 := fun q => by simpa using h'.d14 (by simpa using q), f := fun q => h'.f (by simpa using q), g' := fun q => h'.g' (by simpa using q) }⟩
    | 16, ho, hLi, hK' =>
      cases ho
      have ea := h'.k7 (hdeps ⟨7, .data⟩ (by simp) (by rfl))
      go_simp
      exact hK' _ _ ⟨h, g, { off := h'.off.put (by decide) _, k0 := fun q => put_ne _ (by decide) (h'.k0 (by simpa using q)), k1 := fun q => put_ne _ (by decide) (h'.k1 (by simpa using q)), k2 := fun q => put_ne _ (by decide) (h'.k2 (by simpa using q)), k3 := fun q => put_ne _ (by decide) (h'.k3 (by simpa using q)), k4 := fun q => put_ne _ (by decide) (h'.k4 (by simpa using q)), k5 := fun q => put_ne _ (by decide) (h'.k5 (by simpa using q)), k6 := fun q => put_ne _ (by decide) (h'.k6 (by simpa using q)), k7 := fun q => put_ne _ (by decide) (h'.k7 (by simpa using q)), k8 := fun q => put_ne _ (by decide) (h'.k8 (by simpa using q)), k9 := fun q => put_ne _ (by decide) (h'.k9 (by simpa using q)), k10 := fun q => put_ne _ (by decide) (h'.k10 (by simpa using q)), k11 := fun q => put_ne _ (by decide) (h'.k11 (by simpa using q)), k12 := fun q => put_ne _ (by decide) (h'.k12 (by simpa using q)), k13 := fun q => put_ne _ (by decide) (h'.k13 (by simpa using q)), k14 := fun q => put_ne _ (by decide) (h'.k14 (by simpa using q)), k15 := fun q => put_ne _ (by decide) (h'.k15 (by simpa using q)), k16 := fun _ => put_at _ (by have := h'.off.size; omega), k17 := fun q => put_ne _ (by decide) (h'.k17 (by simpa using q)), be := h'.be, d6 := fun q => by simpa using h'.d6 (by simpa using q), d14 := fun q => by simpa using h'.d14 (by simpa using q), f := fun q => h'.f (by simpa using q), g' := fun q => h'.g' (by simpa using q) }⟩
    | 17, ho, hLi, hK' =>
      cases ho
      have ea := h'.k15 (hdeps ⟨15, .data⟩ (by simp) (by rfl))
      go_simp
      exact hK' _ _ ⟨h, g, { off := h'.off.put (by decide) _, k0 := fun q => put_ne _ (by decide) (h'.k0 (by simpa using q)), k1 := fun q => put_ne _ (by decide) (h'.k1 (by simpa using q)), k2 := fun q => put_ne _ (by decide) (h'.k2 (by simpa using q)), k3 := fun q => put_ne _ (by decide) (h'.k3 (by simpa using q)), k4 := fun q => put_ne _ (by decide) (h'.k4 (by simpa using q)), k5 := fun q => put_ne _ (by decide) (h'.k5 (by simpa using q)), k6 := fun q => put_ne _ (by decide) (h'.k6 (by simpa using q)), k7 := fun q => put_ne _ (by decide) (h'.k7 (by simpa using q)), k8 := fun q => put_ne _ (by decide) (h'.k8 (by simpa using q)), k9 := fun q => put_ne _ (by decide) (h'.k9 (by simpa using q)), k10 := fun q => put_ne _ (by decide) (h'.k10 (by simpa using q)), k11 := fun q => put_ne _ (by decide) (h'.k11 (by simpa using q)), k12 := fun q => put_ne _ (by decide) (h'.k12 (by simpa using q)), k13 := fun q => put_ne _ (by decide) (h'.k13 (by simpa using q)), k14 := fun q => put_ne _ (by decide) (h'.k14 (by simpa using q)), k15 := fun q => put_ne _ (by decide) (h'.k15 (by simpa using q)), k16 := fun q => put_ne _ (by decide) (h'.k16 (by simpa using q)), k17 := fun _ => put_at _ (by have := h'.off.size; omega), be := h'.be, d6 := fun q => by simpa using h'.d6 (by simpa using q), d14 := fun q => by simpa using h'.d14 (by simpa using q), f := fun q => h'.f (by simpa using q), g' := fun q => h'.g' (by simpa using q) }⟩
    | i + 18, ho, hLi, hK' => cases ho
  · intro L a wx hI hall
    obtain ⟨h, g, h'⟩ := hI
    have hfr := h'.off.rebuild (fun d => if d = 6 then .int .i64 (r) else if d = 7 then .int .i64 (r) else if d = 8 then .int .i64 (-r) else if d = 9 then .slice (some ⟨h, 0, none⟩) 4 4 else if d = 10 then .int .i64 (5) else if d = 11 then .int .i64 (1) else if d = 12 then .pointer (some ⟨h, 1, none⟩) else if d = 13 then .int .i64 (0) else if d = 14 then .int .i64 (r) else if d = 15 then .int .i64 (r) else if d = 16 then .int .i64 (-r) else if d = 17 then .slice (some ⟨g, 0, none⟩) 4 4 else if d = 18 then .int .i64 (5) else if d = 19 then .int .i64 (1) else if d = 20 then .pointer (some ⟨g, 1, none⟩) else if d = 21 then .int .i64 (r) else if d = 4 then .int .i64 (0) else if d = 5 then .int .i64 (r) else undef) (by
      intro d hd
      simp only [List.mem_cons, List.not_mem_nil, or_false] at hd
      rcases hd with rfl | rfl | rfl | rfl | rfl | rfl | rfl | rfl | rfl | rfl | rfl | rfl | rfl | rfl | rfl | rfl | rfl | rfl
      · exact h'.k0 (hall 0 (by decide))
      · exact h'.k1 (hall 1 (by decide))
      · exact h'.k2 (hall 2 (by decide))
      · exact h'.k3 (hall 3 (by decide))
      · exact h'.k4 (hall 4 (by decide))
      · exact h'.k5 (hall 5 (by decide))
      · exact h'.k6 (hall 6 (by decide))
      · exact h'.k7 (hall 7 (by decide))
      · exact h'.k8 (hall 8 (by decide))
      · exact h'.k9 (hall 9 (by decide))
      · exact h'.k10 (hall 10 (by decide))
      · exact h'.k11 (hall 11 (by decide))
      · exact h'.k12 (hall 12 (by decide))
      · exact h'.k13 (hall 13 (by decide))
      · exact h'.k14 (hall 14 (by decide))
      · exact h'.k15 (hall 15 (by decide))
      · exact h'.k16 (hall 16 (by decide))
      · exact h'.k17 (hall 17 (by decide))
      )
    simp only [List.foldl_cons, List.foldl_nil] at hfr
    rw [← HA.out] at hfr
    have hB := h'.be
    rw [hfr]
    clear hfr h' hall HA hsz hA0 hA1
    simp [Act.put]
    go_wp2_with fail
    go_ret2
    exact ⟨rfl, hB⟩
structure TuI6 (r : Int) (w0 : World) (A : Act) (h g : Nat) (L : Nat → Bool) (a : Act) (w : World) : Prop where
  off : OffOf [6, 7, 8, 9, 10, 11, 12, 13, 14, 15, 16, 17, 18, 19, 20, 21, 4, 5] A a
  k0 : L 0 = true → a.tmps[6]? = some (.int .i64 (r))
  k1 : L 1 = true → a.tmps[7]? = some (.int .i64 (r))
  k2 : L 2 = true → a.tmps[8]? = some (.int .i64 (-r))
  k3 : L 3 = true → a.tmps[9]? = some (.slice (some ⟨h, 0, none⟩) 4 4)
  k4 : L 4 = true → a.tmps[10]? = some (.int .i64 (6))
  k5 : L 5 = true → a.tmps[11]? = some (.int .i64 (2))
  k6 : L 6 = true → a.tmps[12]? = some (.pointer (some ⟨h, 2, none⟩))
  k7 : L 7 = true → a.tmps[13]? = some (.int .i64 (-r))
  k8 : L 8 = true → a.tmps[14]? = some (.int .i64 (r))
  k9 : L 9 = true → a.tmps[15]? = some (.int .i64 (r))
  k10 : L 10 = true → a.tmps[16]? = some (.int .i64 (-r))
  k11 : L 11 = true → a.tmps[17]? = some (.slice (some ⟨g, 0, none⟩) 4 4)
  k12 : L 12 = true → a.tmps[18]? = some (.int .i64 (6))
  k13 : L 13 = true → a.tmps[19]? = some (.int .i64 (2))
  k14 : L 14 = true → a.tmps[20]? = some (.pointer (some ⟨g, 2, none⟩))
  k15 : L 15 = true → a.tmps[21]? = some (.int .i64 (0))
  k16 : L 16 = true → a.tmps[4]? = some (.int .i64 (-r))
  k17 : L 17 = true → a.tmps[5]? = some (.int .i64 (0))
  be : Below w0.heap.size w0 w
  d6 : L 6 = true → L 3 = true
  d14 : L 14 = true → L 11 = true
  f : L 3 = true → Four h r 0 (-r) 0 w
  g' : L 11 = true → Four g 0 r 0 (-r) w
set_option maxHeartbeats 4000000 in
theorem turned_6 (r : Int) (w : World) (h1 : 0 ≤ r) (h2 : r ≤ 1000000) :
    Calls Try.prog 53 #[.int .i64 r, .int .i64 6] w fun e w' => e = .returned (.tuple #[.int .i64 (-r), .int .i64 (0)]) ∧ Below w.heap.size w w' := by
  go_enter Try.func53, Try.ntmps53
  go_upto_region 1 with fail
  generalize hA : (Act.mk _ _) = A
  have hsz : A.tmps.size = 22 := by rw [← hA]; rfl
  have hA0 : A.tmps[0]? = some (.int .i64 r) := by rw [← hA]; rfl
  have hA1 : A.tmps[1]? = some (.int .i64 6) := by rw [← hA]; rfl
  have HA := Lib.hid hA
  clear hA
  refine wp_region_inv (fun L a wx => ∃ h g, TuI6 r w A h g L a wx) (by kernel_rfl) (by kernel_rfl) ?_ ?_ ?_
  · have hD := (Below.refl w.heap.size w).drew
    exact ⟨0, 0, by constructor <;> first | exact OffOf.refl _ _ | exact hD | (intro h; exact nomatch h)⟩
  · intro i o ho L a wx hI hLi hdeps K hK'
    obtain ⟨h, g, h'⟩ := hI
    match i, ho, hLi, hK' with
    | 0, ho, hLi, hK' =>
      cases ho
      have ea := (h'.off.off 0 (by decide)).trans hA0
      go_simp
      exact hK' _ _ ⟨h, g, { off := h'.off.put (by decide) _, k0 := fun _ => put_at _ (by have := h'.off.size; omega), k1 := fun q => put_ne _ (by decide) (h'.k1 (by simpa using q)), k2 := fun q => put_ne _ (by decide) (h'.k2 (by simpa using q)), k3 := fun q => put_ne _ (by decide) (h'.k3 (by simpa using q)), k4 := fun q => put_ne _ (by decide) (h'.k4 (by simpa using q)), k5 := fun q => put_ne _ (by decide) (h'.k5 (by simpa using q)), k6 := fun q => put_ne _ (by decide) (h'.k6 (by simpa using q)), k7 := fun q => put_ne _ (by decide) (h'.k7 (by simpa using q)), k8 := fun q => put_ne _ (by decide) (h'.k8 (by simpa using q)), k9 := fun q => put_ne _ (by decide) (h'.k9 (by simpa using q)), k10 := fun q => put_ne _ (by decide) (h'.k10 (by simpa using q)), k11 := fun q => put_ne _ (by decide) (h'.k11 (by simpa using q)), k12 := fun q => put_ne _ (by decide) (h'.k12 (by simpa using q)), k13 := fun q => put_ne _ (by decide) (h'.k13 (by simpa using q)), k14 := fun q => put_ne _ (by decide) (h'.k14 (by simpa using q)), k15 := fun q => put_ne _ (by decide) (h'.k15 (by simpa using q)), k16 := fun q => put_ne _ (by decide) (h'.k16 (by simpa using q)), k17 := fun q => put_ne _ (by decide) (h'.k17 (by simpa using q)), be := h'.be, d6 := fun q => by simpa using h'.d6 (by simpa using q), d14 := fun q => by simpa using h'.d14 (by simpa using q), f := fun q => h'.f (by simpa using q), g' := fun q => h'.g' (by simpa using q) }⟩
    | 1, ho, hLi, hK' =>
      cases ho
      have ea := (h'.off.off 0 (by decide)).trans hA0
      go_simp
      exact hK' _ _ ⟨h, g, { off := h'.off.put (by decide) _, k0 := fun q => put_ne _ (by decide) (h'.k0 (by simpa using q)), k1 := fun _ => put_at _ (by have := h'.off.size; omega), k2 := fun q => put_ne _ (by decide) (h'.k2 (by simpa using q)), k3 := fun q => put_ne _ (by decide) (h'.k3 (by simpa using q)), k4 := fun q => put_ne _ (by decide) (h'.k4 (by simpa using q)), k5 := fun q => put_ne _ (by decide) (h'.k5 (by simpa using q)), k6 := fun q => put_ne _ (by decide) (h'.k6 (by simpa using q)), k7 := fun q => put_ne _ (by decide) (h'.k7 (by simpa using q)), k8 := fun q => put_ne _ (by decide) (h'.k8 (by simpa using q)), k9 := fun q => put_ne _ (by decide) (h'.k9 (by simpa using q)), k10 := fun q => put_ne _ (by decide) (h'.k10 (by simpa using q)), k11 := fun q => put_ne _ (by decide) (h'.k11 (by simpa using q)), k12 := fun q => put_ne _ (by decide) (h'.k12 (by simpa using q)), k13 := fun q => put_ne _ (by decide) (h'.k13 (by simpa using q)), k14 := fun q => put_ne _ (by decide) (h'.k14 (by simpa using q)), k15 := fun q => put_ne _ (by decide) (h'.k15 (by simpa using q)), k16 := fun q => put_ne _ (by decide) (h'.k16 (by simpa using q)), k17 := fun q => put_ne _ (by decide) (h'.k17 (by simpa using q)), be := h'.be, d6 := fun q => by simpa using h'.d6 (by simpa using q), d14 := fun q => by simpa using h'.d14 (by simpa using q), f := fun q => h'.f (by simpa using q), g' := fun q => h'.g' (by simpa using q) }⟩
    | 2, ho, hLi, hK' =>
      cases ho
      have ea := h'.k1 (hdeps ⟨1, .data⟩ (by simp) (by rfl))
      have wn : IntKind.i64.wrap (-r) = -r := wr_in (by omega) (by omega)
      go_simp
      try rewrite [wn]
      exact hK' _ _ ⟨h, g, { off := h'.off.put (by decide) _, k0 := fun q => put_ne _ (by decide) (h'.k0 (by simpa using q)), k1 := fun q => put_ne _ (by decide) (h'.k1 (by simpa using q)), k2 := fun _ => put_at _ (by have := h'.off.size; omega), k3 := fun q => put_ne _ (by decide) (h'.k3 (by simpa using q)), k4 := fun q => put_ne _ (by decide) (h'.k4 (by simpa using q)), k5 := fun q => put_ne _ (by decide) (h'.k5 (by simpa using q)), k6 := fun q => put_ne _ (by decide) (h'.k6 (by simpa using q)), k7 := fun q => put_ne _ (by decide) (h'.k7 (by simpa using q)), k8 := fun q => put_ne _ (by decide) (h'.k8 (by simpa using q)), k9 := fun q => put_ne _ (by decide) (h'.k9 (by simpa using q)), k10 := fun q => put_ne _ (by decide) (h'.k10 (by simpa using q)), k11 := fun q => put_ne _ (by decide) (h'.k11 (by simpa using q)), k12 := fun q => put_ne _ (by decide) (h'.k12 (by simpa using q)), k13 := fun q => put_ne _ (by decide) (h'.k13 (by simpa using q)), k14 := fun q => put_ne _ (by decide) (h'.k14 (by simpa using q)), k15 := fun q => put_ne _ (by decide) (h'.k15 (by simpa using q)), k16 := fun q => put_ne _ (by decide) (h'.k16 (by simpa using q)), k17 := fun q => put_ne _ (by decide) (h'.k17 (by simpa using q)), be := h'.be, d6 := fun q => by simpa using h'.d6 (by simpa using q), d14 := fun q => by simpa using h'.d14 (by simpa using q), f := fun q => h'.f (by simpa using q), g' := fun q => h'.g' (by simpa using q) }⟩
    | 3, ho, hLi, hK' =>
      cases ho
      have ea := h'.k0 (hdeps ⟨0, .data⟩ (by simp) (by rfl))
      have eb := h'.k2 (hdeps ⟨2, .data⟩ (by simp) (by rfl))
      go_simp
      exact hK' _ _ ⟨wx.heap.size, g, { off := h'.off.put (by decide) _, k0 := fun q => put_ne _ (by decide) (h'.k0 (by simpa using q)), k1 := fun q => put_ne _ (by decide) (h'.k1 (by simpa using q)), k2 := fun q => put_ne _ (by decide) (h'.k2 (by simpa using q)), k3 := fun _ => put_at _ (by have := h'.off.size; omega), k4 := fun q => put_ne _ (by decide) (h'.k4 (by simpa using q)), k5 := fun q => put_ne _ (by decide) (h'.k5 (by simpa using q)), k6 := fun q => absurd (h'.d6 (by simpa using q)) (by simp [hLi]), k7 := fun q => put_ne _ (by decide) (h'.k7 (by simpa using q)), k8 := fun q => put_ne _ (by decide) (h'.k8 (by simpa using q)), k9 := fun q => put_ne _ (by decide) (h'.k9 (by simpa using q)), k10 := fun q => put_ne _ (by decide) (h'.k10 (by simpa using q)), k11 := fun q => put_ne _ (by decide) (h'.k11 (by simpa using q)), k12 := fun q => put_ne _ (by decide) (h'.k12 (by simpa using q)), k13 := fun q => put_ne _ (by decide) (h'.k13 (by simpa using q)), k14 := fun q => put_ne _ (by decide) (h'.k14 (by simpa using q)), k15 := fun q => put_ne _ (by decide) (h'.k15 (by simpa using q)), k16 := fun q => put_ne _ (by decide) (h'.k16 (by simpa using q)), k17 := fun q => put_ne _ (by decide) (h'.k17 (by simpa using q)), be := h'.be.alloc h'.be.size _, d6 := fun _ => by simp, d14 := fun q => by simpa using h'.d14 (by simpa using q), f := fun _ => Four.fresh _ _ _ _ _ _, g' := fun q => (h'.g' (by simpa using q)).next ((Below.refl _ _).alloc (Nat.le_refl _) _) }⟩
    | 4, ho, hLi, hK' =>
      cases ho
      have ea := (h'.off.off 1 (by decide)).trans hA1
      go_simp
      exact hK' _ _ ⟨h, g, { off := h'.off.put (by decide) _, k0 := fun q => put_ne _ (by decide) (h'.k0 (by simpa using q)), k1 := fun q => put_ne _ (by decide) (h'.k1 (by simpa using q)), k2 := fun q => put_ne _ (by decide) (h'.k2 (by simpa using q)), k3 := fun q => put_ne _ (by decide) (h'.k3 (by simpa using q)), k4 := fun _ => put_at _ (by have := h'.off.size; omega), k5 := fun q => put_ne _ (by decide) (h'.k5 (by simpa using q)), k6 := fun q => put_ne _ (by decide) (h'.k6 (by simpa using q)), k7 := fun q => put_ne _ (by decide) (h'.k7 (by simpa using q)), k8 := fun q => put_ne _ (by decide) (h'.k8 (by simpa using q)), k9 := fun q => put_ne _ (by decide) (h'.k9 (by simpa using q)), k10 := fun q => put_ne _ (by decide) (h'.k10 (by simpa using q)), k11 := fun q => put_ne _ (by decide) (h'.k11 (by simpa using q)), k12 := fun q => put_ne _ (by decide) (h'.k12 (by simpa using q)), k13 := fun q => put_ne _ (by decide) (h'.k13 (by simpa using q)), k14 := fun q => put_ne _ (by decide) (h'.k14 (by simpa using q)), k15 := fun q => put_ne _ (by decide) (h'.k15 (by simpa using q)), k16 := fun q => put_ne _ (by decide) (h'.k16 (by simpa using q)), k17 := fun q => put_ne _ (by decide) (h'.k17 (by simpa using q)), be := h'.be, d6 := fun q => by simpa using h'.d6 (by simpa using q), d14 := fun q => by simpa using h'.d14 (by simpa using q), f := fun q => h'.f (by simpa using q), g' := fun q => h'.g' (by simpa using q) }⟩
    | 5, ho, hLi, hK' =>
      cases ho
      have ea := h'.k4 (hdeps ⟨4, .data⟩ (by simp) (by rfl))
      go_simp
      exact hK' _ _ ⟨h, g, { off := h'.off.put (by decide) _, k0 := fun q => put_ne _ (by decide) (h'.k0 (by simpa using q)), k1 := fun q => put_ne _ (by decide) (h'.k1 (by simpa using q)), k2 := fun q => put_ne _ (by decide) (h'.k2 (by simpa using q)), k3 := fun q => put_ne _ (by decide) (h'.k3 (by simpa using q)), k4 := fun q => put_ne _ (by decide) (h'.k4 (by simpa using q)), k5 := fun _ => put_at _ (by have := h'.off.size; omega), k6 := fun q => put_ne _ (by decide) (h'.k6 (by simpa using q)), k7 := fun q => put_ne _ (by decide) (h'.k7 (by simpa using q)), k8 := fun q => put_ne _ (by decide) (h'.k8 (by simpa using q)), k9 := fun q => put_ne _ (by decide) (h'.k9 (by simpa using q)), k10 := fun q => put_ne _ (by decide) (h'.k10 (by simpa using q)), k11 := fun q => put_ne _ (by decide) (h'.k11 (by simpa using q)), k12 := fun q => put_ne _ (by decide) (h'.k12 (by simpa using q)), k13 := fun q => put_ne _ (by decide) (h'.k13 (by simpa using q)), k14 := fun q => put_ne _ (by decide) (h'.k14 (by simpa using q)), k15 := fun q => put_ne _ (by decide) (h'.k15 (by simpa using q)), k16 := fun q => put_ne _ (by decide) (h'.k16 (by simpa using q)), k17 := fun q => put_ne _ (by decide) (h'.k17 (by simpa using q)), be := h'.be, d6 := fun q => by simpa using h'.d6 (by simpa using q), d14 := fun q => by simpa using h'.d14 (by simpa using q), f := fun q => h'.f (by simpa using q), g' := fun q => h'.g' (by simpa using q) }⟩
    | 6, ho, hLi, hK' =>
      cases ho
      have h3 := (hdeps ⟨3, .data⟩ (by simp) (by rfl))
      have ea := h'.k3 h3
      have eb := h'.k5 (hdeps ⟨5, .data⟩ (by simp) (by rfl))
      go_simp
      exact hK' _ _ ⟨h, g, { off := h'.off.put (by decide) _, k0 := fun q => put_ne _ (by decide) (h'.k0 (by simpa using q)), k1 := fun q => put_ne _ (by decide) (h'.k1 (by simpa using q)), k2 := fun q => put_ne _ (by decide) (h'.k2 (by simpa using q)), k3 := fun q => put_ne _ (by decide) (h'.k3 (by simpa using q)), k4 := fun q => put_ne _ (by decide) (h'.k4 (by simpa using q)), k5 := fun q => put_ne _ (by decide) (h'.k5 (by simpa using q)), k6 := fun _ => put_at _ (by have := h'.off.size; omega), k7 := fun q => put_ne _ (by decide) (h'.k7 (by simpa using q)), k8 := fun q => put_ne _ (by decide) (h'.k8 (by simpa using q)), k9 := fun q => put_ne _ (by decide) (h'.k9 (by simpa using q)), k10 := fun q => put_ne _ (by decide) (h'.k10 (by simpa using q)), k11 := fun q => put_ne _ (by decide) (h'.k11 (by simpa using q)), k12 := fun q => put_ne _ (by decide) (h'.k12 (by simpa using q)), k13 := fun q => put_ne _ (by decide) (h'.k13 (by simpa using q)), k14 := fun q => put_ne _ (by decide) (h'.k14 (by simpa using q)), k15 := fun q => put_ne _ (by decide) (h'.k15 (by simpa using q)), k16 := fun q => put_ne _ (by decide) (h'.k16 (by simpa using q)), k17 := fun q => put_ne _ (by decide) (h'.k17 (by simpa using q)), be := h'.be, d6 := fun _ => by simpa using h3, d14 := fun q => by simpa using h'.d14 (by simpa using q), f := fun q => h'.f (by simpa using q), g' := fun q => h'.g' (by simpa using q) }⟩
    | 7, ho, hLi, hK' =>
      cases ho
      have h6 := (hdeps ⟨6, .data⟩ (by simp) (by rfl))
      have ea := h'.k6 h6
      have ec : wx.cell? ⟨h, 2, none⟩ = some (.int .i64 (-r)) := (h'.f (h'.d6 h6)).1 2 (by decide)
      go_simp
      exact hK' _ _ ⟨h, g, { off := h'.off.put (by decide) _, k0 := fun q => put_ne _ (by decide) (h'.k0 (by simpa using q)), k1 := fun q => put_ne _ (by decide) (h'.k1 (by simpa using q)), k2 := fun q => put_ne _ (by decide) (h'.k2 (by simpa using q)), k3 := fun q => put_ne _ (by decide) (h'.k3 (by simpa using q)), k4 := fun q => put_ne _ (by decide) (h'.k4 (by simpa using q)), k5 := fun q => put_ne _ (by decide) (h'.k5 (by simpa using q)), k6 := fun q => put_ne _ (by decide) (h'.k6 (by simpa using q)), k7 := fun _ => put_at _ (by have := h'.off.size; omega), k8 := fun q => put_ne _ (by decide) (h'.k8 (by simpa using q)), k9 := fun q => put_ne _ (by decide) (h'.k9 (by simpa using q)), k10 := fun q => put_ne _ (by decide) (h'.k10 (by simpa using q)), k11 := fun q => put_ne _ (by decide) (h'.k11 (by simpa using q)), k12 := fun q => put_ne _ (by decide) (h'.k12 (by simpa using q)), k13 := fun q => put_ne _ (by decide) (h'.k13 (by simpa using q)), k14 := fun q => put_ne _ (by decide) (h'.k14 (by simpa using q)), k15 := fun q => put_ne _ (by decide) (h'.k15 (by simpa using q)), k16 := fun q => put_ne _ (by decide) (h'.k16 (by simpa using q)), k17 := fun q => put_ne _ (by decide) (h'.k17 (by simpa using q)), be := h'.be, d6 := fun q => by simpa using h'.d6 (by simpa using q), d14 := fun q => by simpa using h'.d14 (by simpa using q), f := fun q => h'.f (by simpa using q), g' := fun q => h'.g' (by simpa using q) }⟩
    | 8, ho, hLi, hK' =>
      cases ho
      have ea := (h'.off.off 0 (by decide)).trans hA0
      go_simp
      exact hK' _ _ ⟨h, g, { off := h'.off.put (by decide) _, k0 := fun q => put_ne _ (by decide) (h'.k0 (by simpa using q)), k1 := fun q => put_ne _ (by decide) (h'.k1 (by simpa using q)), k2 := fun q => put_ne _ (by decide) (h'.k2 (by simpa using q)), k3 := fun q => put_ne _ (by decide) (h'.k3 (by simpa using q)), k4 := fun q => put_ne _ (by decide) (h'.k4 (by simpa using q)), k5 := fun q => put_ne _ (by decide) (h'.k5 (by simpa using q)), k6 := fun q => put_ne _ (by decide) (h'.k6 (by simpa using q)), k7 := fun q => put_ne _ (by decide) (h'.k7 (by simpa using q)), k8 := fun _ => put_at _ (by have := h'.off.size; omega), k9 := fun q => put_ne _ (by decide) (h'.k9 (by simpa using q)), k10 := fun q => put_ne _ (by decide) (h'.k10 (by simpa using q)), k11 := fun q => put_ne _ (by decide) (h'.k11 (by simpa using q)), k12 := fun q => put_ne _ (by decide) (h'.k12 (by simpa using q)), k13 := fun q => put_ne _ (by decide) (h'.k13 (by simpa using q)), k14 := fun q => put_ne _ (by decide) (h'.k14 (by simpa using q)), k15 := fun q => put_ne _ (by decide) (h'.k15 (by simpa using q)), k16 := fun q => put_ne _ (by decide) (h'.k16 (by simpa using q)), k17 := fun q => put_ne _ (by decide) (h'.k17 (by simpa using q)), be := h'.be, d6 := fun q => by simpa using h'.d6 (by simpa using q), d14 := fun q => by simpa using h'.d14 (by simpa using q), f := fun q => h'.f (by simpa using q), g' := fun q => h'.g' (by simpa using q) }⟩
    | 9, ho, hLi, hK' =>
      cases ho
      have ea := (h'.off.off 0 (by decide)).trans hA0
      go_simp
      exact hK' _ _ ⟨h, g, { off := h'.off.put (by decide) _, k0 := fun q => put_ne _ (by decide) (h'.k0 (by simpa using q)), k1 := fun q => put_ne _ (by decide) (h'.k1 (by simpa using q)), k2 := fun q => put_ne _ (by decide) (h'.k2 (by simpa using q)), k3 := fun q => put_ne _ (by decide) (h'.k3 (by simpa using q)), k4 := fun q => put_ne _ (by decide) (h'.k4 (by simpa using q)), k5 := fun q => put_ne _ (by decide) (h'.k5 (by simpa using q)), k6 := fun q => put_ne _ (by decide) (h'.k6 (by simpa using q)), k7 := fun q => put_ne _ (by decide) (h'.k7 (by simpa using q)), k8 := fun q => put_ne _ (by decide) (h'.k8 (by simpa using q)), k9 := fun _ => put_at _ (by have := h'.off.size; omega), k10 := fun q => put_ne _ (by decide) (h'.k10 (by simpa using q)), k11 := fun q => put_ne _ (by decide) (h'.k11 (by simpa using q)), k12 := fun q => put_ne _ (by decide) (h'.k12 (by simpa using q)), k13 := fun q => put_ne _ (by decide) (h'.k13 (by simpa using q)), k14 := fun q => put_ne _ (by decide) (h'.k14 (by simpa using q)), k15 := fun q => put_ne _ (by decide) (h'.k15 (by simpa using q)), k16 := fun q => put_ne _ (by decide) (h'.k16 (by simpa using q)), k17 := fun q => put_ne _ (by decide) (h'.k17 (by simpa using q)), be := h'.be, d6 := fun q => by simpa using h'.d6 (by simpa using q), d14 := fun q => by simpa using h'.d14 (by simpa using q), f := fun q => h'.f (by simpa using q), g' := fun q => h'.g' (by simpa using q) }⟩
    | 10, ho, hLi, hK' =>
      cases ho
      have ea := h'.k9 (hdeps ⟨9, .data⟩ (by simp) (by rfl))
      have wn : IntKind.i64.wrap (-r) = -r := wr_in (by omega) (by omega)
      go_simp
      try rewrite [wn]
      exact hK' _ _ ⟨h, g, { off := h'.off.put (by decide) _, k0 := fun q => put_ne _ (by decide) (h'.k0 (by simpa using q)), k1 := fun q => put_ne _ (by decide) (h'.k1 (by simpa using q)), k2 := fun q => put_ne _ (by decide) (h'.k2 (by simpa using q)), k3 := fun q => put_ne _ (by decide) (h'.k3 (by simpa using q)), k4 := fun q => put_ne _ (by decide) (h'.k4 (by simpa using q)), k5 := fun q => put_ne _ (by decide) (h'.k5 (by simpa using q)), k6 := fun q => put_ne _ (by decide) (h'.k6 (by simpa using q)), k7 := fun q => put_ne _ (by decide) (h'.k7 (by simpa using q)), k8 := fun q => put_ne _ (by decide) (h'.k8 (by simpa using q)), k9 := fun q => put_ne _ (by decide) (h'.k9 (by simpa using q)), k10 := fun _ => put_at _ (by have := h'.off.size; omega), k11 := fun q => put_ne _ (by decide) (h'.k11 (by simpa using q)), k12 := fun q => put_ne _ (by decide) (h'.k12 (by simpa using q)), k13 := fun q => put_ne _ (by decide) (h'.k13 (by simpa using q)), k14 := fun q => put_ne _ (by decide) (h'.k14 (by simpa using q)), k15 := fun q => put_ne _ (by decide) (h'.k15 (by simpa using q)), k16 := fun q => put_ne _ (by decide) (h'.k16 (by simpa using q)), k17 := fun q => put_ne _ (by decide) (h'.k17 (by simpa using q)), be := h'.be, d6 := fun q => by simpa using h'.d6 (by simpa using q), d14 := fun q => by simpa using h'.d14 (by simpa using q), f := fun q => h'.f (by simpa using q), g' := fun q => h'.g' (by simpa using q) }⟩
    | 11, ho, hLi, hK' =>
      cases ho
      have ea := h'.k8 (hdeps ⟨8, .data⟩ (by simp) (by rfl))
      have eb := h'.k10 (hdeps ⟨10, .data⟩ (by simp) (by rfl))
      go_simp
      exact hK' _ _ ⟨h, wx.heap.size, { off := h'.off.put (by decide) _, k0 := fun q => put_ne _ (by decide) (h'.k0 (by simpa using q)), k1 := fun q => put_ne _ (by decide) (h'.k1 (by simpa using q)), k2 := fun q => put_ne _ (by decide) (h'.k2 (by simpa using q)), k3 := fun q => put_ne _ (by decide) (h'.k3 (by simpa using q)), k4 := fun q => put_ne _ (by decide) (h'.k4 (by simpa using q)), k5 := fun q => put_ne _ (by decide) (h'.k5 (by simpa using q)), k6 := fun q => put_ne _ (by decide) (h'.k6 (by simpa using q)), k7 := fun q => put_ne _ (by decide) (h'.k7 (by simpa using q)), k8 := fun q => put_ne _ (by decide) (h'.k8 (by simpa using q)), k9 := fun q => put_ne _ (by decide) (h'.k9 (by simpa using q)), k10 := fun q => put_ne _ (by decide) (h'.k10 (by simpa using q)), k11 := fun _ => put_at _ (by have := h'.off.size; omega), k12 := fun q => put_ne _ (by decide) (h'.k12 (by simpa using q)), k13 := fun q => put_ne _ (by decide) (h'.k13 (by simpa using q)), k14 := fun q => absurd (h'.d14 (by simpa using q)) (by simp [hLi]), k15 := fun q => put_ne _ (by decide) (h'.k15 (by simpa using q)), k16 := fun q => put_ne _ (by decide) (h'.k16 (by simpa using q)), k17 := fun q => put_ne _ (by decide) (h'.k17 (by simpa using q)), be := h'.be.alloc h'.be.size _, d6 := fun q => by simpa using h'.d6 (by simpa using q), d14 := fun _ => by simp, f := fun q => (h'.f (by simpa using q)).next ((Below.refl _ _).alloc (Nat.le_refl _) _), g' := fun _ => Four.fresh _ _ _ _ _ _ }⟩
    | 12, ho, hLi, hK' =>
      cases ho
      have ea := (h'.off.off 1 (by decide)).trans hA1
      go_simp
      exact hK' _ _ ⟨h, g, { off := h'.off.put (by decide) _, k0 := fun q => put_ne _ (by decide) (h'.k0 (by simpa using q)), k1 := fun q => put_ne _ (by decide) (h'.k1 (by simpa using q)), k2 := fun q => put_ne _ (by decide) (h'.k2 (by simpa using q)), k3 := fun q => put_ne _ (by decide) (h'.k3 (by simpa using q)), k4 := fun q => put_ne _ (by decide) (h'.k4 (by simpa using q)), k5 := fun q => put_ne _ (by decide) (h'.k5 (by simpa using q)), k6 := fun q => put_ne _ (by decide) (h'.k6 (by simpa using q)), k7 := fun q => put_ne _ (by decide) (h'.k7 (by simpa using q)), k8 := fun q => put_ne _ (by decide) (h'.k8 (by simpa using q)), k9 := fun q => put_ne _ (by decide) (h'.k9 (by simpa using q)), k10 := fun q => put_ne _ (by decide) (h'.k10 (by simpa using q)), k11 := fun q => put_ne _ (by decide) (h'.k11 (by simpa using q)), k12 := fun _ => put_at _ (by have := h'.off.size; omega), k13 := fun q => put_ne _ (by decide) (h'.k13 (by simpa using q)), k14 := fun q => put_ne _ (by decide) (h'.k14 (by simpa using q)), k15 := fun q => put_ne _ (by decide) (h'.k15 (by simpa using q)), k16 := fun q => put_ne _ (by decide) (h'.k16 (by simpa using q)), k17 := fun q => put_ne _ (by decide) (h'.k17 (by simpa using q)), be := h'.be, d6 := fun q => by simpa using h'.d6 (by simpa using q), d14 := fun q => by simpa using h'.d14 (by simpa using q), f := fun q => h'.f (by simpa using q), g' := fun q => h'.g' (by simpa using q) }⟩
    | 13, ho, hLi, hK' =>
      cases ho
      have ea := h'.k12 (hdeps ⟨12, .data⟩ (by simp) (by rfl))
      go_simp
      exact hK' _ _ ⟨h, g, { off := h'.off.put (by decide) _, k0 := fun q => put_ne _ (by decide) (h'.k0 (by simpa using q)), k1 := fun q => put_ne _ (by decide) (h'.k1 (by simpa using q)), k2 := fun q => put_ne _ (by decide) (h'.k2 (by simpa using q)), k3 := fun q => put_ne _ (by decide) (h'.k3 (by simpa using q)), k4 := fun q => put_ne _ (by decide) (h'.k4 (by simpa using q)), k5 := fun q => put_ne _ (by decide) (h'.k5 (by simpa using q)), k6 := fun q => put_ne _ (by decide) (h'.k6 (by simpa using q)), k7 := fun q => put_ne _ (by decide) (h'.k7 (by simpa using q)), k8 := fun q => put_ne _ (by decide) (h'.k8 (by simpa using q)), k9 := fun q => put_ne _ (by decide) (h'.k9 (by simpa using q)), k10 := fun q => put_ne _ (by decide) (h'.k10 (by simpa using q)), k11 := fun q => put_ne _ (by decide) (h'.k11 (by simpa using q)), k12 := fun q => put_ne _ (by decide) (h'.k12 (by simpa using q)), k13 := fun _ => put_at _ (by have := h'.off.size; omega), k14 := fun q => put_ne _ (by decide) (h'.k14 (by simpa using q)), k15 := fun q => put_ne _ (by decide) (h'.k15 (by simpa using q)), k16 := fun q => put_ne _ (by decide) (h'.k16 (by simpa using q)), k17 := fun q => put_ne _ (by decide) (h'.k17 (by simpa using q)), be := h'.be, d6 := fun q => by simpa using h'.d6 (by simpa using q), d14 := fun q => by simpa using h'.d14 (by simpa using q), f := fun q => h'.f (by simpa using q), g' := fun q => h'.g' (by simpa using q) }⟩
    | 14, ho, hLi, hK' =>
      cases ho
      have h11 := (hdeps ⟨11, .data⟩ (by simp) (by rfl))
      have ea := h'.k11 h11
      have eb := h'.k13 (hdeps ⟨13, .data⟩ (by simp) (by rfl))
      go_simp
      exact hK' _ _ ⟨h, g, { off := h'.off.put (by decide) _, k0 := fun q => put_ne _ (by decide) (h'.k0 (by simpa using q)), k1 := fun q => put_ne _ (by decide) (h'.k1 (by simpa using q)), k2 := fun q => put_ne _ (by decide) (h'.k2 (by simpa using q)), k3 := fun q => put_ne _ (by decide) (h'.k3 (by simpa using q)), k4 := fun q => put_ne _ (by decide) (h'.k4 (by simpa using q)), k5 := fun q => put_ne _ (by decide) (h'.k5 (by simpa using q)), k6 := fun q => put_ne _ (by decide) (h'.k6 (by simpa using q)), k7 := fun q => put_ne _ (by decide) (h'.k7 (by simpa using q)), k8 := fun q => put_ne _ (by decide) (h'.k8 (by simpa using q)), k9 := fun q => put_ne _ (by decide) (h'.k9 (by simpa using q)), k10 := fun q => put_ne _ (by decide) (h'.k10 (by simpa using q)), k11 := fun q => put_ne _ (by decide) (h'.k11 (by simpa using q)), k12 := fun q => put_ne _ (by decide) (h'.k12 (by simpa using q)), k13 := fun q => put_ne _ (by decide) (h'.k13 (by simpa using q)), k14 := fun _ => put_at _ (by have := h'.off.size; omega), k15 := fun q => put_ne _ (by decide) (h'.k15 (by simpa using q)), k16 := fun q => put_ne _ (by decide) (h'.k16 (by simpa using q)), k17 := fun q => put_ne _ (by decide) (h'.k17 (by simpa using q)), be := h'.be, d6 := fun q => by simpa using h'.d6 (by simpa using q), d14 := fun _ => by simpa using h11, f := fun q => h'.f (by simpa using q), g' := fun q => h'.g' (by simpa using q) }⟩
    | 15, ho, hLi, hK' =>
      cases ho
      have h14 := (hdeps ⟨14, .data⟩ (by simp) (by rfl))
      have ea := h'.k14 h14
      have ec : wx.cell? ⟨g, 2, none⟩ = some (.int .i64 (0)) := (h'.g' (h'.d14 h14)).1 2 (by decide)
      go_simp
      exact hK' _ _ ⟨h, g, { off := h'.off.put (by decide) _, k0 := fun q => put_ne _ (by decide) (h'.k0 (by simpa using q)), k1 := fun q => put_ne _ (by decide) (h'.k1 (by simpa using q)), k2 := fun q => put_ne _ (by decide) (h'.k2 (by simpa using q)), k3 := fun q => put_ne _ (by decide) (h'.k3 (by simpa using q)), k4 := fun q => put_ne _ (by decide) (h'.k4 (by simpa using q)), k5 := fun q => put_ne _ (by decide) (h'.k5 (by simpa using q)), k6 := fun q => put_ne _ (by decide) (h'.k6 (by simpa using q)), k7 := fun q => put_ne _ (by decide) (h'.k7 (by simpa using q)), k8 := fun q => put_ne _ (by decide) (h'.k8 (by simpa using q)), k9 := fun q => put_ne _ (by decide) (h'.k9 (by simpa using q)), k10 := fun q => put_ne _ (by decide) (h'.k10 (by simpa using q)), k11 := fun q => put_ne _ (by decide) (h'.k11 (by simpa using q)), k12 := fun q => put_ne _ (by decide) (h'.k12 (by simpa using q)), k13 := fun q => put_ne _ (by decide) (h'.k13 (by simpa using q)), k14 := fun q => put_ne _ (by decide) (h'.k14 (by simpa using q)), k15 := fun _ => put_at _ (by have := h'.off.size; omega), k16 := fun q => put_ne _ (by decide) (h'.k16 (by simpa using q)), k17 := fun q => put_ne _ (by decide) (h'.k17 (by simpa using q)), be := h'.be, d6 := fun q => by simpa using h'.d6 (by simpa using q), d14 := fun q => by simpa using h'.d14 (by simpa using q), f := fun q => h'.f (by simpa using q), g' := fun q => h'.g' (by simpa using q) }⟩
    | 16, ho, hLi, hK' =>
      cases ho
      have ea := h'.k7 (hdeps ⟨7, .data⟩ (by simp) (by rfl))
      go_simp
      exact hK' _ _ ⟨h, g, { off := h'.off.put (by decide) _, k0 := fun q => put_ne _ (by decide) (h'.k0 (by simpa using q)), k1 := fun q => put_ne _ (by decide) (h'.k1 (by simpa using q)), k2 := fun q => put_ne _ (by decide) (h'.k2 (by simpa using q)), k3 := fun q => put_ne _ (by decide) (h'.k3 (by simpa using q)), k4 := fun q => put_ne _ (by decide) (h'.k4 (by simpa using q)), k5 := fun q => put_ne _ (by decide) (h'.k5 (by simpa using q)), k6 := fun q => put_ne _ (by decide) (h'.k6 (by simpa using q)), k7 := fun q => put_ne _ (by decide) (h'.k7 (by simpa using q)), k8 := fun q => put_ne _ (by decide) (h'.k8 (by simpa using q)), k9 := fun q => put_ne _ (by decide) (h'.k9 (by simpa using q)), k10 := fun q => put_ne _ (by decide) (h'.k10 (by simpa using q)), k11 := fun q => put_ne _ (by decide) (h'.k11 (by simpa using q)), k12 := fun q => put_ne _ (by decide) (h'.k12 (by simpa using q)), k13 := fun q => put_ne _ (by decide) (h'.k13 (by simpa using q)), k14 := fun q => put_ne _ (by decide) (h'.k14 (by simpa using q)), k15 := fun q => put_ne _ (by decide) (h'.k15 (by simpa using q)), k16 := fun _ => put_at _ (by have := h'.off.size; omega), k17 := fun q => put_ne _ (by decide) (h'.k17 (by simpa using q)), be := h'.be, d6 := fun q => by simpa using h'.d6 (by simpa using q), d14 := fun q => by simpa using h'.d14 (by simpa using q), f := fun q => h'.f (by simpa using q), g' := fun q => h'.g' (by simpa using q) }⟩
    | 17, ho, hLi, hK' =>
      cases ho
      have ea := h'.k15 (hdeps ⟨15, .data⟩ (by simp) (by rfl))
      go_simp
      exact hK' _ _ ⟨h, g, { off := h'.off.put (by decide) _, k0 := fun q => put_ne _ (by decide) (h'.k0 (by simpa using q)), k1 := fun q => put_ne _ (by decide) (h'.k1 (by simpa using q)), k2 := fun q => put_ne _ (by decide) (h'.k2 (by simpa using q)), k3 := fun q => put_ne _ (by decide) (h'.k3 (by simpa using q)), k4 := fun q => put_ne _ (by decide) (h'.k4 (by simpa using q)), k5 := fun q => put_ne _ (by decide) (h'.k5 (by simpa using q)), k6 := fun q => put_ne _ (by decide) (h'.k6 (by simpa using q)), k7 := fun q => put_ne _ (by decide) (h'.k7 (by simpa using q)), k8 := fun q => put_ne _ (by decide) (h'.k8 (by simpa using q)), k9 := fun q => put_ne _ (by decide) (h'.k9 (by simpa using q)), k10 := fun q => put_ne _ (by decide) (h'.k10 (by simpa using q)), k11 := fun q => put_ne _ (by decide) (h'.k11 (by simpa using q)), k12 := fun q => put_ne _ (by decide) (h'.k12 (by simpa using q)), k13 := fun q => put_ne _ (by decide) (h'.k13 (by simpa using q)), k14 := fun q => put_ne _ (by decide) (h'.k14 (by simpa using q)), k15 := fun q => put_ne _ (by decide) (h'.k15 (by simpa using q)), k16 := fun q => put_ne _ (by decide) (h'.k16 (by simpa using q)), k17 := fun _ => put_at _ (by have := h'.off.size; omega), be := h'.be, d6 := fun q => by simpa using h'.d6 (by simpa using q), d14 := fun q => by simpa using h'.d14 (by simpa using q), f := fun q => h'.f (by simpa using q), g' := fun q => h'.g' (by simpa using q) }⟩
    | i + 18, ho, hLi, hK' => cases ho
  · intro L a wx hI hall
    obtain ⟨h, g, h'⟩ := hI
    have hfr := h'.off.rebuild (fun d => if d = 6 then .int .i64 (r) else if d = 7 then .int .i64 (r) else if d = 8 then .int .i64 (-r) else if d = 9 then .slice (some ⟨h, 0, none⟩) 4 4 else if d = 10 then .int .i64 (6) else if d = 11 then .int .i64 (2) else if d = 12 then .pointer (some ⟨h, 2, none⟩) else if d = 13 then .int .i64 (-r) else if d = 14 then .int .i64 (r) else if d = 15 then .int .i64 (r) else if d = 16 then .int .i64 (-r) else if d = 17 then .slice (some ⟨g, 0, none⟩) 4 4 else if d = 18 then .int .i64 (6) else if d = 19 then .int .i64 (2) else if d = 20 then .pointer (some ⟨g, 2, none⟩) else if d = 21 then .int .i64 (0) else if d = 4 then .int .i64 (-r) else if d = 5 then .int .i64 (0) else undef) (by
      intro d hd
      simp only [List.mem_cons, List.not_mem_nil, or_false] at hd
      rcases hd with rfl | rfl | rfl | rfl | rfl | rfl | rfl | rfl | rfl | rfl | rfl | rfl | rfl | rfl | rfl | rfl | rfl | rfl
      · exact h'.k0 (hall 0 (by decide))
      · exact h'.k1 (hall 1 (by decide))
      · exact h'.k2 (hall 2 (by decide))
      · exact h'.k3 (hall 3 (by decide))
      · exact h'.k4 (hall 4 (by decide))
      · exact h'.k5 (hall 5 (by decide))
      · exact h'.k6 (hall 6 (by decide))
      · exact h'.k7 (hall 7 (by decide))
      · exact h'.k8 (hall 8 (by decide))
      · exact h'.k9 (hall 9 (by decide))
      · exact h'.k10 (hall 10 (by decide))
      · exact h'.k11 (hall 11 (by decide))
      · exact h'.k12 (hall 12 (by decide))
      · exact h'.k13 (hall 13 (by decide))
      · exact h'.k14 (hall 14 (by decide))
      · exact h'.k15 (hall 15 (by decide))
      · exact h'.k16 (hall 16 (by decide))
      · exact h'.k17 (hall 17 (by decide))
      )
    simp only [List.foldl_cons, List.foldl_nil] at hfr
    rw [← HA.out] at hfr
    have hB := h'.be
    rw [hfr]
    clear hfr h' hall HA hsz hA0 hA1
    simp [Act.put]
    go_wp2_with fail
    go_ret2
    exact ⟨rfl, hB⟩
theorem turned_any (r k : Int) (w : World) (h1 : 0 ≤ r) (h2 : r ≤ 1000000) (k1 : 0 ≤ k) (k2 : k ≤ 6) :
    Calls Try.prog 53 #[.int .i64 r, .int .i64 k] w fun e w' => e = .returned (.tuple #[.int .i64 (tuX r k), .int .i64 (tuY r k)]) ∧ Below w.heap.size w w' := by
  have : k = 0 ∨ k = 1 ∨ k = 2 ∨ k = 3 ∨ k = 4 ∨ k = 5 ∨ k = 6 := by omega
  rcases this with rfl | rfl | rfl | rfl | rfl | rfl | rfl
  · exact turned_0 r w h1 h2
  · exact turned_1 r w h1 h2
  · exact turned_2 r w h1 h2
  · exact turned_3 r w h1 h2
  · exact turned_4 r w h1 h2
  · exact turned_5 r w h1 h2
  · exact turned_6 r w h1 h2
end Go.Proofs.Ytkjjoclbjkpdaaa
