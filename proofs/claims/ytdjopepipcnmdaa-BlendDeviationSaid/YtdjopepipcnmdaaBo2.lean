/- Proved here: Dot and OnSegment of the reference; ranges as stated. -/
import Derived.Test.YtdjopepipcnmdaaBn1
import Derived.Test.YtdjopepipcnmdaaLr5
import Derived.Test.YtdjopepipcnmdaaRi
namespace Go.Proofs.Ytdjopepipcnmdaa
open Go.RowKit
set_option linter.unusedVariables false
set_option linter.unusedSimpArgs false
def dtD (a0 a1 a2 b0 b1 b2 : Int) : Int := a0 * b0 + a1 * b1 + a2 * b2
theorem mul_bdW {x y : Int} (h1 : -67108864 ≤ x) (h2 : x ≤ 67108864) (h3 : -67108864 ≤ y) (h4 : y ≤ 67108864) : -4503599627370496 ≤ x * y ∧ x * y ≤ 4503599627370496 := by
  have e : (x * y).natAbs ≤ 67108864 * 67108864 := by rw [Int.natAbs_mul]; exact Nat.mul_le_mul (by omega) (by omega)
  omega
set_option maxHeartbeats 2000000 in
theorem dotR_any (a0 a1 a2 b0 b1 b2 : Int) (w : World) (ha0 : -67108864 ≤ a0 ∧ a0 ≤ 67108864) (ha1 : -67108864 ≤ a1 ∧ a1 ≤ 67108864) (ha2 : -67108864 ≤ a2 ∧ a2 ≤ 67108864) (hb0 : -67108864 ≤ b0 ∧ b0 ≤ 67108864) (hb1 : -67108864 ≤ b1 ∧ b1 ≤ 67108864) (hb2 : -67108864 ≤ b2 ∧ b2 ≤ 67108864) :
    Calls Try.prog 39 #[.agg #[.int .i64 a0, .int .i64 a1, .int .i64 a2], .agg #[.int .i64 b0, .int .i64 b1, .int .i64 b2]] w fun e w' => e = .returned (.int .i64 (dtD a0 a1 a2 b0 b1 b2)) ∧ Below w.heap.size w w' := by
  obtain ⟨m0, n0⟩ := mul_bdW ha0.1 ha0.2 hb0.1 hb0.2
  obtain ⟨m1, n1⟩ := mul_bdW ha1.1 ha1.2 hb1.1 hb1.2
  obtain ⟨m2, n2⟩ := mul_bdW ha2.1 ha2.2 hb2.1 hb2.2
  have HD : Hid (dtD a0 a1 a2 b0 b1 b2 = a0 * b0 + a1 * b1 + a2 * b2) := rfl
  generalize dtD a0 a1 a2 b0 b1 b2 = D at *
  clear ha0 ha1 ha2 hb0 hb1 hb2
  go_enter Try.func39, Try.ntmps39
  go_wp2_with fail
  go_ret
  refine ⟨by rw [HD.out]; rfl, ?_⟩
  (repeat (first | exact Below.refl _ _ | assumption | refine Below.drew ?_ | (refine Below.alloc ?_ (by simp <;> omega) _) | (refine Below.setCell ?_ (by simp <;> omega) _)))
def ogB (a0 a1 a2 b0 b1 b2 p0 p1 p2 e : Int) : Bool :=
  if dtD (b0 - a0) (b1 - a1) (b2 - a2) (p0 - a0) (p1 - a1) (p2 - a2) ≤ 0 then decide (dtD (p0 - a0) (p1 - a1) (p2 - a2) (p0 - a0) (p1 - a1) (p2 - a2) ≤ e * e)
  else if dtD (b0 - a0) (b1 - a1) (b2 - a2) (b0 - a0) (b1 - a1) (b2 - a2) ≤ dtD (b0 - a0) (b1 - a1) (b2 - a2) (p0 - a0) (p1 - a1) (p2 - a2) then decide (sqD b0 b1 b2 p0 p1 p2 ≤ e * e)
  else decide (cmpZ ((dtD (p0 - a0) (p1 - a1) (p2 - a2) (p0 - a0) (p1 - a1) (p2 - a2) - e * e) * dtD (b0 - a0) (b1 - a1) (b2 - a2) (b0 - a0) (b1 - a1) (b2 - a2)) (dtD (b0 - a0) (b1 - a1) (b2 - a2) (p0 - a0) (p1 - a1) (p2 - a2) * dtD (b0 - a0) (b1 - a1) (b2 - a2) (p0 - a0) (p1 - a1) (p2 - a2)) ≤ 0)
theorem cmpZ_bd3 (P Q : Int) : -1 ≤ cmpZ P Q ∧ cmpZ P Q ≤ 1 := by unfold cmpZ; (repeat' split) <;> omega
theorem dtD_bd {a0 a1 a2 b0 b1 b2 : Int} (ha0 : -67108864 ≤ a0 ∧ a0 ≤ 67108864) (ha1 : -67108864 ≤ a1 ∧ a1 ≤ 67108864) (ha2 : -67108864 ≤ a2 ∧ a2 ≤ 67108864) (hb0 : -67108864 ≤ b0 ∧ b0 ≤ 67108864) (hb1 : -67108864 ≤ b1 ∧ b1 ≤ 67108864) (hb2 : -67108864 ≤ b2 ∧ b2 ≤ 67108864) : -13510798882111488 ≤ dtD a0 a1 a2 b0 b1 b2 ∧ dtD a0 a1 a2 b0 b1 b2 ≤ 13510798882111488 := by
  have m0 := mul_bdW ha0.1 ha0.2 hb0.1 hb0.2
  have m1 := mul_bdW ha1.1 ha1.2 hb1.1 hb1.2
  have m2 := mul_bdW ha2.1 ha2.2 hb2.1 hb2.2
  unfold dtD; omega
structure OsI (w0 : World) (a0 a1 a2 b0 b1 b2 p0 p1 p2 : Int) (A : Act) (g0 g1 : Nat) (L : Nat → Bool) (a : Act) (w : World) : Prop where
  off : OffOf [13, 14, 15, 16, 17, 18, 9, 10] A a
  lf : Lf w0.heap.size (w0.heap.size + 1 + 1 + 1) [(⟨w0.heap.size, 0, none⟩, .int .i64 a0), (⟨w0.heap.size, 1, none⟩, .int .i64 a1), (⟨w0.heap.size, 2, none⟩, .int .i64 a2), (⟨w0.heap.size + 1, 0, none⟩, .int .i64 b0), (⟨w0.heap.size + 1, 1, none⟩, .int .i64 b1), (⟨w0.heap.size + 1, 2, none⟩, .int .i64 b2), (⟨w0.heap.size + 1 + 1, 0, none⟩, .int .i64 p0), (⟨w0.heap.size + 1 + 1, 1, none⟩, .int .i64 p1), (⟨w0.heap.size + 1 + 1, 2, none⟩, .int .i64 p2)] w0 w
  kv0 : L 0 = true → a.tmps[13]? = some (.agg #[.int .i64 b0, .int .i64 b1, .int .i64 b2])
  kv1 : L 1 = true → a.tmps[14]? = some (.agg #[.int .i64 a0, .int .i64 a1, .int .i64 a2])
  kv2 : L 2 = true → a.tmps[15]? = some (.agg #[.int .i64 (b0 - a0), .int .i64 (b1 - a1), .int .i64 (b2 - a2)])
  kv3 : L 3 = true → a.tmps[16]? = some (.agg #[.int .i64 p0, .int .i64 p1, .int .i64 p2])
  kv4 : L 4 = true → a.tmps[17]? = some (.agg #[.int .i64 a0, .int .i64 a1, .int .i64 a2])
  kv5 : L 5 = true → a.tmps[18]? = some (.agg #[.int .i64 (p0 - a0), .int .i64 (p1 - a1), .int .i64 (p2 - a2)])
  kp0 : L 6 = true → a.tmps[9]? = some (.pointer (some ⟨g0, 0, none⟩))
  kn0 : L 6 = true → (w0.heap.size + 1 + 1 + 1) ≤ g0 ∧ Row g0 3 0 (fun i => .int .i64 (cp (b0 - a0) (b1 - a1) (b2 - a2) i)) w
  ks0 : L 8 = true → Row g0 3 3 (fun i => .int .i64 (cp (b0 - a0) (b1 - a1) (b2 - a2) i)) w
  kd0 : L 8 = true → L 6 = true
  kp1 : L 7 = true → a.tmps[10]? = some (.pointer (some ⟨g1, 0, none⟩))
  kn1 : L 7 = true → (w0.heap.size + 1 + 1 + 1) ≤ g1 ∧ Row g1 3 0 (fun i => .int .i64 (cp (p0 - a0) (p1 - a1) (p2 - a2) i)) w
  ks1 : L 9 = true → Row g1 3 3 (fun i => .int .i64 (cp (p0 - a0) (p1 - a1) (p2 - a2) i)) w
  kd1 : L 9 = true → L 7 = true
  ke01 : L 6 = true → L 7 = true → g0 ≠ g1
set_option maxHeartbeats 8000000 in
set_option maxRecDepth 20000 in
theorem onseg_any (a0 a1 a2 b0 b1 b2 p0 p1 p2 e : Int) (w : World) (ha : Pk a0 a1 a2) (hb : Pk b0 b1 b2) (hp : Pk p0 p1 p2) (he : 0 ≤ e) (he2 : e ≤ 16002) :
    Calls Try.prog 26 #[.agg #[.int .i64 a0, .int .i64 a1, .int .i64 a2], .agg #[.int .i64 b0, .int .i64 b1, .int .i64 b2], .agg #[.int .i64 p0, .int .i64 p1, .int .i64 p2], .int .i64 e] w fun x w' => x = .returned (.bool (ogB a0 a1 a2 b0 b1 b2 p0 p1 p2 e)) ∧ Below w.heap.size w w' := by
  obtain ⟨x1, x2, x3, x4, x5, x6⟩ := ha
  obtain ⟨y1, y2, y3, y4, y5, y6⟩ := hb
  obtain ⟨z1, z2, z3, z4, z5, z6⟩ := hp
  have MU := fun w => Lib.hid (minusR_any b0 b1 b2 a0 a1 a2 w (by omega) (by omega) (by omega))
  have MQ := fun w => Lib.hid (minusR_any p0 p1 p2 a0 a1 a2 w (by omega) (by omega) (by omega))
  have DUU := fun w => Lib.hid (dotR_any (b0 - a0) (b1 - a1) (b2 - a2) (b0 - a0) (b1 - a1) (b2 - a2) w (by omega) (by omega) (by omega) (by omega) (by omega) (by omega))
  have DUQ := fun w => Lib.hid (dotR_any (b0 - a0) (b1 - a1) (b2 - a2) (p0 - a0) (p1 - a1) (p2 - a2) w (by omega) (by omega) (by omega) (by omega) (by omega) (by omega))
  have DQQ := fun w => Lib.hid (dotR_any (p0 - a0) (p1 - a1) (p2 - a2) (p0 - a0) (p1 - a1) (p2 - a2) w (by omega) (by omega) (by omega) (by omega) (by omega) (by omega))
  have SQ := fun w => Lib.hid (square_any b0 b1 b2 p0 p1 p2 w (by omega) (by omega) (by omega))
  have kn := dtD_bd (a0 := b0 - a0) (a1 := b1 - a1) (a2 := b2 - a2) (b0 := b0 - a0) (b1 := b1 - a1) (b2 := b2 - a2) (by omega) (by omega) (by omega) (by omega) (by omega) (by omega)
  have kt := dtD_bd (a0 := b0 - a0) (a1 := b1 - a1) (a2 := b2 - a2) (b0 := p0 - a0) (b1 := p1 - a1) (b2 := p2 - a2) (by omega) (by omega) (by omega) (by omega) (by omega) (by omega)
  have kq := dtD_bd (a0 := p0 - a0) (a1 := p1 - a1) (a2 := p2 - a2) (b0 := p0 - a0) (b1 := p1 - a1) (b2 := p2 - a2) (by omega) (by omega) (by omega) (by omega) (by omega) (by omega)
  have HG : Hid (ogB a0 a1 a2 b0 b1 b2 p0 p1 p2 e = if dtD (b0 - a0) (b1 - a1) (b2 - a2) (p0 - a0) (p1 - a1) (p2 - a2) ≤ 0 then decide (dtD (p0 - a0) (p1 - a1) (p2 - a2) (p0 - a0) (p1 - a1) (p2 - a2) ≤ e * e) else if dtD (b0 - a0) (b1 - a1) (b2 - a2) (b0 - a0) (b1 - a1) (b2 - a2) ≤ dtD (b0 - a0) (b1 - a1) (b2 - a2) (p0 - a0) (p1 - a1) (p2 - a2) then decide (sqD b0 b1 b2 p0 p1 p2 ≤ e * e) else decide (cmpZ ((dtD (p0 - a0) (p1 - a1) (p2 - a2) (p0 - a0) (p1 - a1) (p2 - a2) - e * e) * dtD (b0 - a0) (b1 - a1) (b2 - a2) (b0 - a0) (b1 - a1) (b2 - a2)) (dtD (b0 - a0) (b1 - a1) (b2 - a2) (p0 - a0) (p1 - a1) (p2 - a2) * dtD (b0 - a0) (b1 - a1) (b2 - a2) (p0 - a0) (p1 - a1) (p2 - a2)) ≤ 0)) := rfl
  have he3 : 0 ≤ e * e ∧ e * e ≤ 256064004 := ⟨Int.mul_nonneg he he, Int.mul_le_mul he2 he2 he (by decide)⟩
  obtain ⟨he3, he4⟩ := he3
  generalize ogB a0 a1 a2 b0 b1 b2 p0 p1 p2 e = G at *
  generalize dtD (b0 - a0) (b1 - a1) (b2 - a2) (b0 - a0) (b1 - a1) (b2 - a2) = n at *
  generalize dtD (b0 - a0) (b1 - a1) (b2 - a2) (p0 - a0) (p1 - a1) (p2 - a2) = t at *
  generalize dtD (p0 - a0) (p1 - a1) (p2 - a2) (p0 - a0) (p1 - a1) (p2 - a2) = qq at *
  generalize sqD b0 b1 b2 p0 p1 p2 = s at *
  obtain ⟨kn1, kn2⟩ := kn
  obtain ⟨kt1, kt2⟩ := kt
  obtain ⟨kq1, kq2⟩ := kq
  have CM : ∀ w, Hid (Calls Try.prog 40 #[.int .i64 (qq - e * e), .int .i64 n, .int .i64 t, .int .i64 t] w fun x w' => x = .returned (.int .i64 (cmpZ ((qq - e * e) * n) (t * t))) ∧ Below w.heap.size w w') := fun w => CmpR_any (qq - e * e) n t t w (by omega) (by omega) (by omega) (by omega) (by omega) (by omega) (by omega) (by omega)
  have kc1 := cmpZ_bd3 ((qq - e * e) * n) (t * t)
  obtain ⟨kc1, kc2⟩ := kc1
  generalize cmpZ ((qq - e * e) * n) (t * t) = cz at *
  clear x1 x2 x3 x4 x5 x6 y1 y2 y3 y4 y5 y6 z1 z2 z3 z4 z5 z6 he he2
  have hT : Lf w.heap.size (w.heap.size + 1 + 1 + 1) [(⟨w.heap.size, 0, none⟩, .int .i64 a0), (⟨w.heap.size, 1, none⟩, .int .i64 a1), (⟨w.heap.size, 2, none⟩, .int .i64 a2), (⟨w.heap.size + 1, 0, none⟩, .int .i64 b0), (⟨w.heap.size + 1, 1, none⟩, .int .i64 b1), (⟨w.heap.size + 1, 2, none⟩, .int .i64 b2), (⟨w.heap.size + 1 + 1, 0, none⟩, .int .i64 p0), (⟨w.heap.size + 1 + 1, 1, none⟩, .int .i64 p1), (⟨w.heap.size + 1 + 1, 2, none⟩, .int .i64 p2)] w (((w.alloc (.cells #[.int .i64 a0, .int .i64 a1, .int .i64 a2] 23)).alloc (.cells #[.int .i64 b0, .int .i64 b1, .int .i64 b2] 23)).alloc (.cells #[.int .i64 p0, .int .i64 p1, .int .i64 p2] 23)) := ⟨by simp [List.forall_mem_cons, go_sem], by simp [List.forall_mem_cons, go_sem], by simp [List.forall_mem_cons] <;> omega, by simp, by (repeat (first | exact Below.refl _ _ | assumption | refine Below.drew ?_ | (refine Below.alloc ?_ (by simp <;> omega) _) | (refine Below.setCell ?_ (by simp <;> omega) _))), by omega⟩
  go_enter Try.func26, Try.ntmps26
  go_upto_region 1 with fail
  refine wp_cls (Lf w.heap.size (w.heap.size + 1 + 1 + 1) [(⟨w.heap.size, 0, none⟩, .int .i64 a0), (⟨w.heap.size, 1, none⟩, .int .i64 a1), (⟨w.heap.size, 2, none⟩, .int .i64 a2), (⟨w.heap.size + 1, 0, none⟩, .int .i64 b0), (⟨w.heap.size + 1, 1, none⟩, .int .i64 b1), (⟨w.heap.size + 1, 2, none⟩, .int .i64 b2), (⟨w.heap.size + 1 + 1, 0, none⟩, .int .i64 p0), (⟨w.heap.size + 1 + 1, 1, none⟩, .int .i64 p1), (⟨w.heap.size + 1 + 1, 2, none⟩, .int .i64 p2)] w) hT ?_
  clear hT
  intro w1 hT
  generalize hA : (Act.mk _ _) = A
  have hsz : A.tmps.size = 58 := by rw [← hA]; rfl
  have hA4 : A.tmps[4]? = some (.pointer (some ⟨w.heap.size, 0, none⟩)) := by rw [← hA]; rfl
  have hA5 : A.tmps[5]? = some (.pointer (some ⟨w.heap.size + 1, 0, none⟩)) := by rw [← hA]; rfl
  have hA6 : A.tmps[6]? = some (.pointer (some ⟨w.heap.size + 1 + 1, 0, none⟩)) := by rw [← hA]; rfl
  have HA := Lib.hid hA
  clear hA
  refine wp_region_inv (fun L a wx => ∃ g0 g1, OsI w a0 a1 a2 b0 b1 b2 p0 p1 p2 A g0 g1 L a wx) (by kernel_rfl) (by kernel_rfl) ?_ ?_ ?_
  · exact ⟨0, 0, by constructor <;> first | exact OffOf.refl _ _ | exact hT.next (Below.refl _ _).drew | (intro h; exact nomatch h) | (intro h h'; exact nomatch h)⟩
  · clear hT
    intro i o ho L a wx hI hLi hdeps K hK
    obtain ⟨g0, g1, h⟩ := hI
    match i, ho, hLi, hK with

    | 0, ho, hLi, hK =>
      cases ho
      have ea := (h.off.off 5 (by decide)).trans hA5
      have kc := h.lf.cells
      simp only [List.forall_mem_cons, List.not_mem_nil, false_implies, implies_true, and_true] at kc
      obtain ⟨yc0, yc1, yc2, yc3, yc4, yc5, yc6, yc7, yc8⟩ := kc
      go_simp
      exact hK _ _ ⟨g0, g1, { off := h.off.put (by decide) _, lf := h.lf, kv0 := fun _ => put_at _ (by have := h.off.size; omega), kv1 := fun q => put_ne _ (by decide) (h.kv1 (by simpa using q)), kv2 := fun q => put_ne _ (by decide) (h.kv2 (by simpa using q)), kv3 := fun q => put_ne _ (by decide) (h.kv3 (by simpa using q)), kv4 := fun q => put_ne _ (by decide) (h.kv4 (by simpa using q)), kv5 := fun q => put_ne _ (by decide) (h.kv5 (by simpa using q)), kp0 := fun q => put_ne _ (by decide) (h.kp0 (by simpa using q)), kn0 := fun q => h.kn0 (by simpa using q), ks0 := fun q => h.ks0 (by simpa using q), kd0 := fun q => by simpa using h.kd0 (by simpa using q), kp1 := fun q => put_ne _ (by decide) (h.kp1 (by simpa using q)), kn1 := fun q => h.kn1 (by simpa using q), ks1 := fun q => h.ks1 (by simpa using q), kd1 := fun q => by simpa using h.kd1 (by simpa using q), ke01 := fun q r => h.ke01 (by simpa using q) (by simpa using r) }⟩
    | 1, ho, hLi, hK =>
      cases ho
      have ea := (h.off.off 4 (by decide)).trans hA4
      have kc := h.lf.cells
      simp only [List.forall_mem_cons, List.not_mem_nil, false_implies, implies_true, and_true] at kc
      obtain ⟨yc0, yc1, yc2, yc3, yc4, yc5, yc6, yc7, yc8⟩ := kc
      go_simp
      exact hK _ _ ⟨g0, g1, { off := h.off.put (by decide) _, lf := h.lf, kv0 := fun q => put_ne _ (by decide) (h.kv0 (by simpa using q)), kv1 := fun _ => put_at _ (by have := h.off.size; omega), kv2 := fun q => put_ne _ (by decide) (h.kv2 (by simpa using q)), kv3 := fun q => put_ne _ (by decide) (h.kv3 (by simpa using q)), kv4 := fun q => put_ne _ (by decide) (h.kv4 (by simpa using q)), kv5 := fun q => put_ne _ (by decide) (h.kv5 (by simpa using q)), kp0 := fun q => put_ne _ (by decide) (h.kp0 (by simpa using q)), kn0 := fun q => h.kn0 (by simpa using q), ks0 := fun q => h.ks0 (by simpa using q), kd0 := fun q => by simpa using h.kd0 (by simpa using q), kp1 := fun q => put_ne _ (by decide) (h.kp1 (by simpa using q)), kn1 := fun q => h.kn1 (by simpa using q), ks1 := fun q => h.ks1 (by simpa using q), kd1 := fun q => by simpa using h.kd1 (by simpa using q), ke01 := fun q r => h.ke01 (by simpa using q) (by simpa using r) }⟩
    | 2, ho, hLi, hK =>
      cases ho
      have ea := h.kv0 (hdeps ⟨0, .data⟩ (by simp) (by rfl))
      have eb := h.kv1 (hdeps ⟨1, .data⟩ (by simp) (by rfl))
      go_simp
      refine (MU _).out.mono ?_
      rintro e w2 ⟨rfl, hb⟩
      exact hK _ _ ⟨g0, g1, { off := h.off.put (by decide) _, lf := h.lf.next hb, kv0 := fun q => put_ne _ (by decide) (h.kv0 (by simpa using q)), kv1 := fun q => put_ne _ (by decide) (h.kv1 (by simpa using q)), kv2 := fun _ => put_at _ (by have := h.off.size; omega), kv3 := fun q => put_ne _ (by decide) (h.kv3 (by simpa using q)), kv4 := fun q => put_ne _ (by decide) (h.kv4 (by simpa using q)), kv5 := fun q => put_ne _ (by decide) (h.kv5 (by simpa using q)), kp0 := fun q => put_ne _ (by decide) (h.kp0 (by simpa using q)), kn0 := fun q => ⟨(h.kn0 (by simpa using q)).1, ((h.kn0 (by simpa using q)).2).next hb⟩, ks0 := fun q => (h.ks0 (by simpa using q)).next hb, kd0 := fun q => by simpa using h.kd0 (by simpa using q), kp1 := fun q => put_ne _ (by decide) (h.kp1 (by simpa using q)), kn1 := fun q => ⟨(h.kn1 (by simpa using q)).1, ((h.kn1 (by simpa using q)).2).next hb⟩, ks1 := fun q => (h.ks1 (by simpa using q)).next hb, kd1 := fun q => by simpa using h.kd1 (by simpa using q), ke01 := fun q r => h.ke01 (by simpa using q) (by simpa using r) }⟩
    | 3, ho, hLi, hK =>
      cases ho
      have ea := (h.off.off 6 (by decide)).trans hA6
      have kc := h.lf.cells
      simp only [List.forall_mem_cons, List.not_mem_nil, false_implies, implies_true, and_true] at kc
      obtain ⟨yc0, yc1, yc2, yc3, yc4, yc5, yc6, yc7, yc8⟩ := kc
      go_simp
      exact hK _ _ ⟨g0, g1, { off := h.off.put (by decide) _, lf := h.lf, kv0 := fun q => put_ne _ (by decide) (h.kv0 (by simpa using q)), kv1 := fun q => put_ne _ (by decide) (h.kv1 (by simpa using q)), kv2 := fun q => put_ne _ (by decide) (h.kv2 (by simpa using q)), kv3 := fun _ => put_at _ (by have := h.off.size; omega), kv4 := fun q => put_ne _ (by decide) (h.kv4 (by simpa using q)), kv5 := fun q => put_ne _ (by decide) (h.kv5 (by simpa using q)), kp0 := fun q => put_ne _ (by decide) (h.kp0 (by simpa using q)), kn0 := fun q => h.kn0 (by simpa using q), ks0 := fun q => h.ks0 (by simpa using q), kd0 := fun q => by simpa using h.kd0 (by simpa using q), kp1 := fun q => put_ne _ (by decide) (h.kp1 (by simpa using q)), kn1 := fun q => h.kn1 (by simpa using q), ks1 := fun q => h.ks1 (by simpa using q), kd1 := fun q => by simpa using h.kd1 (by simpa using q), ke01 := fun q r => h.ke01 (by simpa using q) (by simpa using r) }⟩
    | 4, ho, hLi, hK =>
      cases ho
      have ea := (h.off.off 4 (by decide)).trans hA4
      have kc := h.lf.cells
      simp only [List.forall_mem_cons, List.not_mem_nil, false_implies, implies_true, and_true] at kc
      obtain ⟨yc0, yc1, yc2, yc3, yc4, yc5, yc6, yc7, yc8⟩ := kc
      go_simp
      exact hK _ _ ⟨g0, g1, { off := h.off.put (by decide) _, lf := h.lf, kv0 := fun q => put_ne _ (by decide) (h.kv0 (by simpa using q)), kv1 := fun q => put_ne _ (by decide) (h.kv1 (by simpa using q)), kv2 := fun q => put_ne _ (by decide) (h.kv2 (by simpa using q)), kv3 := fun q => put_ne _ (by decide) (h.kv3 (by simpa using q)), kv4 := fun _ => put_at _ (by have := h.off.size; omega), kv5 := fun q => put_ne _ (by decide) (h.kv5 (by simpa using q)), kp0 := fun q => put_ne _ (by decide) (h.kp0 (by simpa using q)), kn0 := fun q => h.kn0 (by simpa using q), ks0 := fun q => h.ks0 (by simpa using q), kd0 := fun q => by simpa using h.kd0 (by simpa using q), kp1 := fun q => put_ne _ (by decide) (h.kp1 (by simpa using q)), kn1 := fun q => h.kn1 (by simpa using q), ks1 := fun q => h.ks1 (by simpa using q), kd1 := fun q => by simpa using h.kd1 (by simpa using q), ke01 := fun q r => h.ke01 (by simpa using q) (by simpa using r) }⟩
    | 5, ho, hLi, hK =>
      cases ho
      have ea := h.kv3 (hdeps ⟨3, .data⟩ (by simp) (by rfl))
      have eb := h.kv4 (hdeps ⟨4, .data⟩ (by simp) (by rfl))
      go_simp
      refine (MQ _).out.mono ?_
      rintro e w2 ⟨rfl, hb⟩
      exact hK _ _ ⟨g0, g1, { off := h.off.put (by decide) _, lf := h.lf.next hb, kv0 := fun q => put_ne _ (by decide) (h.kv0 (by simpa using q)), kv1 := fun q => put_ne _ (by decide) (h.kv1 (by simpa using q)), kv2 := fun q => put_ne _ (by decide) (h.kv2 (by simpa using q)), kv3 := fun q => put_ne _ (by decide) (h.kv3 (by simpa using q)), kv4 := fun q => put_ne _ (by decide) (h.kv4 (by simpa using q)), kv5 := fun _ => put_at _ (by have := h.off.size; omega), kp0 := fun q => put_ne _ (by decide) (h.kp0 (by simpa using q)), kn0 := fun q => ⟨(h.kn0 (by simpa using q)).1, ((h.kn0 (by simpa using q)).2).next hb⟩, ks0 := fun q => (h.ks0 (by simpa using q)).next hb, kd0 := fun q => by simpa using h.kd0 (by simpa using q), kp1 := fun q => put_ne _ (by decide) (h.kp1 (by simpa using q)), kn1 := fun q => ⟨(h.kn1 (by simpa using q)).1, ((h.kn1 (by simpa using q)).2).next hb⟩, ks1 := fun q => (h.ks1 (by simpa using q)).next hb, kd1 := fun q => by simpa using h.kd1 (by simpa using q), ke01 := fun q r => h.ke01 (by simpa using q) (by simpa using r) }⟩
    | 6, ho, hLi, hK =>
      cases ho
      go_simp
      exact hK _ _ ⟨wx.heap.size, g1, { off := h.off.put (by decide) _, lf := h.lf.next ((Below.refl _ _).alloc (Nat.le_refl _) _), kv0 := fun q => put_ne _ (by decide) (h.kv0 (by simpa using q)), kv1 := fun q => put_ne _ (by decide) (h.kv1 (by simpa using q)), kv2 := fun q => put_ne _ (by decide) (h.kv2 (by simpa using q)), kv3 := fun q => put_ne _ (by decide) (h.kv3 (by simpa using q)), kv4 := fun q => put_ne _ (by decide) (h.kv4 (by simpa using q)), kv5 := fun q => put_ne _ (by decide) (h.kv5 (by simpa using q)), kp0 := fun _ => put_at _ (by have := h.off.size; omega), kn0 := fun _ => ⟨h.lf.lt, Row.fresh _ _ _ _ _ _⟩, ks0 := fun q => absurd (h.kd0 (by simpa using q)) (by simp [hLi]), kd0 := fun _ => by simp, kp1 := fun q => put_ne _ (by decide) (h.kp1 (by simpa using q)), kn1 := fun q => ⟨(h.kn1 (by simpa using q)).1, ((h.kn1 (by simpa using q)).2).next ((Below.refl _ _).alloc (Nat.le_refl _) _)⟩, ks1 := fun q => (h.ks1 (by simpa using q)).next ((Below.refl _ _).alloc (Nat.le_refl _) _), kd1 := fun q => by simpa using h.kd1 (by simpa using q), ke01 := fun _ q => fun e => absurd (h.kn1 (by simpa using q)).2.lt (by omega) }⟩
    | 7, ho, hLi, hK =>
      cases ho
      go_simp
      exact hK _ _ ⟨g0, wx.heap.size, { off := h.off.put (by decide) _, lf := h.lf.next ((Below.refl _ _).alloc (Nat.le_refl _) _), kv0 := fun q => put_ne _ (by decide) (h.kv0 (by simpa using q)), kv1 := fun q => put_ne _ (by decide) (h.kv1 (by simpa using q)), kv2 := fun q => put_ne _ (by decide) (h.kv2 (by simpa using q)), kv3 := fun q => put_ne _ (by decide) (h.kv3 (by simpa using q)), kv4 := fun q => put_ne _ (by decide) (h.kv4 (by simpa using q)), kv5 := fun q => put_ne _ (by decide) (h.kv5 (by simpa using q)), kp0 := fun q => put_ne _ (by decide) (h.kp0 (by simpa using q)), kn0 := fun q => ⟨(h.kn0 (by simpa using q)).1, ((h.kn0 (by simpa using q)).2).next ((Below.refl _ _).alloc (Nat.le_refl _) _)⟩, ks0 := fun q => (h.ks0 (by simpa using q)).next ((Below.refl _ _).alloc (Nat.le_refl _) _), kd0 := fun q => by simpa using h.kd0 (by simpa using q), kp1 := fun _ => put_at _ (by have := h.off.size; omega), kn1 := fun _ => ⟨h.lf.lt, Row.fresh _ _ _ _ _ _⟩, ks1 := fun q => absurd (h.kd1 (by simpa using q)) (by simp [hLi]), kd1 := fun _ => by simp, ke01 := fun q _ => fun e => absurd (h.kn0 (by simpa using q)).2.lt (by omega) }⟩
    | 8, ho, hLi, hK =>
      cases ho
      have hl := hdeps ⟨6, .data⟩ (by simp) (by rfl)
      have ea := h.kp0 hl
      have eb := h.kv2 (hdeps ⟨2, .data⟩ (by simp) (by rfl))
      obtain ⟨hN, hr⟩ := h.kn0 hl
      obtain ⟨u0, hu0⟩ := hr.ex 0 (by decide)
      obtain ⟨u1, hu1⟩ := hr.ex 1 (by decide)
      obtain ⟨u2, hu2⟩ := hr.ex 2 (by decide)
      have hf0 := hr.frz 0 (by decide)
      have hf1 := hr.frz 1 (by decide)
      have hf2 := hr.frz 2 (by decide)
      go_simp
      exact hK _ _ ⟨g0, g1, { off := h.off, lf := ((h.lf.far _ _ _ hN).far _ _ _ hN).far _ _ _ hN, kv0 := fun q => h.kv0 (by simpa using q), kv1 := fun q => h.kv1 (by simpa using q), kv2 := fun q => h.kv2 (by simpa using q), kv3 := fun q => h.kv3 (by simpa using q), kv4 := fun q => h.kv4 (by simpa using q), kv5 := fun q => h.kv5 (by simpa using q), kp0 := fun q => h.kp0 (by simpa using q), kn0 := fun q => ⟨hN, (((h.kn0 hl).2.put 0 _ (by decide) (by decide)).put 1 _ (by decide) (by decide)).put 2 _ (by decide) (by decide)⟩, ks0 := fun _ => (((h.kn0 hl).2.step _ (by decide) rfl).step _ (by decide) rfl).step _ (by decide) rfl, kd0 := fun _ => by simpa using hl, kp1 := fun q => h.kp1 (by simpa using q), kn1 := fun q => ⟨(h.kn1 (by simpa using q)).1, Row.other3 (h.kn1 (by simpa using q)).2 (fun e => h.ke01 hl (by simpa using q) e.symm) _ _ _⟩, ks1 := fun q => Row.other3 (h.ks1 (by simpa using q)) (fun e => h.ke01 hl (h.kd1 (by simpa using q)) e.symm) _ _ _, kd1 := fun q => by simpa using h.kd1 (by simpa using q), ke01 := fun q r => h.ke01 (by simpa using q) (by simpa using r) }⟩
    | 9, ho, hLi, hK =>
      cases ho
      have hl := hdeps ⟨7, .data⟩ (by simp) (by rfl)
      have ea := h.kp1 hl
      have eb := h.kv5 (hdeps ⟨5, .data⟩ (by simp) (by rfl))
      obtain ⟨hN, hr⟩ := h.kn1 hl
      obtain ⟨u0, hu0⟩ := hr.ex 0 (by decide)
      obtain ⟨u1, hu1⟩ := hr.ex 1 (by decide)
      obtain ⟨u2, hu2⟩ := hr.ex 2 (by decide)
      have hf0 := hr.frz 0 (by decide)
      have hf1 := hr.frz 1 (by decide)
      have hf2 := hr.frz 2 (by decide)
      go_simp
      exact hK _ _ ⟨g0, g1, { off := h.off, lf := ((h.lf.far _ _ _ hN).far _ _ _ hN).far _ _ _ hN, kv0 := fun q => h.kv0 (by simpa using q), kv1 := fun q => h.kv1 (by simpa using q), kv2 := fun q => h.kv2 (by simpa using q), kv3 := fun q => h.kv3 (by simpa using q), kv4 := fun q => h.kv4 (by simpa using q), kv5 := fun q => h.kv5 (by simpa using q), kp0 := fun q => h.kp0 (by simpa using q), kn0 := fun q => ⟨(h.kn0 (by simpa using q)).1, Row.other3 (h.kn0 (by simpa using q)).2 (h.ke01 (by simpa using q) hl) _ _ _⟩, ks0 := fun q => Row.other3 (h.ks0 (by simpa using q)) (h.ke01 (h.kd0 (by simpa using q)) hl) _ _ _, kd0 := fun q => by simpa using h.kd0 (by simpa using q), kp1 := fun q => h.kp1 (by simpa using q), kn1 := fun q => ⟨hN, (((h.kn1 hl).2.put 0 _ (by decide) (by decide)).put 1 _ (by decide) (by decide)).put 2 _ (by decide) (by decide)⟩, ks1 := fun _ => (((h.kn1 hl).2.step _ (by decide) rfl).step _ (by decide) rfl).step _ (by decide) rfl, kd1 := fun _ => by simpa using hl, ke01 := fun q r => h.ke01 (by simpa using q) (by simpa using r) }⟩
    | n + 10, ho, hLi, hK => cases ho
  · clear hT
    intro L a wx hI hall
    obtain ⟨g0, g1, h⟩ := hI
    have hfr := h.off.rebuild (fun d => if d = 13 then .agg #[.int .i64 b0, .int .i64 b1, .int .i64 b2] else if d = 14 then .agg #[.int .i64 a0, .int .i64 a1, .int .i64 a2] else if d = 15 then .agg #[.int .i64 (b0 - a0), .int .i64 (b1 - a1), .int .i64 (b2 - a2)] else if d = 16 then .agg #[.int .i64 p0, .int .i64 p1, .int .i64 p2] else if d = 17 then .agg #[.int .i64 a0, .int .i64 a1, .int .i64 a2] else if d = 18 then .agg #[.int .i64 (p0 - a0), .int .i64 (p1 - a1), .int .i64 (p2 - a2)] else if d = 9 then .pointer (some ⟨g0, 0, none⟩) else if d = 10 then .pointer (some ⟨g1, 0, none⟩) else undef) (by
      intro d hd
      simp only [List.mem_cons, List.not_mem_nil, or_false] at hd
      rcases hd with rfl | rfl | rfl | rfl | rfl | rfl | rfl | rfl
      · exact h.kv0 (hall 0 (by decide))
      · exact h.kv1 (hall 1 (by decide))
      · exact h.kv2 (hall 2 (by decide))
      · exact h.kv3 (hall 3 (by decide))
      · exact h.kv4 (hall 4 (by decide))
      · exact h.kv5 (hall 5 (by decide))
      · exact h.kp0 (hall 6 (by decide))
      · exact h.kp1 (hall 7 (by decide))
      )
    simp only [List.foldl_cons, List.foldl_nil] at hfr
    rw [← HA.out] at hfr
    have r0 := h.ks0 (hall 8 (by decide))
    have r1 := h.ks1 (hall 9 (by decide))
    have n0 := (h.kn0 (hall 6 (by decide))).1
    have n1 := (h.kn1 (hall 7 (by decide))).1
    have ne := h.ke01 (hall 6 (by decide)) (hall 7 (by decide))
    have hR : Lf w.heap.size wx.heap.size [(⟨g0, 0, none⟩, .int .i64 (b0 - a0)), (⟨g0, 1, none⟩, .int .i64 (b1 - a1)), (⟨g0, 2, none⟩, .int .i64 (b2 - a2)), (⟨g1, 0, none⟩, .int .i64 (p0 - a0)), (⟨g1, 1, none⟩, .int .i64 (p1 - a1)), (⟨g1, 2, none⟩, .int .i64 (p2 - a2)), (⟨w.heap.size, 0, none⟩, .int .i64 a0), (⟨w.heap.size, 1, none⟩, .int .i64 a1), (⟨w.heap.size, 2, none⟩, .int .i64 a2), (⟨w.heap.size + 1, 0, none⟩, .int .i64 b0), (⟨w.heap.size + 1, 1, none⟩, .int .i64 b1), (⟨w.heap.size + 1, 2, none⟩, .int .i64 b2), (⟨w.heap.size + 1 + 1, 0, none⟩, .int .i64 p0), (⟨w.heap.size + 1 + 1, 1, none⟩, .int .i64 p1), (⟨w.heap.size + 1 + 1, 2, none⟩, .int .i64 p2)] w wx := lf_two h.lf r0 r1 n0 n1
    clear h r0 r1 hall
    rw [hfr]
    clear hfr
    simp [Act.put]
    obtain ⟨M, hM⟩ : ∃ M, wx.heap.size = M := ⟨_, rfl⟩
    rw [hM] at hR
    clear hM
    go_wp2_with fail
    (refine wp_region_class (Lf w.heap.size M [(⟨g0, 0, none⟩, .int .i64 (b0 - a0)), (⟨g0, 1, none⟩, .int .i64 (b1 - a1)), (⟨g0, 2, none⟩, .int .i64 (b2 - a2)), (⟨g1, 0, none⟩, .int .i64 (p0 - a0)), (⟨g1, 1, none⟩, .int .i64 (p1 - a1)), (⟨g1, 2, none⟩, .int .i64 (p2 - a2)), (⟨w.heap.size, 0, none⟩, .int .i64 a0), (⟨w.heap.size, 1, none⟩, .int .i64 a1), (⟨w.heap.size, 2, none⟩, .int .i64 a2), (⟨w.heap.size + 1, 0, none⟩, .int .i64 b0), (⟨w.heap.size + 1, 1, none⟩, .int .i64 b1), (⟨w.heap.size + 1, 2, none⟩, .int .i64 b2), (⟨w.heap.size + 1 + 1, 0, none⟩, .int .i64 p0), (⟨w.heap.size + 1 + 1, 1, none⟩, .int .i64 p1), (⟨w.heap.size + 1 + 1, 2, none⟩, .int .i64 p2)] w) (hR.next (Below.refl _ _).drew) (by kernel_rfl) (by kernel_rfl) ?_; repeat (refine wpQuiet_step (fun qK9 qH9 => ?_); go_simp; first | (refine qH9 _ ?_; clear qH9 qK9) | (apply Exists.intro; refine ⟨?_, qH9 _ ?_⟩; (first | (intros; rfl) | (first | (intro wx hC; ((have qk9 := (hC).cells; simp only [List.forall_mem_cons, List.not_mem_nil, false_implies, implies_true, and_true] at qk9; repeat (obtain ⟨qk8, qk9⟩ := qk9)); go_simp; first | done | rfl)) | (intro wx hC; with_reducible exact Calls.lays (DUU wx).out (fun _ => hC.next)) | (intro wx hC; with_reducible exact Calls.lays (DUQ wx).out (fun _ => hC.next)))); clear qH9 qK9)))
    refine wpQuiet_nil ?_
    clear hR
    intro wz hR
    have kc := hR.cells
    have kf := hR.frz
    simp only [List.forall_mem_cons, List.not_mem_nil, false_implies, implies_true, and_true] at kc kf
    obtain ⟨yc0, yc1, yc2, yc3, yc4, yc5, yc6, yc7, yc8, yc9, yc10, yc11, yc12, yc13, yc14⟩ := kc
    obtain ⟨yf0, yf1, yf2, yf3, yf4, yf5, yf6, yf7, yf8, yf9, yf10, yf11, yf12, yf13, yf14⟩ := kf
    by_cases ht : t ≤ 0
    · have HG : Hid (G = decide (qq ≤ e * e)) := by show G = _; rw [HG.out, if_pos ht]
      go_wp2_with fail
      refine (DQQ _).out.mono ?_
      rintro e w5 ⟨rfl, hb5⟩
      have hR := hR.next hb5
      go_wp2_with fail
      go_ret
      exact ⟨by rw [HG.out]; rfl, hR.be⟩
    · have HG : Hid (G = if n ≤ t then decide (s ≤ e * e) else decide (cz ≤ 0)) := by show G = _; rw [HG.out, if_neg ht]
      by_cases hn : n ≤ t
      · have HG : Hid (G = decide (s ≤ e * e)) := by show G = _; rw [HG.out, if_pos hn]
        go_wp2_with fail
        refine (SQ _).out.mono ?_
        rintro e w5 ⟨rfl, hb5⟩
        have hR := hR.next hb5
        go_wp2_with fail
        go_ret
        exact ⟨by rw [HG.out]; rfl, hR.be⟩
      · have HG : Hid (G = decide (cz ≤ 0)) := by show G = _; rw [HG.out, if_neg hn]
        go_wp2_with fail
        refine (DQQ _).out.mono ?_
        rintro e w5 ⟨rfl, hb5⟩
        have hR := hR.next hb5
        go_wp2_with fail
        refine (CM _).out.mono ?_
        rintro e w6 ⟨rfl, hb6⟩
        have hR := hR.next hb6
        go_wp2_with fail
        go_ret
        exact ⟨by rw [HG.out]; rfl, hR.be⟩
end Go.Proofs.Ytdjopepipcnmdaa