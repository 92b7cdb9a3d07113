/- Proved here: Middle of the program and of the reference give the same at any two spokes; which spokes are small; the laws CurveMiddle and CurveMiddleCircle; no conditions but that integers are ints. -/
import Derived.Test.YtkjjoclbjkpdaaaKm2R
import Derived.Test.YtkjjoclbjkpdaaaKc3R
namespace Go.Proofs.Ytkjjoclbjkpdaaa
open Go.RowKit
set_option linter.unusedVariables false
set_option linter.unusedSimpArgs false
/-- what is known of a middle -/
structure Mid (aU aW aR aH bU bW bR bH dir : Int) (full : Bool) (m0 m1 m2 m3 : Int) (ok : Bool) : Prop where
  no : ok = false → m0 = 0 ∧ m1 = 0 ∧ m2 = 0 ∧ m3 = 0
  yes : ok = true → m2 = (aR + bR + 1) / 2 ∧ m3 = (aH + bH + 1) / 2 ∧ m0 = nrI (mdU aU aW bU bW dir full) ((aR + bR + 1) / 2) (mdU aU aW bU bW dir full * mdU aU aW bU bW dir full + mdW aU aW bU bW dir full * mdW aU aW bU bW dir full) ∧ m1 = nrI (mdW aU aW bU bW dir full) ((aR + bR + 1) / 2) (mdU aU aW bU bW dir full * mdU aU aW bU bW dir full + mdW aU aW bU bW dir full * mdW aU aW bU bW dir full)
  is : ok = true ↔ (dir = 1 ∨ dir = -1) ∧ ¬ (mdU aU aW bU bW dir full = 0 ∧ mdW aU aW bU bW dir full = 0)
theorem wp_cls {P : Program} {c : Code} {Q : Exit → Act → World → Prop} {a : Act} {W : World} (C : World → Prop) (h : C W) (k : ∀ wx, C wx → c.wp P Q a wx) : c.wp P Q a W := k W h
theorem Lf.cut {B n m : Nat} {cs ds : List (Addr × Value)} {w0 w : World} (h : Lf B n cs w0 w) (hs : ∀ p ∈ ds, p ∈ cs) (hi : ∀ p ∈ ds, p.1.block < m) (h1 : B ≤ m) (h2 : m ≤ n) : Lf B m ds w0 w :=
  ⟨fun p hp => h.cells p (hs p hp), fun p hp => h.frz p (hs p hp), hi, Nat.le_trans h2 h.lt, h.be, h1⟩
theorem mdU_bd {aU aW aR aH bU bW bR bH dir : Int} {full : Bool} (sa : Sp aU aW aR aH) (sb : Sp bU bW bR bH) (hd : dir = 1 ∨ dir = -1) : -94906268 ≤ mdU aU aW bU bW dir full ∧ mdU aU aW bU bW dir full ≤ 94906268 := by
  obtain ⟨a1, a2, a3, a4, a5, a6, a7, a8⟩ := sa
  obtain ⟨b1, b2, b3, b4, b5, b6, b7, b8⟩ := sb
  have m4 := dir_mul hd (x := bW - aW) (by omega) (by omega)
  unfold mdU; (repeat' split) <;> omega
theorem mdW_bd {aU aW aR aH bU bW bR bH dir : Int} {full : Bool} (sa : Sp aU aW aR aH) (sb : Sp bU bW bR bH) (hd : dir = 1 ∨ dir = -1) : -94906268 ≤ mdW aU aW bU bW dir full ∧ mdW aU aW bU bW dir full ≤ 94906268 := by
  obtain ⟨a1, a2, a3, a4, a5, a6, a7, a8⟩ := sa
  obtain ⟨b1, b2, b3, b4, b5, b6, b7, b8⟩ := sb
  have m5 := dir_mul hd (x := aU - bU) (by omega) (by omega)
  unfold mdW; (repeat' split) <;> omega
theorem sum_pos {u v : Int} (h : ¬ (u = 0 ∧ v = 0)) (q1 : 0 ≤ u * u) (q2 : 0 ≤ v * v) : 1 ≤ u * u + v * v := by
  by_cases hu : u = 0
  · have := sq_pos (x := v) (fun e => h ⟨hu, e⟩); omega
  · have := sq_pos hu; omega
theorem mid_any (aU aW aR aH bU bW bR bH dir : Int) (full : Bool) (sa : Sp aU aW aR aH) (sb : Sp bU bW bR bH) :
    ∃ (m0 m1 m2 m3 : Int) (ok : Bool), Mid aU aW aR aH bU bW bR bH dir full m0 m1 m2 m3 ok ∧ (∀ w, Hid (Calls Try.prog 26 #[.agg #[.int .i64 aU, .int .i64 aW, .int .i64 aR, .int .i64 aH], .agg #[.int .i64 bU, .int .i64 bW, .int .i64 bR, .int .i64 bH], .int .i64 dir, .bool full] w fun e w' => e = .returned (.tuple #[.agg #[.int .i64 m0, .int .i64 m1, .int .i64 m2, .int .i64 m3], .bool ok]) ∧ Below w.heap.size w w')) ∧ (∀ w, Hid (Calls Try.prog 59 #[.agg #[.int .i64 aU, .int .i64 aW, .int .i64 aR, .int .i64 aH], .agg #[.int .i64 bU, .int .i64 bW, .int .i64 bR, .int .i64 bH], .int .i64 dir, .bool full] w fun e w' => e = .returned (.tuple #[.agg #[.int .i64 m0, .int .i64 m1, .int .i64 m2, .int .i64 m3], .bool ok]) ∧ Below w.heap.size w w')) := by
  by_cases hd : dir = 1 ∨ dir = -1
  · have hP : ∀ (u v : Int) (w : World), Hid (mdU aU aW bU bW dir full = u) → Hid (mdW aU aW bU bW dir full = v) → Calls Try.prog 26 #[.agg #[.int .i64 aU, .int .i64 aW, .int .i64 aR, .int .i64 aH], .agg #[.int .i64 bU, .int .i64 bW, .int .i64 bR, .int .i64 bH], .int .i64 dir, .bool full] w fun e w' => e = .returned (if u = 0 ∧ v = 0 then .tuple #[.agg #[.int .i64 0, .int .i64 0, .int .i64 0, .int .i64 0], .bool false] else .tuple #[.agg #[.int .i64 (ovV u ((aR + bR + 1) / 2) (u * u + v * v) 2), .int .i64 (ovV v ((aR + bR + 1) / 2) (u * u + v * v) 2), .int .i64 ((aR + bR + 1) / 2), .int .i64 ((aH + bH + 1) / 2)], .bool true]) ∧ Below w.heap.size w w' := by
      intro u v w hU hV
      rcases hd with rfl | rfl
      · exact middleP_p aU aW aR aH bU bW bR bH full u v w sa sb hU hV
      · exact middleP_m aU aW aR aH bU bW bR bH full u v w sa sb hU hV
    have hR : ∀ (u v : Int) (w : World), Hid (mdU aU aW bU bW dir full = u) → Hid (mdW aU aW bU bW dir full = v) → Calls Try.prog 59 #[.agg #[.int .i64 aU, .int .i64 aW, .int .i64 aR, .int .i64 aH], .agg #[.int .i64 bU, .int .i64 bW, .int .i64 bR, .int .i64 bH], .int .i64 dir, .bool full] w fun e w' => e = .returned (if u = 0 ∧ v = 0 then .tuple #[.agg #[.int .i64 0, .int .i64 0, .int .i64 0, .int .i64 0], .bool false] else .tuple #[.agg #[.int .i64 (nrI u ((aR + bR + 1) / 2) (u * u + v * v)), .int .i64 (nrI v ((aR + bR + 1) / 2) (u * u + v * v)), .int .i64 ((aR + bR + 1) / 2), .int .i64 ((aH + bH + 1) / 2)], .bool true]) ∧ Below w.heap.size w w' := by
      intro u v w hU hV
      rcases hd with rfl | rfl
      · exact middleR_p aU aW aR aH bU bW bR bH full u v w sa sb hU hV
      · exact middleR_m aU aW aR aH bU bW bR bH full u v w sa sb hU hV
    have bu := mdU_bd (full := full) sa sb hd
    have bv := mdW_bd (full := full) sa sb hd
    have hP := fun w => hP _ _ w rfl rfl
    have hR := fun w => hR _ _ w rfl rfl
    have ha := sa.r1; have ha2 := sa.r2; have hb := sb.r1; have hb2 := sb.r2
    have is : ∀ ok : Bool, (ok = true ↔ ¬ (mdU aU aW bU bW dir full = 0 ∧ mdW aU aW bU bW dir full = 0)) → (ok = true ↔ (dir = 1 ∨ dir = -1) ∧ ¬ (mdU aU aW bU bW dir full = 0 ∧ mdW aU aW bU bW dir full = 0)) := fun ok h => ⟨fun g => ⟨hd, h.1 g⟩, fun g => h.2 g.2⟩
    by_cases hz : mdU aU aW bU bW dir full = 0 ∧ mdW aU aW bU bW dir full = 0
    · refine ⟨0, 0, 0, 0, false, ⟨fun _ => ⟨rfl, rfl, rfl, rfl⟩, fun h => (nomatch h), is _ ⟨fun h => (nomatch h), fun h => absurd hz h⟩⟩, fun w => ?_, fun w => ?_⟩
      · have h := hP w; rw [if_pos hz] at h; exact h
      · have h := hR w; rw [if_pos hz] at h; exact h
    · have qu := sq_bdK bu.1 bu.2
      have qv := sq_bdK bv.1 bv.2
      have np := sum_pos hz qu.1 qv.1
      have hU := near_ov (mdU aU aW bU bW dir full) ((aR + bR + 1) / 2) (mdU aU aW bU bW dir full * mdU aU aW bU bW dir full + mdW aU aW bU bW dir full * mdW aU aW bU bW dir full) bu.1 bu.2 (by omega) (by omega) np (by omega) (by have := natAbs_sq' (mdU aU aW bU bW dir full); omega)
      have hV := near_ov (mdW aU aW bU bW dir full) ((aR + bR + 1) / 2) (mdU aU aW bU bW dir full * mdU aU aW bU bW dir full + mdW aU aW bU bW dir full * mdW aU aW bU bW dir full) bv.1 bv.2 (by omega) (by omega) np (by omega) (by have := natAbs_sq' (mdW aU aW bU bW dir full); omega)
      refine ⟨_, _, _, _, true, ⟨fun h => (nomatch h), fun _ => ⟨rfl, rfl, rfl, rfl⟩, is _ ⟨fun _ => hz, fun _ => rfl⟩⟩, fun w => ?_, fun w => ?_⟩
      · have h := hP w; rw [if_neg hz, hU.1, hV.1] at h; exact h
      · have h := hR w; rw [if_neg hz] at h; exact h
  · refine ⟨0, 0, 0, 0, false, ⟨fun _ => ⟨rfl, rfl, rfl, rfl⟩, fun h => (nomatch h), ⟨fun h => (nomatch h), fun h => absurd h.1 hd⟩⟩, fun w => ?_, fun w => ?_⟩
    · exact middleP_dir aU aW aR aH bU bW bR bH dir full w (fun e => hd (Or.inl e)) (fun e => hd (Or.inr e))
    · exact middleR_dir aU aW aR aH bU bW bR bH dir full w (fun e => hd (Or.inl e)) (fun e => hd (Or.inr e))
end Go.Proofs.Ytkjjoclbjkpdaaa
