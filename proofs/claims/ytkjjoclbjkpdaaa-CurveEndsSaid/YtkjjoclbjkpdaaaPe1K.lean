/- Proved here: CurveEnds: the chords of a motion begin and end exactly where it does. -/
import Derived.Test.YtkjjoclbjkpdaaaNm3K
import Derived.Test.YtkjjoclbjkpdaaaKa5K
namespace Go.Proofs.Ytkjjoclbjkpdaaa
open Go.RowKit
set_option linter.unusedVariables false
set_option linter.unusedSimpArgs false
theorem itL_len (t : Itm) : (itL t).length = 22 := rfl
theorem flat22 : ∀ (l : List Itm) (i : Nat) (h : i < l.length) (j : Nat), j < 22 → (l.flatMap itL)[i * 22 + j]? = (itL l[i])[j]?
  | t :: l, 0, h, j, hj => by
    rw [List.flatMap_cons, List.getElem?_append_left (by rw [itL_len]; omega), Nat.zero_mul, Nat.zero_add]; rfl
  | t :: l, i + 1, h, j, hj => by
    rw [List.flatMap_cons, List.getElem?_append_right (by rw [itL_len]; omega), itL_len, show (i + 1) * 22 + j - 22 = i * 22 + j by omega]
    exact flat22 l i (by simpa using h) j hj
theorem row_item {w : World} {B g cap : Nat} {l : List Itm} (h : w.ownsRow B 27 22 (.slice (some ⟨g, 0, none⟩) l.length cap) l.length (l.flatMap itL)) (i : Nat) (hi : i < l.length) : w.rangeAt g (i * 22) (itL l[i]) := by
  intro j v hj
  have hj2 : j < 22 := (List.getElem?_eq_some_iff.1 hj).1
  rw [h.cellAt (i * 22 + j) (by omega), flat22 l i hi j hj2]
  exact hj
theorem Itm.Go.pos {t : Itm} (h : t.Go) : In 1048576 t.fx t.fy t.fz ∧ In 1048576 t.tx t.ty t.tz := by
  rcases h with ⟨m, r, s, k, q, hm, h⟩ | h
  · exact ⟨h.pos.pf, h.pos.pt⟩
  · exact h.2
set_option maxHeartbeats 16000000 in
set_option maxRecDepth 40000 in
theorem law_ends (b0 : Nat) (v : Value) (size : Int) (w : World) (hb : b0 ≤ w.heap.size) (hv : Ns b0 v w) (h1 : -9223372036854775808 ≤ size) (h2 : size ≤ 9223372036854775807) :
    Calls Try.prog 8 #[v, .int .i64 size] w fun e w' => e = .returned (.bool true) ∧ Below w.heap.size w w' := by
  have MT := fun (n : Int) (w : World) (n1 : 0 ≤ n) (n2 : n ≤ 5) (hb : b0 ≤ w.heap.size) (hv : Ns b0 v w) => Lib.hid (Motions_any b0 v n w n1 n2 hb hv)
  have AW := fun w => Lib.hid (awake_any w)
  have MO := fun w => Lib.hid (mod_any size 6 w h1 h2 (by decide) (by decide))
  go_enter Try.func8, Try.ntmps8
  go_wp2_with fail
  refine (AW _).out.mono ?_
  rintro e w1 ⟨rfl, hb1⟩
  go_wp2_with fail
  refine (MO _).out.mono ?_
  rintro e w2 ⟨n, rfl, n0, n1, rfl⟩
  go_wp2_with fail
  refine (MT _ _ (by omega) (by omega) (Nat.le_trans hb hb1.size) (hv.keep (fun k hk => hb1.block k (by omega)))).out.mono ?_
  rintro e w3 ⟨l, v', rfl, hO, hGo, hl5, hb3⟩
  have hB := hb1.trans (hb3.mono hb1.size)
  clear hb1 hb3 MT AW MO hv
  by_cases hl0 : l.length = 0
  · obtain ⟨ao, cap, rfl⟩ : ∃ ao cap, v' = .slice ao l.length cap := by
      rcases hO.2 with ⟨rfl, h⟩ | ⟨g, cap, _, rfl, _⟩
      · exact ⟨none, 0, by rw [h]⟩
      · exact ⟨_, _, rfl⟩
    rewrite [hl0]
    clear hO hGo hl5 hl0
    go_wp2_with fail
    go_loopw [16] (fun t wr => t = .int .i64 0 ∧ Below w.heap.size w wr) (fun _ _ => 0)
    case atStart => exact ⟨rfl, hB⟩
    case round =>
    clear hB
    obtain ⟨rfl, hB⟩ := hrel
    go_wp2_with fail
    go_ret
    exact ⟨rfl, hB⟩
  · obtain ⟨g, cap, rfl, hgb, hgl⟩ := hO.form (by omega)
    have hT : (Both (fun wx => wx.ownsRow w1.heap.size 27 22 (.slice (some ⟨g, 0, none⟩) l.length cap) l.length (l.flatMap itL)) (Below w.heap.size w)) w3 := ⟨hO, hB⟩
    clear hO hB
    go_wp2_with fail
    --CUT1
    go_loopw [16] (fun t wr => ∃ i : Nat, i ≤ l.length ∧ t = .int .i64 (i : Int) ∧ (Both (fun wx => wx.ownsRow w1.heap.size 27 22 (.slice (some ⟨g, 0, none⟩) l.length cap) l.length (l.flatMap itL)) (Below w.heap.size w)) wr) (fun t _ => l.length - (intOf t).toNat)
    case atStart => exact ⟨0, Nat.zero_le _, rfl, hT⟩
    case round =>
    clear hT
    obtain ⟨i, hin, rfl, hT⟩ := hrel
    by_cases hi : i < l.length
    · have hlt : (i : Int) < (l.length : Int) := by omega
      have hG := hGo l[i] (List.getElem_mem hi)
      have EP := fun w => Lib.hid (endP_any l[i] w hG)
      obtain ⟨⟨⟨f1, f2⟩, ⟨f3, f4⟩, f5, f6⟩, ⟨t1, t2⟩, ⟨t3, t4⟩, t5, t6⟩ := hG.pos
      have FF := fun w => Lib.hid (fineR_any l[i].fx l[i].fy l[i].fz w ⟨by omega, by omega⟩ ⟨by omega, by omega⟩ ⟨by omega, by omega⟩)
      have FT := fun w => Lib.hid (fineR_any l[i].tx l[i].ty l[i].tz w ⟨by omega, by omega⟩ ⟨by omega, by omega⟩ ⟨by omega, by omega⟩)
      clear hG hGo f1 f2 f3 f4 f5 f6 t1 t2 t3 t4 t5 t6
      have hri := row_item hT.l i hi
      go_upto_region 6 with (first | (refine wpList_load_g (by rfl) 27 (.tmp 18) rfl g (i * 22) rfl (itL l[i]) _ hri Try.underlying27 rfl (by kernel_rfl) ?_) | (refine wpList_store_mid rfl 27 (.tmp 6) (.tmp 19) rfl _ 0 (itL l[i]).toArray rfl rfl (zero_there wr _) (by kernel_rfl) (one_itL l[i]) ?_))
      --CUT2
      clear hri
      obtain ⟨k, hk⟩ : ∃ k, wr.heap.size = k := ⟨_, rfl⟩
      have hI := ItC.stored l[i] wr 27
      have hbs := stored_below l[i] wr 27
      have hT : (Both (fun wx => wx.ownsRow w1.heap.size 27 22 (.slice (some ⟨g, 0, none⟩) l.length cap) l.length (l.flatMap itL)) (Below w.heap.size w)) ((wr.alloc (.cells zeroI 27)).setCells wr.heap.size 0 (itL l[i])) := ⟨ownsRow_nx hT.l hbs, hT.r.trans (hbs.mono hT.r.size)⟩
      rewrite [hk] at hI hT ⊢
      refine wp_cls (fun wx => ItC l[i] k wx ∧ (Both (fun wx => wx.ownsRow w1.heap.size 27 22 (.slice (some ⟨g, 0, none⟩) l.length cap) l.length (l.flatMap itL)) (Below w.heap.size w)) wx) ⟨hI, hT⟩ ?_
      clear hI hT hbs hk
      rintro w6 ⟨hI, hT⟩
      go_wp2_with (refine wpList_load_g (by rfl) 27 (.tmp 6) rfl k 0 rfl (itL l[i]) _ hI.rg Try.underlying27 rfl (by kernel_rfl) ?_)
      --CUT3
      refine (EP _).out.mono ?_
      rintro e w7 ⟨L, c2, g2, F, rfl, hL2, hL5, hP, ⟨q0, q1, q2⟩, ⟨q3, q4, q5⟩, hb1⟩
      have hD : (Both (Both (ItC l[i] k) (Pts g2 L F)) (Both (fun wx => wx.ownsRow w1.heap.size 27 22 (.slice (some ⟨g, 0, none⟩) l.length cap) l.length (l.flatMap itL)) (Below w.heap.size w))) w7 := ⟨⟨hI.next hb1, hP⟩, ⟨ownsRow_nx hT.l hb1, hT.r.trans (hb1.mono hT.r.size)⟩⟩
      clear hb1 EP hI hT hP
      have hdL : decide ((L : Int) < 2) = false := decide_eq_false (by omega)
      have hL2' : ¬ (L : Int) < 2 := by omega
      obtain ⟨m, hm⟩ : ∃ m, L - 1 = m := ⟨_, rfl⟩
      rewrite [hm] at q3 q4 q5
      have eL : (L : Int) - 1 = (m : Int) := by omega
      have hmL : m < L := by omega
      have hmL' : (m : Int) < (L : Int) := by omega
      have wm : IntKind.i64.wrap (m : Int) = (m : Int) := wr_in (by omega) (by omega)
      have hL0 : 0 < L := by omega
      have hL0' : (0 : Int) < (L : Int) := by omega
      have Q0 := Lib.hid q0
      have Q1 := Lib.hid q1
      have Q2 := Lib.hid q2
      have Q3 := Lib.hid q3
      have Q4 := Lib.hid q4
      have Q5 := Lib.hid q5
      clear q0 q1 q2 q3 q4 q5 hm
      go_upto_region 7 with fail
      --CUT4
      (refine wp_region_class (Both (Both (ItC l[i] k) (Pts g2 L F)) (Both (fun wx => wx.ownsRow w1.heap.size 27 22 (.slice (some ⟨g, 0, none⟩) l.length cap) l.length (l.flatMap itL)) (Below w.heap.size w))) ⟨⟨hD.l.l.next (Below.refl _ _).drew, hD.l.r.next (Below.refl _ _).drew⟩, ⟨ownsRow_nx hD.r.l (Below.refl _ _).drew, hD.r.r.drew⟩⟩ (by kernel_rfl) (by kernel_rfl) ?_; repeat (first | go_big_quiet_skip | (refine wpQuiet_step (fun qK9 qH9 => ?_); go_simp; first | (refine qH9 _ ?_; clear qH9 qK9) | (apply Exists.intro; refine ⟨?_, qH9 _ ?_⟩; (first | (intros; rfl) | ((intro wx hC; first | (with_reducible exact Calls.lays (FF wx).out (fun w' hb => ⟨⟨hC.l.l.next hb, hC.l.r.next hb⟩, ⟨ownsRow_nx hC.r.l hb, hC.r.r.trans (hb.mono hC.r.r.size)⟩⟩)) | (with_reducible exact Calls.lays (FT wx).out (fun w' hb => ⟨⟨hC.l.l.next hb, hC.l.r.next hb⟩, ⟨ownsRow_nx hC.r.l hb, hC.r.r.trans (hb.mono hC.r.r.size)⟩⟩)) | ((obtain ⟨e0, e1, e2⟩ := hC.l.r.c 0 hL0); (obtain ⟨d0, d1, d2⟩ := hC.l.r.c m hmL); rewrite [Q0.out] at e0; rewrite [Q1.out] at e1; rewrite [Q2.out] at e2; rewrite [Q3.out] at d0; rewrite [Q4.out] at d1; rewrite [Q5.out] at d2; simp only [Nat.zero_mul, Nat.zero_add] at e0 e1 e2; have y2 : wx.cell? ⟨k, 2, none⟩ = some (.int .i64 l[i].fx) := hC.l.l.rg 2 (.int .i64 l[i].fx) rfl; have y3 : wx.cell? ⟨k, 3, none⟩ = some (.int .i64 l[i].fy) := hC.l.l.rg 3 (.int .i64 l[i].fy) rfl; have y4 : wx.cell? ⟨k, 4, none⟩ = some (.int .i64 l[i].fz) := hC.l.l.rg 4 (.int .i64 l[i].fz) rfl; have y5 : wx.cell? ⟨k, 5, none⟩ = some (.int .i64 l[i].tx) := hC.l.l.rg 5 (.int .i64 l[i].tx) rfl; have y6 : wx.cell? ⟨k, 6, none⟩ = some (.int .i64 l[i].ty) := hC.l.l.rg 6 (.int .i64 l[i].ty) rfl; have y7 : wx.cell? ⟨k, 7, none⟩ = some (.int .i64 l[i].tz) := hC.l.l.rg 7 (.int .i64 l[i].tz) rfl; go_simp; first | done | rfl)))); clear qH9 qK9))))
      --CUT5
      refine wpQuiet_nil ?_
      clear hD
      intro wy hD
      go_wp2_with fail
      go_roundw
      case rel => exact ⟨i + 1, by omega, by go_num, hD.r⟩
      case measure => simp [intOf]; omega
    · go_wp2_with fail
      go_ret
      exact ⟨rfl, hT.r⟩
end Go.Proofs.Ytkjjoclbjkpdaaa
