/- Proved here: CurveHelix: the heights of a helix go from one end to the other without turning back. -/
import Derived.Test.YtkjjoclbjkpdaaaNd8M
import Derived.Test.YtkjjoclbjkpdaaaNc3M
import Derived.Test.YtkjjoclbjkpdaaaKa5M
import Derived.Test.YtkjjoclbjkpdaaaNf2M
namespace Go.Proofs.Ytkjjoclbjkpdaaa
open Go.RowKit
set_option linter.unusedVariables false
set_option linter.unusedSimpArgs false
theorem spF_get {l : List Spk} {i : Nat} (h : i < l.length) (c : Nat) : spF l i c = spq l[i] c := by unfold spF; rw [List.getD_eq_getElem?_getD, List.getElem?_eq_getElem h]; rfl
theorem Itm.spokes_first (t : Itm) : spF t.spokes 0 3 = t.A.h := rfl
theorem Itm.spokes_last (t : Itm) (c : Nat) : spF t.spokes (t.spokes.length - 1) c = spq t.B c := by
  have h := t.spokes_len
  have e : t.spokes.getLast? = some t.B := by
    have hp := pcs_last t.dir 16 t.full t.A t.B
    unfold Itm.spokes
    rw [List.getLast?_cons, hp]; rfl
  rw [spF_get (by omega)]
  rw [List.getLast?_eq_getElem?, List.getElem?_eq_getElem (by omega)] at e
  rw [Option.some.inj e]
theorem helix_facts (t : Itm) (k : Nat) (h1 : 1 ≤ k) (h2 : k < t.spokes.length) :
    (spF t.spokes 0 3 ≤ spF t.spokes (t.spokes.length - 1) 3 → spF t.spokes (k - 1) 3 ≤ spF t.spokes k 3) ∧ (spF t.spokes (t.spokes.length - 1) 3 ≤ spF t.spokes 0 3 → spF t.spokes k 3 ≤ spF t.spokes (k - 1) 3) := by
  rw [t.spokes_last, t.spokes_first, spF_get h2, spF_get (show k - 1 < t.spokes.length by omega)]
  constructor
  · intro h
    have hu := pcs_up t.dir 16 t.full t.A t.B h
    have hp : t.spokes.Pairwise (fun x y => x.h ≤ y.h) := List.pairwise_cons.2 ⟨fun s hs => (hu.1 s hs).1, hu.2⟩
    exact List.pairwise_iff_getElem.1 hp (k - 1) k (by omega) h2 (by omega)
  · intro h
    have hu := pcs_down t.dir 16 t.full t.A t.B h
    have hp : t.spokes.Pairwise (fun x y => y.h ≤ x.h) := List.pairwise_cons.2 ⟨fun s hs => (hu.1 s hs).2, hu.2⟩
    exact List.pairwise_iff_getElem.1 hp (k - 1) k (by omega) h2 (by omega)
set_option maxHeartbeats 16000000 in
set_option maxRecDepth 40000 in
theorem law_helix (b0 : Nat) (v : Value) (size : Int) (w : World) (hb : b0 ≤ w.heap.size) (hv : Ns b0 v w) (h1 : -9223372036854775808 ≤ size) (h2 : size ≤ 9223372036854775807) :
    Calls Try.prog 5 #[v, .int .i64 size] w fun e w' => e = .returned (.bool true) ∧ Below w.heap.size w w' := by
  have ARC := fun (n : Int) (w : World) (n1 : 1 ≤ n) (n2 : n ≤ 20000) (hb : b0 ≤ w.heap.size) (hv : Ns b0 v w) => Lib.hid (Arc_any b0 v n w n1 n2 hb hv)
  have AW := fun w => Lib.hid (awake_any w)
  have MO := fun w => Lib.hid (mod_any size 5000 w h1 h2 (by decide) (by decide))
  go_enter Try.func5, Try.ntmps5
  go_wp2_with fail
  refine (AW _).out.mono ?_
  rintro e w1 ⟨rfl, hb1⟩
  go_wp2_with fail
  refine (MO _).out.mono ?_
  rintro e w2 ⟨n, rfl, n0, n1, rfl⟩
  go_wp2_with fail
  refine (ARC _ _ (by omega) (by omega) (Nat.le_trans hb hb1.size) (hv.keep (fun k hk => hb1.block k (by omega)))).out.mono ?_
  rintro e w3 ⟨t, r, s, k, q, rfl, hM, hb3⟩
  have hB := hb1.trans (hb3.mono hb1.size)
  clear hb1 hb3 ARC MO AW hv
  go_upto_region 4 with (refine wpList_store_mid rfl 27 (.tmp 5) (.tmp 17) rfl _ 0 (itL t).toArray rfl rfl (zero_there w3 _) (by kernel_rfl) (one_itL t) ?_)
  obtain ⟨g, hg⟩ : ∃ g, w3.heap.size = g := ⟨_, rfl⟩
  have hI := ItC.stored t w3 27
  have hB := hB.trans ((stored_below t w3 27).mono hB.size)
  rewrite [hg] at hI hB ⊢
  refine wp_cls (fun wr => ItC t g wr ∧ Below w.heap.size w wr) ⟨hI, hB⟩ ?_
  clear hI hB hg
  rintro w4 ⟨hI, hB⟩
  have hA := hM.arc (by omega)
  have VP := fun w => Lib.hid (ValidP_true t w hM.ok)
  have SP := fun w => Lib.hid (spokesP_any t _ _ _ _ w hA VP)
  have hn := t.spokes_len
  have RS : ∀ (w : World) (v : Value) (B : Nat), w.ownsRow B 34 4 v t.spokes.length (t.spokes.flatMap spc) → ∃ g cap, v = .slice (some ⟨g, 0, none⟩) t.spokes.length cap ∧ B ≤ g ∧ Row g (t.spokes.length * 4) (t.spokes.length * 4) (fun j => .int .i64 (spF t.spokes (j / 4) (j % 4))) w := fun w v B h => row_spokes h (by omega)
  have HX := helix_facts t
  have BD := fun i h => (hA.spF_bd i h).2.2
  clear hA hM VP
  unfold SpokesPost at SP
  generalize spF t.spokes = S at *
  generalize t.spokes.flatMap spc = xs at *
  generalize t.spokes.length = m at *
  go_wp2_with (refine wpList_load_g (by rfl) 27 (.tmp 5) rfl _ 0 rfl (itL t) _ hI.rg Try.underlying27 rfl (by kernel_rfl) ?_)
  refine (SP _).out.mono ?_
  rintro e w5 ⟨v1, rfl, ho1, hb1⟩
  obtain ⟨g1, c1, rfl, -, r1⟩ := RS _ _ _ ho1
  have hT : (Both (Row g1 (m * 4) (m * 4) (fun j => .int .i64 (S (j / 4) (j % 4)))) (Below w.heap.size w)) w5 := ⟨r1, hB.trans (hb1.mono hB.size)⟩
  clear hb1 ho1 SP RS r1 hB hI
  have hm2 : ¬ (m : Int) < 2 := by omega
  go_wp2_with fail
  --CUT1
  have B0 := BD 0 (by omega)
  have BL := BD (m - 1) (by omega)
  obtain ⟨l, hl⟩ : ∃ l, m - 1 = l := ⟨_, rfl⟩
  have eL : (m : Int) - 1 = (l : Int) := by omega
  have hlm : l < m := by omega
  rewrite [hl] at HX BL
  clear hl
  have EL := Lib.hid eL
  clear eL
  go_loopw [8] (fun t wr => ∃ i : Nat, 1 ≤ i ∧ i ≤ m ∧ t = .int .i64 (i : Int) ∧ (Both (Row g1 (m * 4) (m * 4) (fun j => .int .i64 (S (j / 4) (j % 4)))) (Below w.heap.size w)) wr) (fun t _ => m - (intOf t).toNat)
  case atStart => exact ⟨1, Nat.le_refl _, by omega, rfl, hT⟩
  case round =>
  clear hT
  obtain ⟨i, hi1, hin, rfl, hT⟩ := hrel
  by_cases hi : i < m
  · have hlt : (i : Int) < (m : Int) := by omega
    obtain ⟨i', hi'⟩ : ∃ i', i - 1 = i' := ⟨_, rfl⟩
    have H1 := HX i hi1 hi
    have Bi := BD i hi
    have Bj := BD (i - 1) (by omega)
    rewrite [hi'] at H1 Bj
    have hjm : i' < m := by omega
    have ei : (i : Int) - 1 = (i' : Int) := by omega
    clear hi'
    have wd : IntKind.i64.wrap (S i 3 - S i' 3) = S i 3 - S i' 3 := wr_in (by omega) (by omega)
    have wa : IntKind.i64.wrap (S l 3 - S 0 3) = S l 3 - S 0 3 := wr_in (by omega) (by omega)
    have eL := EL.out
    have hm0 : 0 < m := by omega
    have hm0' : (0 : Int) < (m : Int) := by omega
    have hlm' : (l : Int) < (m : Int) := by omega
    have wi : IntKind.i64.wrap (i' : Int) = (i' : Int) := wr_in (by omega) (by omega)
    have wl : IntKind.i64.wrap (l : Int) = (l : Int) := wr_in (by omega) (by omega)
    --CUT2
    go_upto_region 10 with fail
    (refine wp_region_class (Both (Row g1 (m * 4) (m * 4) (fun j => .int .i64 (S (j / 4) (j % 4)))) (Below w.heap.size w)) ⟨hT.l.next (Below.refl _ _).drew, hT.r.drew⟩ (by kernel_rfl) (by kernel_rfl) ?_; repeat (refine wpQuiet_step (fun qK9 qH9 => ?_); go_simp; first | (refine qH9 _ ?_; clear qH9 qK9) | (apply Exists.intro; refine ⟨?_, qH9 _ ?_⟩; (first | (intros; rfl) | ((intro wx hC; (obtain ⟨-, -, -, e3⟩ := hC.l.spoke hi); (obtain ⟨-, -, -, d3⟩ := hC.l.spoke hjm); go_simp; first | done | rfl))); clear qH9 qK9)))
    refine wpQuiet_nil ?_
    clear hT
    intro wy hT
    
    --CUT3
    go_upto_region 11 with fail
    (refine wp_region_class (Both (Row g1 (m * 4) (m * 4) (fun j => .int .i64 (S (j / 4) (j % 4)))) (Below w.heap.size w)) ⟨hT.l.next (Below.refl _ _).drew, hT.r.drew⟩ (by kernel_rfl) (by kernel_rfl) ?_; repeat (refine wpQuiet_step (fun qK9 qH9 => ?_); go_simp; first | (refine qH9 _ ?_; clear qH9 qK9) | (apply Exists.intro; refine ⟨?_, qH9 _ ?_⟩; (first | (intros; rfl) | ((intro wx hC; (obtain ⟨-, -, -, e3⟩ := hC.l.spoke hlm); (obtain ⟨-, -, -, d3⟩ := hC.l.spoke hm0); simp only [Nat.zero_mul, Nat.zero_add] at d3; go_simp; first | done | rfl))); clear qH9 qK9)))
    refine wpQuiet_nil ?_
    clear hT
    intro wy hT
    
    --CUT4
    have q1 : 0 ≤ S l 3 - S 0 3 → 0 ≤ S i 3 - S i' 3 := fun h => by have := H1.1 (by omega); omega
    have q2 : S l 3 - S 0 3 ≤ 0 → S i 3 - S i' 3 ≤ 0 := fun h => by have := H1.2 (by omega); omega
    clear H1 wd wa Bi Bj
    generalize S i 3 - S i' 3 = D at *
    generalize S l 3 - S 0 3 = E at *
    clear ei eL wi wl
    by_cases e1 : 0 ≤ E
    · have d1 := q1 e1
      by_cases e2 : E ≤ 0
      · have d2 := q2 e2
        clear q1 q2
        go_wp2_with fail
        go_roundw
        case rel => exact ⟨i + 1, by omega, by omega, by go_num, hT⟩
        case measure => simp [intOf]; omega
      · clear q1 q2
        go_wp2_with fail
        go_roundw
        case rel => exact ⟨i + 1, by omega, by omega, by go_num, hT⟩
        case measure => simp [intOf]; omega
    · have e2 : E ≤ 0 := by omega
      have d2 := q2 e2
      clear q1 q2
      go_wp2_with fail
      go_roundw
      case rel => exact ⟨i + 1, by omega, by omega, by go_num, hT⟩
      case measure => simp [intOf]; omega
  · go_wp2_with fail
    go_ret
    exact ⟨rfl, hT.r⟩
end Go.Proofs.Ytkjjoclbjkpdaaa
