/- Proved here: CurveBand: every spoke of an arc lies in the band between its two radii, up to 1 of rounding. -/
import Derived.Test.YtkjjoclbjkpdaaaPh1M
namespace Go.Proofs.Ytkjjoclbjkpdaaa
open Go.RowKit
set_option linter.unusedVariables false
set_option linter.unusedSimpArgs false
theorem band_facts (t : Itm) {lo hi hl hh : Int} (hA : t.Arc lo hi hl hh) (hh2 : hi ≤ 400000) (i : Nat) (hi' : i < t.spokes.length) :
    min (spF t.spokes 0 2) (spF t.spokes (t.spokes.length - 1) 2) ≤ spF t.spokes i 2 ∧ spF t.spokes i 2 ≤ max (spF t.spokes 0 2) (spF t.spokes (t.spokes.length - 1) 2) ∧
    (spF t.spokes i 2 - 1) * (spF t.spokes i 2 - 1) ≤ spF t.spokes i 0 * spF t.spokes i 0 + spF t.spokes i 1 * spF t.spokes i 1 ∧ spF t.spokes i 0 * spF t.spokes i 0 + spF t.spokes i 1 * spF t.spokes i 1 ≤ (spF t.spokes i 2 + 1) * (spF t.spokes i 2 + 1) ∧ 128 ≤ spF t.spokes i 2 ∧ spF t.spokes i 2 ≤ 400000 := by
  rw [t.spokes_last, show spF t.spokes 0 2 = t.A.r from rfl, show spq t.B 2 = t.B.r from rfl, spF_get hi', spF_get hi', spF_get hi']
  have ga := hA.ga
  have gb := hA.gb
  have bn := hA.bnd
  have bA : Gd (min t.A.r t.B.r) (max t.A.r t.B.r) hl hh t.A := ⟨by omega, by omega, ga.h0, ga.h1, ga.n0, ga.n1⟩
  have bB : Gd (min t.A.r t.B.r) (max t.A.r t.B.r) hl hh t.B := ⟨by omega, by omega, gb.h0, gb.h1, gb.n0, gb.n1⟩
  have a0 := ga.r0
  have a1 := ga.r1
  have b0 := gb.r0
  have b1 := gb.r1
  have l0 := bn.lo
  have l1 := bn.hi
  have bn' : Bnd (min t.A.r t.B.r) (max t.A.r t.B.r) hl hh := ⟨by omega, by omega, bn.hl, bn.hh⟩
  have hm : t.spokes[i] ∈ t.spokes := List.getElem_mem hi'
  have g : Gd (min t.A.r t.B.r) (max t.A.r t.B.r) hl hh t.spokes[i] := by
    rcases List.mem_cons.1 hm with h | h
    · rw [h]; exact bA
    · exact pcs_gd bn' hA.dir 16 t.full _ _ bA bB _ h
  generalize t.spokes[i] = s at *
  exact ⟨g.r0, g.r1, g.n0, g.n1, by have := g.r0; show 128 ≤ s.r; omega, by have := g.r1; show s.r ≤ 400000; omega⟩
theorem sq_le {x m : Int} (h1 : -m ≤ x) (h2 : x ≤ m) : x * x ≤ m * m := by
  have := sq_nn (m - x)
  have a : 0 ≤ (m - x) * (m + x) := Int.mul_nonneg (by omega) (by omega)
  have e : (m - x) * (m + x) = m * m - x * x := by rw [Int.sub_mul, Int.mul_add, Int.mul_add, Int.mul_comm x m]; omega
  omega
set_option maxHeartbeats 16000000 in
set_option maxRecDepth 40000 in
theorem law_band (b0 : Nat) (v : Value) (size : Int) (w : World) (hb : b0 ≤ w.heap.size) (hv : Ns b0 v w) (h1 : -9223372036854775808 ≤ size) (h2 : size ≤ 9223372036854775807) :
    Calls Try.prog 3 #[v, .int .i64 size] w fun e w' => e = .returned (.bool true) ∧ Below w.heap.size w w' := by
  have ARC := fun (n : Int) (w : World) (n1 : 1 ≤ n) (n2 : n ≤ 20000) (hb : b0 ≤ w.heap.size) (hv : Ns b0 v w) => Lib.hid (Arc_any b0 v n w n1 n2 hb hv)
  have AW := fun w => Lib.hid (awake_any w)
  have MO := fun w => Lib.hid (mod_any size 20000 w h1 h2 (by decide) (by decide))
  go_enter Try.func3, Try.ntmps3
  go_wp2_with fail
  refine (AW _).out.mono ?_
  rintro e w1 ⟨rfl, hb1⟩
  go_wp2_with fail
  refine (MO _).out.mono ?_
  rintro e w2 ⟨n, rfl, n0, n1, rfl⟩
  go_wp2_with fail
  refine (ARC _ _ (by omega) (by omega) (Nat.le_trans hb hb1.size) (hv.keep (fun k hk => hb1.block k (by omega)))).out.mono ?_
  rintro e w3 ⟨t, r, s, k, q, rfl, hM, hb3⟩
  have hB := hb1.trans (hb3.mono hb1.size)
  clear hb1 hb3 ARC MO AW hv
  go_upto_region 4 with (refine wpList_store_mid rfl 27 (.tmp 5) (.tmp 19) rfl _ 0 (itL t).toArray rfl rfl (zero_there w3 _) (by kernel_rfl) (one_itL t) ?_)
  obtain ⟨g, hg⟩ : ∃ g, w3.heap.size = g := ⟨_, rfl⟩
  have hI := ItC.stored t w3 27
  have hB := hB.trans ((stored_below t w3 27).mono hB.size)
  rewrite [hg] at hI hB ⊢
  refine wp_cls (fun wr => ItC t g wr ∧ Below w.heap.size w wr) ⟨hI, hB⟩ ?_
  clear hI hB hg
  rintro w4 ⟨hI, hB⟩
  have hA := hM.arc (by omega)
  have VP := fun w => Lib.hid (ValidP_true t w hM.ok)
  have SP := fun w => Lib.hid (spokesP_any t _ _ _ _ w hA VP)
  have hn := t.spokes_len
  have RS : ∀ (w : World) (v : Value) (B : Nat), w.ownsRow B 34 4 v t.spokes.length (t.spokes.flatMap spc) → ∃ g cap, v = .slice (some ⟨g, 0, none⟩) t.spokes.length cap ∧ B ≤ g ∧ Row g (t.spokes.length * 4) (t.spokes.length * 4) (fun j => .int .i64 (spF t.spokes (j / 4) (j % 4))) w := fun w v B h => row_spokes h (by omega)
  have HX := band_facts t hA (by omega)
  have BD := fun i h => hA.spF_bd i h
  clear hA hM VP
  unfold SpokesPost at SP
  generalize spF t.spokes = S at *
  generalize t.spokes.flatMap spc = xs at *
  generalize t.spokes.length = m at *
  go_wp2_with (refine wpList_load_g (by rfl) 27 (.tmp 5) rfl _ 0 rfl (itL t) _ hI.rg Try.underlying27 rfl (by kernel_rfl) ?_)
  refine (SP _).out.mono ?_
  rintro e w5 ⟨v1, rfl, ho1, hb1⟩
  obtain ⟨g1, c1, rfl, -, r1⟩ := RS _ _ _ ho1
  have hT : (Both (Row g1 (m * 4) (m * 4) (fun j => .int .i64 (S (j / 4) (j % 4)))) (Below w.heap.size w)) w5 := ⟨r1, hB.trans (hb1.mono hB.size)⟩
  clear hb1 ho1 SP RS r1 hB hI
  have hm2 : ¬ (m : Int) < 2 := by omega
  obtain ⟨l, hl⟩ : ∃ l, m - 1 = l := ⟨_, rfl⟩
  have eL : (m : Int) - 1 = (l : Int) := by omega
  have hlm : l < m := by omega
  have hm0 : 0 < m := by omega
  have hm0' : (0 : Int) < (m : Int) := by omega
  have hlm' : (l : Int) < (m : Int) := by omega
  have wl : IntKind.i64.wrap (l : Int) = (l : Int) := wr_in (by omega) (by omega)
  rewrite [hl] at HX
  clear hl
  --CUT1
  go_upto_region 7 with fail
  (refine wp_region_class (Both (Row g1 (m * 4) (m * 4) (fun j => .int .i64 (S (j / 4) (j % 4)))) (Below w.heap.size w)) ⟨hT.l.next (Below.refl _ _).drew, hT.r.drew⟩ (by kernel_rfl) (by kernel_rfl) ?_; repeat (refine wpQuiet_step (fun qK9 qH9 => ?_); go_simp; first | (refine qH9 _ ?_; clear qH9 qK9) | (apply Exists.intro; refine ⟨?_, qH9 _ ?_⟩; (first | (intros; rfl) | ((intro wx hC; (obtain ⟨-, -, e2, -⟩ := hC.l.spoke hlm); (obtain ⟨-, -, d2, -⟩ := hC.l.spoke hm0); simp only [Nat.zero_mul, Nat.zero_add] at d2; go_simp; first | done | rfl))); clear qH9 qK9)))
  refine wpQuiet_nil ?_
  clear hT
  intro wy hT
  
  --CUT2
  clear eL wl
  generalize min (S 0 2) (S l 2) = low at *
  generalize max (S 0 2) (S l 2) = high at *
  go_wp2_with fail
  go_loopw [58] (fun t wr => ∃ i : Nat, i ≤ m ∧ t = .int .i64 (i : Int) ∧ (Both (Row g1 (m * 4) (m * 4) (fun j => .int .i64 (S (j / 4) (j % 4)))) (Below w.heap.size w)) wr) (fun t _ => m - (intOf t).toNat)
  case atStart => exact ⟨0, Nat.zero_le _, rfl, hT⟩
  case round =>
  clear hT
  obtain ⟨i, hin, rfl, hT⟩ := hrel
  by_cases hi : i < m
  · have hlt : (i : Int) < (m : Int) := by omega
    obtain ⟨x0, x1, x2, x3, x4, x5⟩ := HX i hi
    obtain ⟨bu, bw, -⟩ := BD i hi
    obtain ⟨y0, y1, y2, y3⟩ := hT.l.spoke hi
    have DT := fun w => Lib.hid (dotR_any (S i 0) (S i 1) (S i 2) (S i 3) (S i 0) (S i 1) (S i 2) (S i 3) w ⟨⟨by omega, by omega⟩, by omega, by omega⟩ ⟨⟨by omega, by omega⟩, by omega, by omega⟩)
    go_upto_region 11 with fail
    --CUT3
    refine wp_cls (fun wx => (Both (Row g1 (m * 4) (m * 4) (fun j => .int .i64 (S (j / 4) (j % 4)))) (Below w.heap.size w)) wx ∧ Lf wr.heap.size (wr.heap.size + 1) [(⟨wr.heap.size, 0, none⟩, .int .i64 (S i 0)), (⟨wr.heap.size, 1, none⟩, .int .i64 (S i 1)), (⟨wr.heap.size, 2, none⟩, .int .i64 (S i 2)), (⟨wr.heap.size, 3, none⟩, .int .i64 (S i 3))] wr wx) ⟨⟨hT.l.next ((Below.refl _ _).alloc (Nat.le_refl _) _), hT.r.alloc hT.r.size _⟩, (Lf.nil wr).push #[.int .i64 (S i 0), .int .i64 (S i 1), .int .i64 (S i 2), .int .i64 (S i 3)] 34⟩ ?_
    clear hT y0 y1 y2 y3
    generalize wr.heap.size = k at *
    rintro w6 ⟨hT, hK⟩
    (have qk9 := (hK).cells; simp only [List.forall_mem_cons, List.not_mem_nil, false_implies, implies_true, and_true] at qk9; repeat (obtain ⟨qk8, qk9⟩ := qk9))
    go_wp2_with fail
    refine (DT _).out.mono ?_
    rintro e w7 ⟨rfl, hb⟩
    clear DT
    have hT : (Both (Row g1 (m * 4) (m * 4) (fun j => .int .i64 (S (j / 4) (j % 4)))) (Below w.heap.size w)) w7 := ⟨hT.l.next hb, hT.r.trans (hb.mono hT.r.size)⟩
    have hK := hK.next hb
    clear hb
    --CUT4
    clear qk8
    (have qk9 := (hK).cells; simp only [List.forall_mem_cons, List.not_mem_nil, false_implies, implies_true, and_true] at qk9; obtain ⟨-, -, z2, -⟩ := qk9)
    clear hK HX BD
    generalize S i 0 * S i 0 + S i 1 * S i 1 = N at *
    generalize hR : S i 2 = R at *
    clear hR
    have p1 := sq_nn (R - 1)
    have p2 := sq_le (x := R + 1) (m := 400001) (by omega) (by omega)
    have p3 := sq_le (x := R - 1) (m := 400001) (by omega) (by omega)
    have p4 := sq_nn (R + 1)
    have wm1 : IntKind.i64.wrap ((R - 1) * (R - 1)) = (R - 1) * (R - 1) := wr_in (by omega) (by omega)
    have wm2 : IntKind.i64.wrap ((R + 1) * (R + 1)) = (R + 1) * (R + 1) := wr_in (by omega) (by omega)
    have c1 : ¬ R < low := by omega
    have c2 : ¬ high < R := by omega
    have c3 : ¬ N < (R - 1) * (R - 1) := by omega
    have c4 : ¬ (R + 1) * (R + 1) < N := by omega
    clear p1 p2 p3 p4 x0 x1 x2 x3
    go_wp2_with fail
    --CUT5
    go_roundw
    case rel => exact ⟨i + 1, by omega, by go_num, hT⟩
    case measure => simp [intOf]; omega
  · go_wp2_with fail
    go_ret
    exact ⟨rfl, hT.r⟩
end Go.Proofs.Ytkjjoclbjkpdaaa
