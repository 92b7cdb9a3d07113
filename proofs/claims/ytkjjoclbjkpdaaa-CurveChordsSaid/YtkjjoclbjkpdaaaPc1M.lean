/- Proved here: CurveChords, from the contract of cncmill.Arc. -/
import Derived.Test.YtkjjoclbjkpdaaaNd8M
import Derived.Test.YtkjjoclbjkpdaaaNc4M
import Derived.Test.YtkjjoclbjkpdaaaKa5M
namespace Go.Proofs.Ytkjjoclbjkpdaaa
open Go.RowKit
set_option linter.unusedVariables false
set_option linter.unusedSimpArgs false
set_option maxHeartbeats 16000000 in
set_option maxRecDepth 40000 in
theorem law_chords0 (b0 : Nat) (v : Value) (size : Int) (w : World) (hb : b0 ≤ w.heap.size) (hv : Ns b0 v w) (h1 : -9223372036854775808 ≤ size) (h2 : size ≤ 9223372036854775807)
    (ARC : ∀ (n : Int) (w : World), 1 ≤ n → n ≤ 20000 → b0 ≤ w.heap.size → Ns b0 v w → Hid (Calls Try.prog 11 #[v, .int .i64 n] w (ArcPost (n + 7) w))) :
    Calls Try.prog 7 #[v, .int .i64 size] w fun e w' => e = .returned (.bool true) ∧ Below w.heap.size w w' := by
  have AW := fun w => Lib.hid (awake_any w)
  have MO := fun w => Lib.hid (mod_any size 5000 w h1 h2 (by decide) (by decide))
  go_enter Try.func7, Try.ntmps7
  go_wp2_with fail
  refine (AW _).out.mono ?_
  rintro e w1 ⟨rfl, hb1⟩
  go_wp2_with fail
  refine (MO _).out.mono ?_
  rintro e w2 ⟨n, rfl, n0, n1, rfl⟩
  go_wp2_with fail
  refine (ARC _ _ (by omega) (by omega) (Nat.le_trans hb hb1.size) (hv.keep (fun k hk => hb1.block k (by omega)))).out.mono ?_
  rintro e w3 ⟨t, r, s, k, q, rfl, hM, hb3⟩
  have hB := hb1.trans (hb3.mono hb1.size)
  clear hb1 hb3 ARC MO AW hv
  go_upto_region 4 with (refine wpList_store_mid rfl 27 (.tmp 5) (.tmp 20) rfl _ 0 (itL t).toArray rfl rfl (zero_there w3 _) (by kernel_rfl) (one_itL t) ?_)
  obtain ⟨g, hg⟩ : ∃ g, w3.heap.size = g := ⟨_, rfl⟩
  have hI := ItC.stored t w3 27
  have hB := hB.trans ((stored_below t w3 27).mono hB.size)
  rewrite [hg] at hI hB ⊢
  refine wp_cls (fun wr => ItC t g wr ∧ Below w.heap.size w wr) ⟨hI, hB⟩ ?_
  clear hI hB hg
  rintro w4 ⟨hI, hB⟩
  have hA := hM.arc (by omega)
  have VP := fun w => Lib.hid (ValidP_true t w hM.ok)
  have VR := fun w => Lib.hid (ValidR_true t w hM.ok)
  have SP := fun w => Lib.hid (spokesP_any t _ _ _ _ w hA VP)
  have SR := fun w => Lib.hid (spokesR_any t _ _ _ _ w hA VR)
  have CP := fun w => Lib.hid (chordsP_any t _ _ _ _ w hA VP)
  have CR := fun w => Lib.hid (chordsR_any t _ _ _ _ w hA VR)
  have hn := t.spokes_len
  have RS : ∀ (w : World) (v : Value) (B : Nat), w.ownsRow B 34 4 v t.spokes.length (t.spokes.flatMap spc) → ∃ g cap, v = .slice (some ⟨g, 0, none⟩) t.spokes.length cap ∧ B ≤ g ∧ Row g (t.spokes.length * 4) (t.spokes.length * 4) (fun j => .int .i64 (spF t.spokes (j / 4) (j % 4))) w := fun w v B h => row_spokes h (by omega)
  clear hA hM VR
  unfold SpokesPost at SP SR
  generalize chF t.plane (plU t.plane t.cx t.cy t.cz * 16) (plW t.plane t.cx t.cy t.cz * 16) (spF t.spokes) = FF at *
  generalize spF t.spokes = S at *
  generalize t.spokes.flatMap spc = xs at *
  generalize t.spokes.length = m at *
  go_wp2_with (refine wpList_load_g (by rfl) 27 (.tmp 5) rfl _ 0 rfl (itL t) _ hI.rg Try.underlying27 rfl (by kernel_rfl) ?_)
  refine (SP _).out.mono ?_
  rintro e w5 ⟨v1, rfl, ho1, hb1⟩
  obtain ⟨g1, c1, rfl, -, r1⟩ := RS _ _ _ ho1
  have hI := hI.next hb1
  have hB := hB.trans (hb1.mono hB.size)
  clear hb1 ho1 SP
  go_wp2_with (refine wpList_load_g (by rfl) 27 (.tmp 5) rfl _ 0 rfl (itL t) _ hI.rg Try.underlying27 rfl (by kernel_rfl) ?_)
  refine (SR _).out.mono ?_
  rintro e w6 ⟨v2, rfl, ho2, hb1⟩
  obtain ⟨g2, c2, rfl, -, r2⟩ := RS _ _ _ ho2
  have hI := hI.next hb1
  have r1 := r1.next hb1
  have hB := hB.trans (hb1.mono hB.size)
  clear hb1 ho2 SR RS
  go_wp2_with (refine wpList_load_g (by rfl) 27 (.tmp 5) rfl _ 0 rfl (itL t) _ hI.rg Try.underlying27 rfl (by kernel_rfl) ?_)
  refine (CP _).out.mono ?_
  rintro e w7 ⟨g3, c3, rfl, -, r3, hb1⟩
  have hI := hI.next hb1
  have r1 := r1.next hb1
  have r2 := r2.next hb1
  have hB := hB.trans (hb1.mono hB.size)
  clear hb1 CP
  go_wp2_with (refine wpList_load_g (by rfl) 27 (.tmp 5) rfl _ 0 rfl (itL t) _ hI.rg Try.underlying27 rfl (by kernel_rfl) ?_)
  refine (CR _).out.mono ?_
  rintro e w8 ⟨g4, c4, rfl, -, r4, hb1⟩
  have hI := hI.next hb1
  have r1 := r1.next hb1
  have r2 := r2.next hb1
  have r3 := r3.next hb1
  have hB := hB.trans (hb1.mono hB.size)
  clear hb1 CR
  go_wp2_with (refine wpList_load_g (by rfl) 27 (.tmp 5) rfl _ 0 rfl (itL t) _ hI.rg Try.underlying27 rfl (by kernel_rfl) ?_)
  clear hI
  refine (VP _).out.mono ?_
  rintro e w9 ⟨rfl, hb1⟩
  have r1 := r1.next hb1
  have r2 := r2.next hb1
  have r3 := r3.next hb1
  have r4 := r4.next hb1
  have hB := hB.trans (hb1.mono hB.size)
  clear hb1 VP
  go_wp2_with fail
  refine (sameSpokes_any g1 g2 c1 c2 m S _ (by omega) r1 r2).mono ?_
  rintro e w10 ⟨rfl, hb1⟩
  have r3 := r3.next hb1
  have r4 := r4.next hb1
  have hB := hB.trans (hb1.mono hB.size)
  clear hb1 r1 r2
  go_wp2_with fail
  refine (samePoints_any g3 g4 c3 c4 m FF _ (by omega) r3 r4).mono ?_
  rintro e w11 ⟨rfl, hb1⟩
  have hB := hB.trans (hb1.mono hB.size)
  go_wp2_with fail
  go_ret
  exact ⟨rfl, hB⟩
theorem law_chords (b0 : Nat) (v : Value) (size : Int) (w : World) (hb : b0 ≤ w.heap.size) (hv : Ns b0 v w) (h1 : -9223372036854775808 ≤ size) (h2 : size ≤ 9223372036854775807) :
    Calls Try.prog 7 #[v, .int .i64 size] w fun e w' => e = .returned (.bool true) ∧ Below w.heap.size w w' :=
  law_chords0 b0 v size w hb hv h1 h2 fun n w n1 n2 hb hv => Lib.hid (Arc_any b0 v n w n1 n2 hb hv)
end Go.Proofs.Ytkjjoclbjkpdaaa
