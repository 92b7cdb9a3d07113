/- Proved here: CurveFine: every piece of an arc is settled. -/
import Derived.Test.YtkjjoclbjkpdaaaFa4J
import Derived.Test.YtkjjoclbjkpdaaaKa5J
namespace Go.Proofs.Ytkjjoclbjkpdaaa
open Go.RowKit
set_option linter.unusedVariables false
set_option linter.unusedSimpArgs false
theorem Row.sets {g b m i : Nat} {G : Nat → Value} (hne : g ≠ b) : ∀ (vs : List Value) (o : Nat) {w : World}, Row g m i G w → Row g m i G (w.setCells b o vs)
  | [], _, _, h => h
  | v :: vs, o, _, h => Row.sets hne vs (o + 1) (h.other hne o v)
theorem ItC.sets {t : Itm} {g b o : Nat} {w : World} (h : ItC t g w) (hn : g ≠ b) (vs : List Value) : ItC t g (w.setCells b o vs) := ⟨World.rangeAt_setCells_apart h.rg b o vs (Or.inl hn), by rw [size_sets]; exact h.lt⟩
theorem Nw.far {g sb n c b o : Nat} {w : World} (h : Nw g sb n c w) (hn : g ≠ b) (vs : List Value) : Nw g sb n c (w.setCells b o vs) :=
  ⟨World.there_setCells h.th b o vs, by rw [size_sets]; exact h.lt, (World.cell?_setCells_out b vs o w ⟨g, 2, none⟩ (fun e => absurd e hn)).trans h.z, h.ge, h.ne⟩
theorem Nw.fresh4 (w : World) (T : TypeId) (sb n : Nat) (h1 : n ≤ w.heap.size) (h2 : sb < w.heap.size) : Nw w.heap.size sb n 4 (w.alloc (.cells #[.int .i64 0, .int .i64 0, .int .i64 0, .int .i64 0] T)) := by
  refine ⟨fun j hj => ?_, by simp, by simp [go_sem], h1, by omega⟩
  have : j = 0 ∨ j = 1 ∨ j = 2 ∨ j = 3 := by omega
  rcases this with rfl | rfl | rfl | rfl <;> simp [go_sem]
theorem Lit.put4 {g sb n : Nat} {x y z u : Int} {w : World} (h : Nw g sb n 4 w) : Lit g sb [x, y, z, u] (w.setCells g 0 [.int .i64 x, .int .i64 y, .int .i64 z, .int .i64 u]) := by
  have k := World.rangeAt_setCells_same w g 0 [.int .i64 x, .int .i64 y, .int .i64 z, .int .i64 u] h.th
  refine ⟨fun j v hj => ?_, by rw [size_sets]; exact h.lt, h.ne⟩
  have := k j (.int .i64 v) (by
    rcases j with _ | _ | _ | _ | j
    · simpa using hj
    · simpa using hj
    · simpa using hj
    · simpa using hj
    · simp at hj)
  rwa [Nat.zero_add] at this
theorem put_off {a : Act} {d t : Nat} (v : Value) (hne : d ≠ t) : (a.put (some d) v).tmps[t]? = a.tmps[t]? := by simp [Act.put, Array.getElem?_setIfInBounds, hne]
theorem ptr_inj {x : Option Value} {p q : Nat} (h1 : x = some (.pointer (some ⟨p, 0, none⟩))) (h2 : x = some (.pointer (some ⟨q, 0, none⟩))) : p = q := by rw [h1] at h2; simpa using h2
structure F10 (t : Itm) (g g1 c1 m n i i' : Nat) (S : Nat → Nat → Int) (w0 : World) (A : Act) (L : Nat → Bool) (a : Act) (w : World) : Prop where
  off : OffOf [45, 46, 47, 48, 49, 50, 51, 52, 53, 9, 10] A a
  row : Row g1 (m * 4) (m * 4) (fun j => .int .i64 (S (j / 4) (j % 4))) w
  it : ItC t g w
  be : Below w0.heap.size w0 w
  hn : n ≤ w.heap.size
  h1 : g1 < n
  hg : g < n
  hw : w0.heap.size ≤ n
  d11_9 : L 11 = true → L 9 = true
  d12_10 : L 12 = true → L 10 = true
  k0 : L 0 = true → a.tmps[45]? = some (.slice (some ⟨g1, 0, none⟩) m c1)
  k1 : L 1 = true → a.tmps[46]? = some (.int .i64 (i : Int))
  k2 : L 2 = true → a.tmps[47]? = some (.int .i64 (i' : Int))
  k3 : L 3 = true → a.tmps[48]? = some (.pointer (some ⟨g1, i' * 4, none⟩))
  k4 : L 4 = true → a.tmps[49]? = some (.agg #[.int .i64 (S i' 0), .int .i64 (S i' 1), .int .i64 (S i' 2), .int .i64 (S i' 3)])
  k5 : L 5 = true → a.tmps[50]? = some (.slice (some ⟨g1, 0, none⟩) m c1)
  k6 : L 6 = true → a.tmps[51]? = some (.int .i64 (i : Int))
  k7 : L 7 = true → a.tmps[52]? = some (.pointer (some ⟨g1, i * 4, none⟩))
  k8 : L 8 = true → a.tmps[53]? = some (.agg #[.int .i64 (S i 0), .int .i64 (S i 1), .int .i64 (S i 2), .int .i64 (S i 3)])
  k9 : L 9 = true → L 11 = false → ∃ (p : Nat), a.tmps[9]? = some (.pointer (some ⟨p, 0, none⟩)) ∧ Nw p g n 4 w
  k10 : L 10 = true → L 12 = false → ∃ (p : Nat), a.tmps[10]? = some (.pointer (some ⟨p, 0, none⟩)) ∧ Nw p g n 4 w
  k11 : L 11 = true → ∃ (p : Nat), a.tmps[9]? = some (.pointer (some ⟨p, 0, none⟩)) ∧ Lit p g [S i' 0, S i' 1, S i' 2, S i' 3] w ∧ n ≤ p
  k12 : L 12 = true → ∃ (p : Nat), a.tmps[10]? = some (.pointer (some ⟨p, 0, none⟩)) ∧ Lit p g [S i 0, S i 1, S i 2, S i 3] w ∧ n ≤ p
  pq : L 9 = true → L 10 = true → ∃ p p' : Nat, a.tmps[9]? = some (.pointer (some ⟨p, 0, none⟩)) ∧ a.tmps[10]? = some (.pointer (some ⟨p', 0, none⟩)) ∧ p ≠ p'
theorem ab24 {x : Int} (h : -400001 ≤ x ∧ x ≤ 400001) {y : Int} (k : -400001 ≤ y ∧ y ≤ 400001) : -160000800001 ≤ x * y ∧ x * y ≤ 160000800001 := by
  have : (x * y).natAbs ≤ 400001 * 400001 := by rw [Int.natAbs_mul]; exact Nat.mul_le_mul (by omega) (by omega)
  omega
theorem crs_bd {a b c d e : Int} (h0 : -400001 ≤ a ∧ a ≤ 400001) (h1 : -400001 ≤ b ∧ b ≤ 400001) (h2 : -400001 ≤ c ∧ c ≤ 400001) (h3 : -400001 ≤ d ∧ d ≤ 400001) (he : e = 1 ∨ e = -1) : -400000000000 ≤ (a * d - b * c) * e ∧ (a * d - b * c) * e ≤ 400000000000 := by
  have k1 := ab24 h0 h3
  have k2 := ab24 h1 h2
  rcases he with rfl | rfl <;> omega
theorem sq_b8 {x : Int} (h : -800002 ≤ x ∧ x ≤ 800002) : 0 ≤ x * x ∧ x * x ≤ 640003200004 := by
  have : (x * x).natAbs ≤ 800002 * 800002 := by rw [Int.natAbs_mul]; exact Nat.mul_le_mul (by omega) (by omega)
  have := sq_nn x
  omega
theorem ds_bd {a b c d : Int} (h0 : -400001 ≤ a ∧ a ≤ 400001) (h1 : -400001 ≤ b ∧ b ≤ 400001) (h2 : -400001 ≤ c ∧ c ≤ 400001) (h3 : -400001 ≤ d ∧ d ≤ 400001) : (0 ≤ (a - c) * (a - c) ∧ (a - c) * (a - c) ≤ 640003200004) ∧ (0 ≤ (b - d) * (b - d) ∧ (b - d) * (b - d) ≤ 640003200004) :=
  ⟨sq_b8 (by omega), sq_b8 (by omega)⟩
theorem Itm.Arc.small {t : Itm} {lo hi hl hh : Int} (h : t.Arc lo hi hl hh) (hhi : hi ≤ 400000) (i : Nat) (hi' : i < t.spokes.length) : (-400001 ≤ spF t.spokes i 0 ∧ spF t.spokes i 0 ≤ 400001) ∧ (-400001 ≤ spF t.spokes i 1 ∧ spF t.spokes i 1 ≤ 400001) ∧ 128 ≤ spF t.spokes i 2 ∧ spF t.spokes i 2 ≤ 400000 := by
  have g := h.spokes_gd t.spokes[i] (List.getElem_mem hi')
  have b0 := h.bnd.lo
  rw [spF_get hi', spF_get hi', spF_get hi']
  generalize t.spokes[i] = s at *
  obtain ⟨g0, g1, -, -, -, g5⟩ := g
  have q1 := sq_nn s.u
  have q2 := sq_nn s.w
  have m1 := sq_le_of (x := s.r + 1) (m := 400001) (by omega) (by omega)
  have w1 := abs_le_of (x := s.u) (m := 400001) (by omega) (by omega)
  have w2 := abs_le_of (x := s.w) (m := 400001) (by omega) (by omega)
  exact ⟨w1, w2, by show 128 ≤ s.r; omega, by show s.r ≤ 400000; omega⟩
set_option maxHeartbeats 16000000 in
set_option maxRecDepth 40000 in
theorem law_fine (b0 : Nat) (v : Value) (size : Int) (w : World) (hb : b0 ≤ w.heap.size) (hv : Ns b0 v w) (h1 : -9223372036854775808 ≤ size) (h2 : size ≤ 9223372036854775807) :
    Calls Try.prog 4 #[v, .int .i64 size] w fun e w' => e = .returned (.bool true) ∧ Below w.heap.size w w' := by
  have ARC := fun (n : Int) (w : World) (n1 : 1 ≤ n) (n2 : n ≤ 20000) (hb : b0 ≤ w.heap.size) (hv : Ns b0 v w) => Lib.hid (Arc_any b0 v n w n1 n2 hb hv)
  have AW := fun w => Lib.hid (awake_any w)
  have MO := fun w => Lib.hid (mod_any size 20000 w h1 h2 (by decide) (by decide))
  go_enter Try.func4, Try.ntmps4
  go_wp2_with fail
  refine (AW _).out.mono ?_
  rintro e w1 ⟨rfl, hb1⟩
  go_wp2_with fail
  refine (MO _).out.mono ?_
  rintro e w2 ⟨n, rfl, n0, n1, rfl⟩
  go_wp2_with fail
  refine (ARC _ _ (by omega) (by omega) (Nat.le_trans hb hb1.size) (hv.keep (fun k hk => hb1.block k (by omega)))).out.mono ?_
  rintro e w3 ⟨t, r, s, k, q, rfl, hM, hb3⟩
  have hB := hb1.trans (hb3.mono hb1.size)
  clear hb1 hb3 ARC MO AW hv
  go_upto_region 4 with (refine wpList_store_mid rfl 27 (.tmp 5) (.tmp 17) rfl _ 0 (itL t).toArray rfl rfl (zero_there w3 _) (by kernel_rfl) (one_itL t) ?_)
  obtain ⟨g, hg⟩ : ∃ g, w3.heap.size = g := ⟨_, rfl⟩
  have hI := ItC.stored t w3 27
  have hB := hB.trans ((stored_below t w3 27).mono hB.size)
  rewrite [hg] at hI hB ⊢
  refine wp_cls (fun wr => ItC t g wr ∧ Below w.heap.size w wr) ⟨hI, hB⟩ ?_
  clear hI hB hg
  rintro w4 ⟨hI, hB⟩
  have hA := hM.arc (by omega)
  have VP := fun w => Lib.hid (ValidP_true t w hM.ok)
  have SP := fun w => Lib.hid (spokesP_any t _ _ _ _ w hA VP)
  have hn := t.spokes_len
  have RS : ∀ (w : World) (v : Value) (B : Nat), w.ownsRow B 34 4 v t.spokes.length (t.spokes.flatMap spc) → ∃ g cap, v = .slice (some ⟨g, 0, none⟩) t.spokes.length cap ∧ B ≤ g ∧ Row g (t.spokes.length * 4) (t.spokes.length * 4) (fun j => .int .i64 (spF t.spokes (j / 4) (j % 4))) w := fun w v B h => row_spokes h (by omega)
  obtain ⟨HF, HX⟩ := fine_at hM (by omega)
  have BD := fun i h => hA.small (by omega) i h
  have hd := hA.dir
  clear hA hM VP
  unfold SpokesPost at SP
  generalize spF t.spokes = S at *
  generalize t.spokes.flatMap spc = xs at *
  generalize t.spokes.length = m at *
  go_wp2_with (refine wpList_load_g (by rfl) 27 (.tmp 5) rfl _ 0 rfl (itL t) _ hI.rg Try.underlying27 rfl (by kernel_rfl) ?_)
  refine (SP _).out.mono ?_
  rintro e w5 ⟨v1, rfl, ho1, hb1⟩
  obtain ⟨g1, c1, rfl, -, r1⟩ := RS _ _ _ ho1
  have hT : (Both (Both (Row g1 (m * 4) (m * 4) (fun j => .int .i64 (S (j / 4) (j % 4)))) (ItC t g)) (Below w.heap.size w)) w5 := ⟨⟨r1, hI.next hb1⟩, hB.trans (hb1.mono hB.size)⟩
  clear hb1 ho1 SP RS r1 hB hI
  have hm2 : ¬ (m : Int) < 2 := by omega
  have y13 : w5.cell? ⟨g, 13, none⟩ = some (.bool t.full) := hT.l.r.rg 13 (.bool t.full) rfl
  --CUT0
  have main : ∀ (F4 : t.full = true → ¬ (m : Int) < 4), True := fun _ => trivial
  obtain ⟨f, hf⟩ : ∃ f, t.full = f := ⟨_, rfl⟩
  rewrite [hf] at y13 HF
  have HFULL := Lib.hid hf
  clear hf main
  have hdm2 : decide ((m : Int) < 2) = false := decide_eq_false hm2
  cases f
  all_goals
    try have hm4 : ¬ (m : Int) < 4 := by have := HF rfl; omega
    try have hdm4 : decide ((m : Int) < 4) = false := decide_eq_false hm4
    clear HF
    go_wp2_with fail
    --CUT1
    go_loopw [8] (fun t' wr => ∃ i : Nat, 1 ≤ i ∧ i ≤ m ∧ t' = .int .i64 (i : Int) ∧ (Both (Both (Row g1 (m * 4) (m * 4) (fun j => .int .i64 (S (j / 4) (j % 4)))) (ItC t g)) (Below w.heap.size w)) wr) (fun t' _ => m - (intOf t').toNat)
    case atStart => exact ⟨1, Nat.le_refl _, by omega, rfl, hT⟩
    case round =>
    clear hT y13
    obtain ⟨i, hi1, hin, rfl, hT⟩ := hrel
    by_cases hi : i < m
    · have hlt : (i : Int) < (m : Int) := by omega
      obtain ⟨i', hi'⟩ : ∃ i', i - 1 = i' := ⟨_, rfl⟩
      have hFi := HX i hi1 hi
      obtain ⟨B2, B3, r2, r3⟩ := BD i hi
      obtain ⟨B0, B1, r0, r1⟩ := BD (i - 1) (by omega)
      rewrite [hi'] at hFi B0 B1 r0 r1
      have hjm : i' < m := by omega
      have hjm' : (i' : Int) < (m : Int) := by omega
      have ei : (i : Int) - 1 = (i' : Int) := by omega
      clear hi'
      have wi : IntKind.i64.wrap (i' : Int) = (i' : Int) := wr_in (by omega) (by omega)
      clear HX BD
      go_upto_region 10 with fail
      generalize hA : (Act.mk _ _) = A
      have hsz : A.tmps.size = 93 := by rw [← hA]; rfl
      have hA6 : A.tmps[6]? = some (.slice (some ⟨g1, 0, none⟩) m c1) := by rw [← hA]; rfl
      have hA8 : A.tmps[8]? = some (.int .i64 (i : Int)) := by rw [← hA]; rfl
      have HA := Lib.hid hA
      clear hA
      refine wp_region_inv (fun L aa wx => F10 t g g1 c1 m wr.heap.size i i' S w A L aa wx) (by kernel_rfl) (by kernel_rfl) ?_ ?_ ?_
      · have hD := (Below.refl wr.heap.size wr).drew
        exact (by constructor <;> first | exact OffOf.refl _ _ | exact hT.l.l.next hD | exact hT.l.r.next hD | exact hT.r.drew | exact Nat.le_refl _ | exact hT.l.l.lt | exact hT.l.r.lt | exact hT.r.size | (intro h; exact nomatch h) | (intro h _; exact nomatch h))
      · intro i0 o ho L aa wx h' hLi hdeps K hK'
        match i0, ho, hLi, hK' with
        | 0, ho, hLi, hK' =>
          cases ho
          have ea := (h'.off.off 6 (by decide)).trans hA6
          go_simp
          exact hK' _ _ { off := h'.off.put (by decide) _, row := h'.row, it := h'.it, be := h'.be, hn := h'.hn, h1 := h'.h1, hg := h'.hg, hw := h'.hw, d11_9 := fun q => by simpa using h'.d11_9 (by simpa using q), d12_10 := fun q => by simpa using h'.d12_10 (by simpa using q), k0 := fun _ => put_at _ (by have := h'.off.size; omega), k1 := fun q => put_ne _ (by decide) (h'.k1 (by simpa using q)), k2 := fun q => put_ne _ (by decide) (h'.k2 (by simpa using q)), k3 := fun q => put_ne _ (by decide) (h'.k3 (by simpa using q)), k4 := fun q => put_ne _ (by decide) (h'.k4 (by simpa using q)), k5 := fun q => put_ne _ (by decide) (h'.k5 (by simpa using q)), k6 := fun q => put_ne _ (by decide) (h'.k6 (by simpa using q)), k7 := fun q => put_ne _ (by decide) (h'.k7 (by simpa using q)), k8 := fun q => put_ne _ (by decide) (h'.k8 (by simpa using q)), k9 := fun q q' => (h'.k9 (by simpa using q) (by simpa using q')).imp fun _ g => ⟨put_ne _ (by decide) (g.1), g.2⟩, k10 := fun q q' => (h'.k10 (by simpa using q) (by simpa using q')).imp fun _ g => ⟨put_ne _ (by decide) (g.1), g.2⟩, k11 := fun q => (h'.k11 (by simpa using q)).imp fun _ g => ⟨put_ne _ (by decide) (g.1), g.2.1, g.2.2⟩, k12 := fun q => (h'.k12 (by simpa using q)).imp fun _ g => ⟨put_ne _ (by decide) (g.1), g.2.1, g.2.2⟩, pq := fun q q' => (h'.pq (by simpa using q) (by simpa using q')).imp fun _ g => g.imp fun _ g => ⟨put_ne _ (by decide) g.1, put_ne _ (by decide) g.2.1, g.2.2⟩ }
        | 1, ho, hLi, hK' =>
          cases ho
          have ea := (h'.off.off 8 (by decide)).trans hA8
          go_simp
          exact hK' _ _ { off := h'.off.put (by decide) _, row := h'.row, it := h'.it, be := h'.be, hn := h'.hn, h1 := h'.h1, hg := h'.hg, hw := h'.hw, d11_9 := fun q => by simpa using h'.d11_9 (by simpa using q), d12_10 := fun q => by simpa using h'.d12_10 (by simpa using q), k0 := fun q => put_ne _ (by decide) (h'.k0 (by simpa using q)), k1 := fun _ => put_at _ (by have := h'.off.size; omega), k2 := fun q => put_ne _ (by decide) (h'.k2 (by simpa using q)), k3 := fun q => put_ne _ (by decide) (h'.k3 (by simpa using q)), k4 := fun q => put_ne _ (by decide) (h'.k4 (by simpa using q)), k5 := fun q => put_ne _ (by decide) (h'.k5 (by simpa using q)), k6 := fun q => put_ne _ (by decide) (h'.k6 (by simpa using q)), k7 := fun q => put_ne _ (by decide) (h'.k7 (by simpa using q)), k8 := fun q => put_ne _ (by decide) (h'.k8 (by simpa using q)), k9 := fun q q' => (h'.k9 (by simpa using q) (by simpa using q')).imp fun _ g => ⟨put_ne _ (by decide) (g.1), g.2⟩, k10 := fun q q' => (h'.k10 (by simpa using q) (by simpa using q')).imp fun _ g => ⟨put_ne _ (by decide) (g.1), g.2⟩, k11 := fun q => (h'.k11 (by simpa using q)).imp fun _ g => ⟨put_ne _ (by decide) (g.1), g.2.1, g.2.2⟩, k12 := fun q => (h'.k12 (by simpa using q)).imp fun _ g => ⟨put_ne _ (by decide) (g.1), g.2.1, g.2.2⟩, pq := fun q q' => (h'.pq (by simpa using q) (by simpa using q')).imp fun _ g => g.imp fun _ g => ⟨put_ne _ (by decide) g.1, put_ne _ (by decide) g.2.1, g.2.2⟩ }
        | 2, ho, hLi, hK' =>
          cases ho
          have ea := h'.k1 (hdeps ⟨1, .data⟩ (by simp) (by rfl))
          go_simp
          exact hK' _ _ { off := h'.off.put (by decide) _, row := h'.row, it := h'.it, be := h'.be, hn := h'.hn, h1 := h'.h1, hg := h'.hg, hw := h'.hw, d11_9 := fun q => by simpa using h'.d11_9 (by simpa using q), d12_10 := fun q => by simpa using h'.d12_10 (by simpa using q), k0 := fun q => put_ne _ (by decide) (h'.k0 (by simpa using q)), k1 := fun q => put_ne _ (by decide) (h'.k1 (by simpa using q)), k2 := fun _ => put_at _ (by have := h'.off.size; omega), k3 := fun q => put_ne _ (by decide) (h'.k3 (by simpa using q)), k4 := fun q => put_ne _ (by decide) (h'.k4 (by simpa using q)), k5 := fun q => put_ne _ (by decide) (h'.k5 (by simpa using q)), k6 := fun q => put_ne _ (by decide) (h'.k6 (by simpa using q)), k7 := fun q => put_ne _ (by decide) (h'.k7 (by simpa using q)), k8 := fun q => put_ne _ (by decide) (h'.k8 (by simpa using q)), k9 := fun q q' => (h'.k9 (by simpa using q) (by simpa using q')).imp fun _ g => ⟨put_ne _ (by decide) (g.1), g.2⟩, k10 := fun q q' => (h'.k10 (by simpa using q) (by simpa using q')).imp fun _ g => ⟨put_ne _ (by decide) (g.1), g.2⟩, k11 := fun q => (h'.k11 (by simpa using q)).imp fun _ g => ⟨put_ne _ (by decide) (g.1), g.2.1, g.2.2⟩, k12 := fun q => (h'.k12 (by simpa using q)).imp fun _ g => ⟨put_ne _ (by decide) (g.1), g.2.1, g.2.2⟩, pq := fun q q' => (h'.pq (by simpa using q) (by simpa using q')).imp fun _ g => g.imp fun _ g => ⟨put_ne _ (by decide) g.1, put_ne _ (by decide) g.2.1, g.2.2⟩ }
        | 3, ho, hLi, hK' =>
          cases ho
          have ea := h'.k0 (hdeps ⟨0, .data⟩ (by simp) (by rfl))
          have eb := h'.k2 (hdeps ⟨2, .data⟩ (by simp) (by rfl))
          go_simp
          exact hK' _ _ { off := h'.off.put (by decide) _, row := h'.row, it := h'.it, be := h'.be, hn := h'.hn, h1 := h'.h1, hg := h'.hg, hw := h'.hw, d11_9 := fun q => by simpa using h'.d11_9 (by simpa using q), d12_10 := fun q => by simpa using h'.d12_10 (by simpa using q), k0 := fun q => put_ne _ (by decide) (h'.k0 (by simpa using q)), k1 := fun q => put_ne _ (by decide) (h'.k1 (by simpa using q)), k2 := fun q => put_ne _ (by decide) (h'.k2 (by simpa using q)), k3 := fun _ => put_at _ (by have := h'.off.size; omega), k4 := fun q => put_ne _ (by decide) (h'.k4 (by simpa using q)), k5 := fun q => put_ne _ (by decide) (h'.k5 (by simpa using q)), k6 := fun q => put_ne _ (by decide) (h'.k6 (by simpa using q)), k7 := fun q => put_ne _ (by decide) (h'.k7 (by simpa using q)), k8 := fun q => put_ne _ (by decide) (h'.k8 (by simpa using q)), k9 := fun q q' => (h'.k9 (by simpa using q) (by simpa using q')).imp fun _ g => ⟨put_ne _ (by decide) (g.1), g.2⟩, k10 := fun q q' => (h'.k10 (by simpa using q) (by simpa using q')).imp fun _ g => ⟨put_ne _ (by decide) (g.1), g.2⟩, k11 := fun q => (h'.k11 (by simpa using q)).imp fun _ g => ⟨put_ne _ (by decide) (g.1), g.2.1, g.2.2⟩, k12 := fun q => (h'.k12 (by simpa using q)).imp fun _ g => ⟨put_ne _ (by decide) (g.1), g.2.1, g.2.2⟩, pq := fun q q' => (h'.pq (by simpa using q) (by simpa using q')).imp fun _ g => g.imp fun _ g => ⟨put_ne _ (by decide) g.1, put_ne _ (by decide) g.2.1, g.2.2⟩ }
        | 4, ho, hLi, hK' =>
          cases ho
          have ea := h'.k3 (hdeps ⟨3, .data⟩ (by simp) (by rfl))
          obtain ⟨d0, d1, d2, d3⟩ := h'.row.spoke hjm
          go_simp
          exact hK' _ _ { off := h'.off.put (by decide) _, row := h'.row, it := h'.it, be := h'.be, hn := h'.hn, h1 := h'.h1, hg := h'.hg, hw := h'.hw, d11_9 := fun q => by simpa using h'.d11_9 (by simpa using q), d12_10 := fun q => by simpa using h'.d12_10 (by simpa using q), k0 := fun q => put_ne _ (by decide) (h'.k0 (by simpa using q)), k1 := fun q => put_ne _ (by decide) (h'.k1 (by simpa using q)), k2 := fun q => put_ne _ (by decide) (h'.k2 (by simpa using q)), k3 := fun q => put_ne _ (by decide) (h'.k3 (by simpa using q)), k4 := fun _ => put_at _ (by have := h'.off.size; omega), k5 := fun q => put_ne _ (by decide) (h'.k5 (by simpa using q)), k6 := fun q => put_ne _ (by decide) (h'.k6 (by simpa using q)), k7 := fun q => put_ne _ (by decide) (h'.k7 (by simpa using q)), k8 := fun q => put_ne _ (by decide) (h'.k8 (by simpa using q)), k9 := fun q q' => (h'.k9 (by simpa using q) (by simpa using q')).imp fun _ g => ⟨put_ne _ (by decide) (g.1), g.2⟩, k10 := fun q q' => (h'.k10 (by simpa using q) (by simpa using q')).imp fun _ g => ⟨put_ne _ (by decide) (g.1), g.2⟩, k11 := fun q => (h'.k11 (by simpa using q)).imp fun _ g => ⟨put_ne _ (by decide) (g.1), g.2.1, g.2.2⟩, k12 := fun q => (h'.k12 (by simpa using q)).imp fun _ g => ⟨put_ne _ (by decide) (g.1), g.2.1, g.2.2⟩, pq := fun q q' => (h'.pq (by simpa using q) (by simpa using q')).imp fun _ g => g.imp fun _ g => ⟨put_ne _ (by decide) g.1, put_ne _ (by decide) g.2.1, g.2.2⟩ }
        | 5, ho, hLi, hK' =>
          cases ho
          have ea := (h'.off.off 6 (by decide)).trans hA6
          go_simp
          exact hK' _ _ { off := h'.off.put (by decide) _, row := h'.row, it := h'.it, be := h'.be, hn := h'.hn, h1 := h'.h1, hg := h'.hg, hw := h'.hw, d11_9 := fun q => by simpa using h'.d11_9 (by simpa using q), d12_10 := fun q => by simpa using h'.d12_10 (by simpa using q), k0 := fun q => put_ne _ (by decide) (h'.k0 (by simpa using q)), k1 := fun q => put_ne _ (by decide) (h'.k1 (by simpa using q)), k2 := fun q => put_ne _ (by decide) (h'.k2 (by simpa using q)), k3 := fun q => put_ne _ (by decide) (h'.k3 (by simpa using q)), k4 := fun q => put_ne _ (by decide) (h'.k4 (by simpa using q)), k5 := fun _ => put_at _ (by have := h'.off.size; omega), k6 := fun q => put_ne _ (by decide) (h'.k6 (by simpa using q)), k7 := fun q => put_ne _ (by decide) (h'.k7 (by simpa using q)), k8 := fun q => put_ne _ (by decide) (h'.k8 (by simpa using q)), k9 := fun q q' => (h'.k9 (by simpa using q) (by simpa using q')).imp fun _ g => ⟨put_ne _ (by decide) (g.1), g.2⟩, k10 := fun q q' => (h'.k10 (by simpa using q) (by simpa using q')).imp fun _ g => ⟨put_ne _ (by decide) (g.1), g.2⟩, k11 := fun q => (h'.k11 (by simpa using q)).imp fun _ g => ⟨put_ne _ (by decide) (g.1), g.2.1, g.2.2⟩, k12 := fun q => (h'.k12 (by simpa using q)).imp fun _ g => ⟨put_ne _ (by decide) (g.1), g.2.1, g.2.2⟩, pq := fun q q' => (h'.pq (by simpa using q) (by simpa using q')).imp fun _ g => g.imp fun _ g => ⟨put_ne _ (by decide) g.1, put_ne _ (by decide) g.2.1, g.2.2⟩ }
        | 6, ho, hLi, hK' =>
          cases ho
          have ea := (h'.off.off 8 (by decide)).trans hA8
          go_simp
          exact hK' _ _ { off := h'.off.put (by decide) _, row := h'.row, it := h'.it, be := h'.be, hn := h'.hn, h1 := h'.h1, hg := h'.hg, hw := h'.hw, d11_9 := fun q => by simpa using h'.d11_9 (by simpa using q), d12_10 := fun q => by simpa using h'.d12_10 (by simpa using q), k0 := fun q => put_ne _ (by decide) (h'.k0 (by simpa using q)), k1 := fun q => put_ne _ (by decide) (h'.k1 (by simpa using q)), k2 := fun q => put_ne _ (by decide) (h'.k2 (by simpa using q)), k3 := fun q => put_ne _ (by decide) (h'.k3 (by simpa using q)), k4 := fun q => put_ne _ (by decide) (h'.k4 (by simpa using q)), k5 := fun q => put_ne _ (by decide) (h'.k5 (by simpa using q)), k6 := fun _ => put_at _ (by have := h'.off.size; omega), k7 := fun q => put_ne _ (by decide) (h'.k7 (by simpa using q)), k8 := fun q => put_ne _ (by decide) (h'.k8 (by simpa using q)), k9 := fun q q' => (h'.k9 (by simpa using q) (by simpa using q')).imp fun _ g => ⟨put_ne _ (by decide) (g.1), g.2⟩, k10 := fun q q' => (h'.k10 (by simpa using q) (by simpa using q')).imp fun _ g => ⟨put_ne _ (by decide) (g.1), g.2⟩, k11 := fun q => (h'.k11 (by simpa using q)).imp fun _ g => ⟨put_ne _ (by decide) (g.1), g.2.1, g.2.2⟩, k12 := fun q => (h'.k12 (by simpa using q)).imp fun _ g => ⟨put_ne _ (by decide) (g.1), g.2.1, g.2.2⟩, pq := fun q q' => (h'.pq (by simpa using q) (by simpa using q')).imp fun _ g => g.imp fun _ g => ⟨put_ne _ (by decide) g.1, put_ne _ (by decide) g.2.1, g.2.2⟩ }
        | 7, ho, hLi, hK' =>
          cases ho
          have ea := h'.k5 (hdeps ⟨5, .data⟩ (by simp) (by rfl))
          have eb := h'.k6 (hdeps ⟨6, .data⟩ (by simp) (by rfl))
          go_simp
          exact hK' _ _ { off := h'.off.put (by decide) _, row := h'.row, it := h'.it, be := h'.be, hn := h'.hn, h1 := h'.h1, hg := h'.hg, hw := h'.hw, d11_9 := fun q => by simpa using h'.d11_9 (by simpa using q), d12_10 := fun q => by simpa using h'.d12_10 (by simpa using q), k0 := fun q => put_ne _ (by decide) (h'.k0 (by simpa using q)), k1 := fun q => put_ne _ (by decide) (h'.k1 (by simpa using q)), k2 := fun q => put_ne _ (by decide) (h'.k2 (by simpa using q)), k3 := fun q => put_ne _ (by decide) (h'.k3 (by simpa using q)), k4 := fun q => put_ne _ (by decide) (h'.k4 (by simpa using q)), k5 := fun q => put_ne _ (by decide) (h'.k5 (by simpa using q)), k6 := fun q => put_ne _ (by decide) (h'.k6 (by simpa using q)), k7 := fun _ => put_at _ (by have := h'.off.size; omega), k8 := fun q => put_ne _ (by decide) (h'.k8 (by simpa using q)), k9 := fun q q' => (h'.k9 (by simpa using q) (by simpa using q')).imp fun _ g => ⟨put_ne _ (by decide) (g.1), g.2⟩, k10 := fun q q' => (h'.k10 (by simpa using q) (by simpa using q')).imp fun _ g => ⟨put_ne _ (by decide) (g.1), g.2⟩, k11 := fun q => (h'.k11 (by simpa using q)).imp fun _ g => ⟨put_ne _ (by decide) (g.1), g.2.1, g.2.2⟩, k12 := fun q => (h'.k12 (by simpa using q)).imp fun _ g => ⟨put_ne _ (by decide) (g.1), g.2.1, g.2.2⟩, pq := fun q q' => (h'.pq (by simpa using q) (by simpa using q')).imp fun _ g => g.imp fun _ g => ⟨put_ne _ (by decide) g.1, put_ne _ (by decide) g.2.1, g.2.2⟩ }
        | 8, ho, hLi, hK' =>
          cases ho
          have ea := h'.k7 (hdeps ⟨7, .data⟩ (by simp) (by rfl))
          obtain ⟨d0, d1, d2, d3⟩ := h'.row.spoke hi
          go_simp
          exact hK' _ _ { off := h'.off.put (by decide) _, row := h'.row, it := h'.it, be := h'.be, hn := h'.hn, h1 := h'.h1, hg := h'.hg, hw := h'.hw, d11_9 := fun q => by simpa using h'.d11_9 (by simpa using q), d12_10 := fun q => by simpa using h'.d12_10 (by simpa using q), k0 := fun q => put_ne _ (by decide) (h'.k0 (by simpa using q)), k1 := fun q => put_ne _ (by decide) (h'.k1 (by simpa using q)), k2 := fun q => put_ne _ (by decide) (h'.k2 (by simpa using q)), k3 := fun q => put_ne _ (by decide) (h'.k3 (by simpa using q)), k4 := fun q => put_ne _ (by decide) (h'.k4 (by simpa using q)), k5 := fun q => put_ne _ (by decide) (h'.k5 (by simpa using q)), k6 := fun q => put_ne _ (by decide) (h'.k6 (by simpa using q)), k7 := fun q => put_ne _ (by decide) (h'.k7 (by simpa using q)), k8 := fun _ => put_at _ (by have := h'.off.size; omega), k9 := fun q q' => (h'.k9 (by simpa using q) (by simpa using q')).imp fun _ g => ⟨put_ne _ (by decide) (g.1), g.2⟩, k10 := fun q q' => (h'.k10 (by simpa using q) (by simpa using q')).imp fun _ g => ⟨put_ne _ (by decide) (g.1), g.2⟩, k11 := fun q => (h'.k11 (by simpa using q)).imp fun _ g => ⟨put_ne _ (by decide) (g.1), g.2.1, g.2.2⟩, k12 := fun q => (h'.k12 (by simpa using q)).imp fun _ g => ⟨put_ne _ (by decide) (g.1), g.2.1, g.2.2⟩, pq := fun q q' => (h'.pq (by simpa using q) (by simpa using q')).imp fun _ g => g.imp fun _ g => ⟨put_ne _ (by decide) g.1, put_ne _ (by decide) g.2.1, g.2.2⟩ }
        | 9, ho, hLi, hK' =>
          cases ho
          have hb := (Below.refl wx.heap.size wx).alloc (Nat.le_refl _) (.cells #[.int .i64 0, .int .i64 0, .int .i64 0, .int .i64 0] 34)
          have PQ9 : L 10 = true → ∃ p p' : Nat, (aa.put (some 9) (.pointer (some ⟨wx.heap.size, 0, none⟩))).tmps[9]? = some (.pointer (some ⟨p, 0, none⟩)) ∧ (aa.put (some 9) (.pointer (some ⟨wx.heap.size, 0, none⟩))).tmps[10]? = some (.pointer (some ⟨p', 0, none⟩)) ∧ p ≠ p' := by
            intro hl
            cases hz : L 12 with
            | false =>
              obtain ⟨p, e, hN⟩ := h'.k10 hl hz
              have := hN.lt
              exact ⟨wx.heap.size, p, put_at _ (by have := h'.off.size; omega), put_ne _ (by decide) e, by omega⟩
            | true =>
              obtain ⟨p, e, hN, -⟩ := h'.k12 hz
              have := hN.lt
              exact ⟨wx.heap.size, p, put_at _ (by have := h'.off.size; omega), put_ne _ (by decide) e, by omega⟩
          go_simp
          exact hK' _ _ { off := h'.off.put (by decide) _, row := h'.row.next hb, it := h'.it.next hb, be := h'.be.trans (hb.mono h'.be.size), hn := Nat.le_trans h'.hn hb.size, h1 := h'.h1, hg := h'.hg, hw := h'.hw, d11_9 := fun _ => by simp, d12_10 := fun q => by simpa using h'.d12_10 (by simpa using q), k0 := fun q => put_ne _ (by decide) (h'.k0 (by simpa using q)), k1 := fun q => put_ne _ (by decide) (h'.k1 (by simpa using q)), k2 := fun q => put_ne _ (by decide) (h'.k2 (by simpa using q)), k3 := fun q => put_ne _ (by decide) (h'.k3 (by simpa using q)), k4 := fun q => put_ne _ (by decide) (h'.k4 (by simpa using q)), k5 := fun q => put_ne _ (by decide) (h'.k5 (by simpa using q)), k6 := fun q => put_ne _ (by decide) (h'.k6 (by simpa using q)), k7 := fun q => put_ne _ (by decide) (h'.k7 (by simpa using q)), k8 := fun q => put_ne _ (by decide) (h'.k8 (by simpa using q)), k9 := fun _ _ => ⟨wx.heap.size, put_at _ (by have := h'.off.size; omega), Nw.fresh4 wx _ _ _ h'.hn h'.it.lt⟩, k10 := fun q q' => (h'.k10 (by simpa using q) (by simpa using q')).imp fun _ g => ⟨put_ne _ (by decide) (g.1), (g.2).draw (Chg.of hb)⟩, k11 := fun q => absurd (h'.d11_9 (by simpa using q)) (by simp [hLi]), k12 := fun q => (h'.k12 (by simpa using q)).imp fun _ g => ⟨put_ne _ (by decide) (g.1), (g.2.1).draw (Chg.of hb), g.2.2⟩, pq := fun _ q => PQ9 (by simpa using q) }
        | 10, ho, hLi, hK' =>
          cases ho
          have hb := (Below.refl wx.heap.size wx).alloc (Nat.le_refl _) (.cells #[.int .i64 0, .int .i64 0, .int .i64 0, .int .i64 0] 34)
          have PQ10 : L 9 = true → ∃ p p' : Nat, (aa.put (some 10) (.pointer (some ⟨wx.heap.size, 0, none⟩))).tmps[9]? = some (.pointer (some ⟨p, 0, none⟩)) ∧ (aa.put (some 10) (.pointer (some ⟨wx.heap.size, 0, none⟩))).tmps[10]? = some (.pointer (some ⟨p', 0, none⟩)) ∧ p ≠ p' := by
            intro hl
            cases hz : L 11 with
            | false =>
              obtain ⟨p, e, hN⟩ := h'.k9 hl hz
              have := hN.lt
              exact ⟨p, wx.heap.size, put_ne _ (by decide) e, put_at _ (by have := h'.off.size; omega), by omega⟩
            | true =>
              obtain ⟨p, e, hN, -⟩ := h'.k11 hz
              have := hN.lt
              exact ⟨p, wx.heap.size, put_ne _ (by decide) e, put_at _ (by have := h'.off.size; omega), by omega⟩
          go_simp
          exact hK' _ _ { off := h'.off.put (by decide) _, row := h'.row.next hb, it := h'.it.next hb, be := h'.be.trans (hb.mono h'.be.size), hn := Nat.le_trans h'.hn hb.size, h1 := h'.h1, hg := h'.hg, hw := h'.hw, d11_9 := fun q => by simpa using h'.d11_9 (by simpa using q), d12_10 := fun _ => by simp, k0 := fun q => put_ne _ (by decide) (h'.k0 (by simpa using q)), k1 := fun q => put_ne _ (by decide) (h'.k1 (by simpa using q)), k2 := fun q => put_ne _ (by decide) (h'.k2 (by simpa using q)), k3 := fun q => put_ne _ (by decide) (h'.k3 (by simpa using q)), k4 := fun q => put_ne _ (by decide) (h'.k4 (by simpa using q)), k5 := fun q => put_ne _ (by decide) (h'.k5 (by simpa using q)), k6 := fun q => put_ne _ (by decide) (h'.k6 (by simpa using q)), k7 := fun q => put_ne _ (by decide) (h'.k7 (by simpa using q)), k8 := fun q => put_ne _ (by decide) (h'.k8 (by simpa using q)), k9 := fun q q' => (h'.k9 (by simpa using q) (by simpa using q')).imp fun _ g => ⟨put_ne _ (by decide) (g.1), (g.2).draw (Chg.of hb)⟩, k10 := fun _ _ => ⟨wx.heap.size, put_at _ (by have := h'.off.size; omega), Nw.fresh4 wx _ _ _ h'.hn h'.it.lt⟩, k11 := fun q => (h'.k11 (by simpa using q)).imp fun _ g => ⟨put_ne _ (by decide) (g.1), (g.2.1).draw (Chg.of hb), g.2.2⟩, k12 := fun q => absurd (h'.d12_10 (by simpa using q)) (by simp [hLi]), pq := fun q _ => PQ10 (by simpa using q) }
        | 11, ho, hLi, hK' =>
          cases ho
          have l9 := (hdeps ⟨9, .data⟩ (by simp) (by rfl))
          obtain ⟨k, ea, hN⟩ := h'.k9 l9 hLi
          have eb := h'.k4 (hdeps ⟨4, .data⟩ (by simp) (by rfl))
          have hge := hN.ge
          have h1n := h'.h1
          have hgn := h'.hg
          have hwn := h'.hw
          have hn1 : g1 ≠ k := by omega
          have hng : g ≠ k := by omega
          have hot : ∀ p : Nat, L 10 = true → aa.tmps[10]? = some (.pointer (some ⟨p, 0, none⟩)) → p ≠ k := by
            intro p hl e
            obtain ⟨x, y, e1, e2, e3⟩ := h'.pq l9 hl
            have := ptr_inj e1 ea
            have := ptr_inj e2 e
            omega
          refine wp_store_mid 34 (.tmp 9) (.tmp 49) rfl k 0 #[.int .i64 (S i' 0), .int .i64 (S i' 1), .int .i64 (S i' 2), .int .i64 (S i' 3)] (eval_of ea) (eval_of eb) hN.th (by kernel_rfl) (by simp [Value.oneCell']) ?_
          exact hK' _ _ { off := h'.off, row := h'.row.sets hn1 _ _, it := h'.it.sets hng _, be := below_sets (by omega) _ _ _ h'.be, hn := by rw [size_sets]; exact h'.hn, h1 := h'.h1, hg := h'.hg, hw := h'.hw, d11_9 := fun _ => by simpa using l9, d12_10 := fun q => by simpa using h'.d12_10 (by simpa using q), k0 := fun q => (h'.k0 (by simpa using q)), k1 := fun q => (h'.k1 (by simpa using q)), k2 := fun q => (h'.k2 (by simpa using q)), k3 := fun q => (h'.k3 (by simpa using q)), k4 := fun q => (h'.k4 (by simpa using q)), k5 := fun q => (h'.k5 (by simpa using q)), k6 := fun q => (h'.k6 (by simpa using q)), k7 := fun q => (h'.k7 (by simpa using q)), k8 := fun q => (h'.k8 (by simpa using q)), k9 := fun _ q => absurd q (by simp), k10 := fun q q' => (h'.k10 (by simpa using q) (by simpa using q')).imp fun x g => ⟨g.1, (g.2).far (hot x (by simpa using q) g.1) _⟩, k11 := fun _ => ⟨k, ea, Lit.put4 hN, hge⟩, k12 := fun q => (h'.k12 (by simpa using q)).imp fun x g => ⟨g.1, (g.2.1).far (hot x (h'.d12_10 (by simpa using q)) g.1) _, g.2.2⟩, pq := fun q q' => h'.pq (by simpa using q) (by simpa using q') }
        | 12, ho, hLi, hK' =>
          cases ho
          have l10 := (hdeps ⟨10, .data⟩ (by simp) (by rfl))
          obtain ⟨k, ea, hN⟩ := h'.k10 l10 hLi
          have eb := h'.k8 (hdeps ⟨8, .data⟩ (by simp) (by rfl))
          have hge := hN.ge
          have h1n := h'.h1
          have hgn := h'.hg
          have hwn := h'.hw
          have hn1 : g1 ≠ k := by omega
          have hng : g ≠ k := by omega
          have hot : ∀ p : Nat, L 9 = true → aa.tmps[9]? = some (.pointer (some ⟨p, 0, none⟩)) → p ≠ k := by
            intro p hl e
            obtain ⟨x, y, e1, e2, e3⟩ := h'.pq hl l10
            have := ptr_inj e2 ea
            have := ptr_inj e1 e
            omega
          refine wp_store_mid 34 (.tmp 10) (.tmp 53) rfl k 0 #[.int .i64 (S i 0), .int .i64 (S i 1), .int .i64 (S i 2), .int .i64 (S i 3)] (eval_of ea) (eval_of eb) hN.th (by kernel_rfl) (by simp [Value.oneCell']) ?_
          exact hK' _ _ { off := h'.off, row := h'.row.sets hn1 _ _, it := h'.it.sets hng _, be := below_sets (by omega) _ _ _ h'.be, hn := by rw [size_sets]; exact h'.hn, h1 := h'.h1, hg := h'.hg, hw := h'.hw, d11_9 := fun q => by simpa using h'.d11_9 (by simpa using q), d12_10 := fun _ => by simpa using l10, k0 := fun q => (h'.k0 (by simpa using q)), k1 := fun q => (h'.k1 (by simpa using q)), k2 := fun q => (h'.k2 (by simpa using q)), k3 := fun q => (h'.k3 (by simpa using q)), k4 := fun q => (h'.k4 (by simpa using q)), k5 := fun q => (h'.k5 (by simpa using q)), k6 := fun q => (h'.k6 (by simpa using q)), k7 := fun q => (h'.k7 (by simpa using q)), k8 := fun q => (h'.k8 (by simpa using q)), k9 := fun q q' => (h'.k9 (by simpa using q) (by simpa using q')).imp fun x g => ⟨g.1, (g.2).far (hot x (by simpa using q) g.1) _⟩, k10 := fun _ q => absurd q (by simp), k11 := fun q => (h'.k11 (by simpa using q)).imp fun x g => ⟨g.1, (g.2.1).far (hot x (h'.d11_9 (by simpa using q)) g.1) _, g.2.2⟩, k12 := fun _ => ⟨k, ea, Lit.put4 hN, hge⟩, pq := fun q q' => h'.pq (by simpa using q) (by simpa using q') }
        | i0 + 13, ho, hLi, hK' => cases ho
      · intro L aa wx h' hall
        have z_0 := h'.k0 (hall 0 (by decide))
        have z_1 := h'.k1 (hall 1 (by decide))
        have z_2 := h'.k2 (hall 2 (by decide))
        have z_3 := h'.k3 (hall 3 (by decide))
        have z_4 := h'.k4 (hall 4 (by decide))
        have z_5 := h'.k5 (hall 5 (by decide))
        have z_6 := h'.k6 (hall 6 (by decide))
        have z_7 := h'.k7 (hall 7 (by decide))
        have z_8 := h'.k8 (hall 8 (by decide))
        obtain ⟨p_11, z_11, hL_11, hh_11⟩ := h'.k11 (hall 11 (by decide))
        obtain ⟨p_12, z_12, hL_12, hh_12⟩ := h'.k12 (hall 12 (by decide))
        have hfr := h'.off.rebuild (fun d' => if d' = 45 then .slice (some ⟨g1, 0, none⟩) m c1 else if d' = 46 then .int .i64 (i : Int) else if d' = 47 then .int .i64 (i' : Int) else if d' = 48 then .pointer (some ⟨g1, i' * 4, none⟩) else if d' = 49 then .agg #[.int .i64 (S i' 0), .int .i64 (S i' 1), .int .i64 (S i' 2), .int .i64 (S i' 3)] else if d' = 50 then .slice (some ⟨g1, 0, none⟩) m c1 else if d' = 51 then .int .i64 (i : Int) else if d' = 52 then .pointer (some ⟨g1, i * 4, none⟩) else if d' = 53 then .agg #[.int .i64 (S i 0), .int .i64 (S i 1), .int .i64 (S i 2), .int .i64 (S i 3)] else if d' = 9 then .pointer (some ⟨p_11, 0, none⟩) else if d' = 10 then .pointer (some ⟨p_12, 0, none⟩) else undef) (by
          intro d' hd'
          simp only [List.mem_cons, List.not_mem_nil, or_false] at hd'
          rcases hd' with rfl | rfl | rfl | rfl | rfl | rfl | rfl | rfl | rfl | rfl | rfl
          · exact z_0
          · exact z_1
          · exact z_2
          · exact z_3
          · exact z_4
          · exact z_5
          · exact z_6
          · exact z_7
          · exact z_8
          · exact z_11
          · exact z_12
          )
        simp only [List.foldl_cons, List.foldl_nil] at hfr
        rw [← HA.out] at hfr
        have hC : (Both (Both (Lit p_11 g [S i' 0, S i' 1, S i' 2, S i' 3]) (Lit p_12 g [S i 0, S i 1, S i 2, S i 3])) (Both (Both (Row g1 (m * 4) (m * 4) (fun j => .int .i64 (S (j / 4) (j % 4)))) (ItC t g)) (Below w.heap.size w))) wx := ⟨⟨hL_11, hL_12⟩, ⟨⟨h'.row, h'.it⟩, h'.be⟩⟩
        rw [hfr]
        clear hfr h' hall HA hsz hA6 hA8 z_0 z_1 z_2 z_3 z_4 z_5 z_6 z_7 z_8 z_11 z_12 hL_11 hL_12 hh_11 hh_12
        generalize p_11 = p at *
        generalize p_12 = q at *
        simp [Act.put]
        --CUT2
        clear hT ei wi
        obtain ⟨hx0, hx1⟩ := hFi
        have bc := crs_bd B0 B1 B2 B3 hd
        have bs := ds_bd B0 B1 B2 B3
        have CR := fun w => Lib.hid (crossR_any (S i' 0) (S i' 1) (S i' 2) (S i' 3) (S i 0) (S i 1) (S i 2) (S i 3) w ⟨⟨by omega, by omega⟩, by omega, by omega⟩ ⟨⟨by omega, by omega⟩, by omega, by omega⟩)
        have FL := fun w => Lib.hid (flatP_any (min (S i' 2) (S i 2)) ((S i' 0 - S i 0) * (S i' 0 - S i 0) + (S i' 1 - S i 1) * (S i' 1 - S i 1)) w (by omega) (by omega))
        rw [decide_eq_true hx1] at FL
        have wc : IntKind.i64.wrap ((S i' 0 * S i 1 - S i' 1 * S i 0) * t.dir) = (S i' 0 * S i 1 - S i' 1 * S i 0) * t.dir := wr_in (by omega) (by omega)
        have d1 : IntKind.i64.wrap (S i' 0 - S i 0) = S i' 0 - S i 0 := wr_in (by omega) (by omega)
        have d2 : IntKind.i64.wrap (S i' 1 - S i 1) = S i' 1 - S i 1 := wr_in (by omega) (by omega)
        have d3 : IntKind.i64.wrap ((S i' 0 - S i 0) * (S i' 0 - S i 0)) = (S i' 0 - S i 0) * (S i' 0 - S i 0) := wr_in (by omega) (by omega)
        have d4 : IntKind.i64.wrap ((S i' 1 - S i 1) * (S i' 1 - S i 1)) = (S i' 1 - S i 1) * (S i' 1 - S i 1) := wr_in (by omega) (by omega)
        have d5 : IntKind.i64.wrap ((S i' 0 - S i 0) * (S i' 0 - S i 0) + (S i' 1 - S i 1) * (S i' 1 - S i 1)) = (S i' 0 - S i 0) * (S i' 0 - S i 0) + (S i' 1 - S i 1) * (S i' 1 - S i 1) := wr_in (by omega) (by omega)
        have hcd : decide ((S i' 0 * S i 1 - S i' 1 * S i 0) * t.dir ≤ 0) = false := decide_eq_false (by omega)
        have hcn : ¬ (S i' 0 * S i 1 - S i' 1 * S i 0) * t.dir ≤ 0 := by omega
        clear bc bs hx0 hx1 B0 B1 B2 B3
        go_upto_region 11 with fail
        --CUT3
        (refine wp_region_class (Both (Both (Lit p g [S i' 0, S i' 1, S i' 2, S i' 3]) (Lit q g [S i 0, S i 1, S i 2, S i 3])) (Both (Both (Row g1 (m * 4) (m * 4) (fun j => .int .i64 (S (j / 4) (j % 4)))) (ItC t g)) (Below w.heap.size w))) ⟨⟨hC.l.l.draw (Chg.of (Below.refl _ _).drew), hC.l.r.draw (Chg.of (Below.refl _ _).drew)⟩, ⟨⟨hC.r.l.l.next (Below.refl _ _).drew, hC.r.l.r.next (Below.refl _ _).drew⟩, hC.r.r.drew⟩⟩ (by kernel_rfl) (by kernel_rfl) ?_; repeat (first | go_big_quiet_skip | (refine wpQuiet_step (fun qK9 qH9 => ?_); go_simp; first | (refine qH9 _ ?_; clear qH9 qK9) | (apply Exists.intro; refine ⟨?_, qH9 _ ?_⟩; (first | (intros; rfl) | ((intro wx hC; first | (with_reducible exact Calls.lays (CR wx).out (fun w' hb => ⟨⟨hC.l.l.draw (Chg.of hb), hC.l.r.draw (Chg.of hb)⟩, ⟨⟨hC.r.l.l.next hb, hC.r.l.r.next hb⟩, hC.r.r.trans (hb.mono hC.r.r.size)⟩⟩)) | (with_reducible exact Calls.layq (FL wx).out hC) | (have u0 := hC.l.l.c 0 _ rfl; have u1 := hC.l.l.c 1 _ rfl; have u2 := hC.l.l.c 2 _ rfl; have u3 := hC.l.l.c 3 _ rfl; have v0 := hC.l.r.c 0 _ rfl; have v1 := hC.l.r.c 1 _ rfl; have v2 := hC.l.r.c 2 _ rfl; have v3 := hC.l.r.c 3 _ rfl; have y12 : wx.cell? ⟨g, 12, none⟩ = some (.int .i64 t.dir) := hC.r.l.r.rg 12 (.int .i64 t.dir) rfl; go_simp; first | done | rfl)))); clear qH9 qK9))))
        refine wpQuiet_nil ?_
        clear hC
        intro wy hC
        --CUT4
        go_wp2_with fail
        go_roundw
        case rel => exact ⟨i + 1, by omega, by omega, by go_num, hC.r⟩
        case measure => simp [intOf]; omega
    · go_wp2_with fail
      go_ret
      exact ⟨rfl, hT.r⟩
end Go.Proofs.Ytkjjoclbjkpdaaa
