/- Proved here: the reference's add adds two numbers by their digits; canonical digits, at most 400 each. -/
import Derived.Test.YtoahcdnlnihehaaLr4
namespace Go.Proofs.Ytoahcdnlnihehaa
open Go.RowKit
set_option linter.unusedVariables false
theorem add_step {vd p c x y ta tb V : Nat} (h : vd + p * c = ta + tb) (hV : V = c + x + y) : vd + p * (V % 65536) + p * 65536 * (V / 65536) = ta + p * x + (tb + p * y) := by
  have e := Nat.div_add_mod V 65536
  generalize V % 65536 = r at *
  generalize V / 65536 = s at *
  have e2 : p * r + p * 65536 * s = p * V := by rw [← e]; grind
  have e3 : p * V = p * c + p * x + p * y := by rw [hV]; grind
  omega
theorem getD_over {ds : List Nat} {i : Nat} (h : ds.length ≤ i) : ds.getD i 0 = 0 := by
  rw [List.getD_eq_getElem?_getD, List.getElem?_eq_none h]; rfl
theorem Dig.append {ds : List Nat} (h : Dig ds) {x : Nat} (hx : x < 65536) : Dig (ds ++ [x]) := by
  intro d hd
  rcases List.mem_append.1 hd with g | g
  · exact h d g
  · rw [List.mem_singleton.1 g]; exact hx
set_option maxHeartbeats 4000000 in
set_option maxRecDepth 100000 in
theorem addL_any (M N : Nat) (u v : Value) (w : World) (hu : Sl w u (dg M)) (hv : Sl w v (dg N)) (hM : (dg M).length ≤ 400) (hN : (dg N).length ≤ 400) :
    Calls Try.prog 45 #[u, v] w fun e w' => ∃ r, e = .returned r ∧ Sl w' r (dg (M + N)) ∧ Below w.heap.size w w' := by
  obtain ⟨i0, hi, hz0, hz1, hz2⟩ := info_parts info35
  obtain ⟨A, c, rfl, hc, hcell⟩ := hu
  obtain ⟨A2, c2, rfl, hc2, hcell2⟩ := hv
  have HC := Lib.hid hcell
  have HC2 := Lib.hid hcell2
  have HVA := Lib.hid (val_dg M)
  have HVB := Lib.hid (val_dg N)
  have HDA := Lib.hid (dg_dig M)
  have HDB := Lib.hid (dg_dig N)
  generalize dg M = a at *
  generalize dg N = b at *
  clear hcell hcell2
  obtain ⟨la, hla⟩ : ∃ n, a.length = n := ⟨_, rfl⟩
  obtain ⟨lb, hlb⟩ : ∃ n, b.length = n := ⟨_, rfl⟩
  have HLA := Lib.hid hla
  have HLB := Lib.hid hlb
  rw [hla] at hM hc ⊢
  rw [hlb] at hN hc2 ⊢
  clear hla hlb
  go_enter Try.func45, Try.ntmps45
  go_wp2
  go_loopw [5, 6, 7] (fun r s t wr => ∃ (i c : Nat) (ds : List Nat), s = .int .u64 (c : Int) ∧ t = .int .i64 (i : Int) ∧ ds.length = i ∧ wr.ownsRow w.heap.size 35 1 r ds.length (ds.map dv) ∧ Dig ds ∧ val ds + 65536 ^ i * c = val (a.take i) + val (b.take i) ∧ c ≤ 1 ∧ (i ≤ la ∨ i ≤ lb ∨ (c = 0 ∧ i ≤ 401)) ∧ Below w.heap.size w wr) (fun _ _ t _ => 402 - (intOf t).toNat)
  case atStart => exact ⟨0, 0, [], rfl, rfl, rfl, World.ownsRow_nil _ _ _ _, (fun d hd => by cases hd), by simp [val], by decide, by omega, Below.refl _ _⟩
  case round =>
  obtain ⟨i, c, ds, rfl, rfl, hl, hown, hd, hval, hc1, hbd, hb⟩ := hrel
  have HL := Lib.hid hl
  have HV := Lib.hid hval
  have HD := Lib.hid hd
  clear hl hval hd
  have hs := hb.size
  obtain ⟨ai, hai⟩ : ∃ d, a.getD i 0 = d := ⟨_, rfl⟩
  obtain ⟨bi, hbi⟩ : ∃ d, b.getD i 0 = d := ⟨_, rfl⟩
  have HAI := Lib.hid hai
  have HBI := Lib.hid hbi
  have hai2 : ai < 65536 := by rw [← hai]; exact getD_lt HDA.out i
  have hbi2 : bi < 65536 := by rw [← hbi]; exact getD_lt HDB.out i
  have HA0 : Hid (la ≤ i → ai = 0) := fun h => by rw [← hai]; exact getD_over (by have := HLA.out; omega)
  have HB0 : Hid (lb ≤ i → bi = 0) := fun h => by rw [← hbi]; exact getD_over (by have := HLB.out; omega)
  clear hai hbi
  obtain ⟨V, hV⟩ : ∃ V, c + ai + bi = V := ⟨_, rfl⟩
  have HVV : Hid (V = c + ai + bi) := hV.symm
  have HA := Lib.hid (and16 V (by omega))
  have hVb : V ≤ 131071 := by omega
  have HDD : Hid (Dig (ds ++ [V % 65536])) := HD.out.append (Nat.mod_lt _ (by decide))
  have HNX : Hid (val (ds ++ [V % 65536]) + 65536 ^ (i + 1) * (V / 65536) = val (a.take (i + 1)) + val (b.take (i + 1))) := by
    have := add_step HV.out HVV.out
    show _ = _
    rw [val_append, HL.out, val_take_succ, val_take_succ, HAI.out, HBI.out, Nat.pow_succ]
    exact this
  clear hV
  by_cases h1 : i < la <;> by_cases h2 : i < lb
  · -- both
    obtain ⟨g, rfl, hg, hcg⟩ := HC.out (by have := HLA.out; omega)
    have hx := (hb.cell (p := ⟨g, i, none⟩) hg).trans (hcg i (by have := HLA.out; omega))
    rw [HAI.out] at hx
    unfold dv at hx
    clear hcg
    obtain ⟨g2, rfl, hg2, hcg2⟩ := HC2.out (by have := HLB.out; omega)
    have hy := (hb.cell (p := ⟨g2, i, none⟩) hg2).trans (hcg2 i (by have := HLB.out; omega))
    rw [HBI.out] at hy
    unfold dv at hy
    clear hcg2
    go_upto_region 11 with fail
    rw [show ((c : Int) + ai + bi) = (V : Int) by have := HVV.out; omega]
    go_wp2_with (at_builtin; refine wpList_append_own _ rfl _ _ 41 rfl w.heap.size 35 i0 (.int .u64 0) 1 8 Try.underlying41 hi hz0 hz1 hz2 rfl (by decide) _ _ _ rfl (hown.alloc _) ⟨wr.heap.size, 0, none⟩ 1 1 [.int .u64 (bits .and .u64 (V : Int) 65535)] rfl rfl ?c1 ?c2 ?c3 ?c4 ?c5 ?_)
    case c1 =>
      intro j u hj
      match j, hj with
      | 0, hj => simp at hj; subst hj; simp [Addr.add, go_sem]
    case c2 => intro u hu; simp at hu; subst hu; rfl
    case c3 => have := HL.out; unfold maxLen; omega
    case c4 => have := HL.out; omega
    case c5 => simp; omega
    intro v' w1 hown' hgrow _
    rw [HA.out] at hown'
    have hb1 := grown_below hb hown hgrow
    have HO : Hid (w1.ownsRow w.heap.size 35 1 v' (ds ++ [V % 65536]).length ((ds ++ [V % 65536]).map dv)) := by
      show w1.ownsRow _ _ _ _ _ _
      rw [List.map_append, List.length_append]; exact hown'
    clear hown' hgrow hown hb
    go_wp2
    go_roundw
    case rel => exact ⟨i + 1, V / 65536, ds ++ [V % 65536], rfl, by go_num, by rw [List.length_append, HL.out]; rfl, HO.out, HDD.out, HNX.out, by omega, by have := HVV.out; omega, hb1⟩
    case measure => simp [intOf]; omega
  · -- the first alone
    have hb0 := HB0.out (by omega)
    obtain ⟨g, rfl, hg, hcg⟩ := HC.out (by have := HLA.out; omega)
    have hx := (hb.cell (p := ⟨g, i, none⟩) hg).trans (hcg i (by have := HLA.out; omega))
    rw [HAI.out] at hx
    unfold dv at hx
    clear hcg
    go_upto_region 11 with fail
    rw [show ((c : Int) + ai) = (V : Int) by have := HVV.out; omega]
    go_wp2_with (at_builtin; refine wpList_append_own _ rfl _ _ 41 rfl w.heap.size 35 i0 (.int .u64 0) 1 8 Try.underlying41 hi hz0 hz1 hz2 rfl (by decide) _ _ _ rfl (hown.alloc _) ⟨wr.heap.size, 0, none⟩ 1 1 [.int .u64 (bits .and .u64 (V : Int) 65535)] rfl rfl ?c1 ?c2 ?c3 ?c4 ?c5 ?_)
    case c1 =>
      intro j u hj
      match j, hj with
      | 0, hj => simp at hj; subst hj; simp [Addr.add, go_sem]
    case c2 => intro u hu; simp at hu; subst hu; rfl
    case c3 => have := HL.out; unfold maxLen; omega
    case c4 => have := HL.out; omega
    case c5 => simp; omega
    intro v' w1 hown' hgrow _
    rw [HA.out] at hown'
    have hb1 := grown_below hb hown hgrow
    have HO : Hid (w1.ownsRow w.heap.size 35 1 v' (ds ++ [V % 65536]).length ((ds ++ [V % 65536]).map dv)) := by
      show w1.ownsRow _ _ _ _ _ _
      rw [List.map_append, List.length_append]; exact hown'
    clear hown' hgrow hown hb
    go_wp2
    go_roundw
    case rel => exact ⟨i + 1, V / 65536, ds ++ [V % 65536], rfl, by go_num, by rw [List.length_append, HL.out]; rfl, HO.out, HDD.out, HNX.out, by omega, by have := HVV.out; omega, hb1⟩
    case measure => simp [intOf]; omega
  · -- the second alone
    have ha0 := HA0.out (by omega)
    obtain ⟨g2, rfl, hg2, hcg2⟩ := HC2.out (by have := HLB.out; omega)
    have hy := (hb.cell (p := ⟨g2, i, none⟩) hg2).trans (hcg2 i (by have := HLB.out; omega))
    rw [HBI.out] at hy
    unfold dv at hy
    clear hcg2
    go_upto_region 11 with fail
    rw [show ((c : Int) + bi) = (V : Int) by have := HVV.out; omega]
    go_wp2_with (at_builtin; refine wpList_append_own _ rfl _ _ 41 rfl w.heap.size 35 i0 (.int .u64 0) 1 8 Try.underlying41 hi hz0 hz1 hz2 rfl (by decide) _ _ _ rfl (hown.alloc _) ⟨wr.heap.size, 0, none⟩ 1 1 [.int .u64 (bits .and .u64 (V : Int) 65535)] rfl rfl ?c1 ?c2 ?c3 ?c4 ?c5 ?_)
    case c1 =>
      intro j u hj
      match j, hj with
      | 0, hj => simp at hj; subst hj; simp [Addr.add, go_sem]
    case c2 => intro u hu; simp at hu; subst hu; rfl
    case c3 => have := HL.out; unfold maxLen; omega
    case c4 => have := HL.out; omega
    case c5 => simp; omega
    intro v' w1 hown' hgrow _
    rw [HA.out] at hown'
    have hb1 := grown_below hb hown hgrow
    have HO : Hid (w1.ownsRow w.heap.size 35 1 v' (ds ++ [V % 65536]).length ((ds ++ [V % 65536]).map dv)) := by
      show w1.ownsRow _ _ _ _ _ _
      rw [List.map_append, List.length_append]; exact hown'
    clear hown' hgrow hown hb
    go_wp2
    go_roundw
    case rel => exact ⟨i + 1, V / 65536, ds ++ [V % 65536], rfl, by go_num, by rw [List.length_append, HL.out]; rfl, HO.out, HDD.out, HNX.out, by omega, by have := HVV.out; omega, hb1⟩
    case measure => simp [intOf]; omega
  · -- none
    have ha0 := HA0.out (by omega)
    have hb0 := HB0.out (by omega)
    by_cases h3 : c = 0
    · subst h3
      have HF : Hid (val ds = M + N) := by
        have h := HV.out
        rw [List.take_of_length_le (by have := HLA.out; omega), List.take_of_length_le (by have := HLB.out; omega), HVA.out, HVB.out, Nat.mul_zero, Nat.add_zero] at h
        exact h
      have CU := fun r h => Lib.hid (cut_any ds r wr h HD.out (by have := HL.out; omega))
      rw [HF.out] at CU
      have HS := Lib.hid (Sl.of_own hown)
      clear hown
      go_wp2_with fail
      refine (CU _ HS.out).out.mono ?_
      rintro e w2 ⟨r, rfl, hr, hb2⟩
      go_wp2
      go_ret
      exact ⟨_, rfl, hr, hb.trans (hb2.mono hb.size)⟩
    · have hc0 : (0 : Int) < c := by omega
      go_upto_region 11 with fail
      rw [show (c : Int) = (V : Int) by have := HVV.out; omega]
      go_wp2_with (at_builtin; refine wpList_append_own _ rfl _ _ 41 rfl w.heap.size 35 i0 (.int .u64 0) 1 8 Try.underlying41 hi hz0 hz1 hz2 rfl (by decide) _ _ _ rfl (hown.alloc _) ⟨wr.heap.size, 0, none⟩ 1 1 [.int .u64 (bits .and .u64 (V : Int) 65535)] rfl rfl ?c1 ?c2 ?c3 ?c4 ?c5 ?_)
      case c1 =>
        intro j u hj
        match j, hj with
        | 0, hj => simp at hj; subst hj; simp [Addr.add, go_sem]
      case c2 => intro u hu; simp at hu; subst hu; rfl
      case c3 => have := HL.out; unfold maxLen; omega
      case c4 => have := HL.out; omega
      case c5 => simp; omega
      intro v' w1 hown' hgrow _
      rw [HA.out] at hown'
      have hb1 := grown_below hb hown hgrow
      have HO : Hid (w1.ownsRow w.heap.size 35 1 v' (ds ++ [V % 65536]).length ((ds ++ [V % 65536]).map dv)) := by
        show w1.ownsRow _ _ _ _ _ _
        rw [List.map_append, List.length_append]; exact hown'
      clear hown' hgrow hown hb
      go_wp2
      go_roundw
      case rel => exact ⟨i + 1, V / 65536, ds ++ [V % 65536], rfl, by go_num, by rw [List.length_append, HL.out]; rfl, HO.out, HDD.out, HNX.out, by omega, by have := HVV.out; omega, hb1⟩
      case measure => simp [intOf]; omega
end Go.Proofs.Ytoahcdnlnihehaa
