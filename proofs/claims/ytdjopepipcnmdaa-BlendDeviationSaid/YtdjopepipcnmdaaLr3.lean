/- Proved here: the reference's cut leaves out leading zeros; cmp compares numbers by their digits; no conditions but canonical digits. -/
import Derived.Test.YtdjopepipcnmdaaLr2
import Derived.Test.YtdjopepipcnmdaaWw2
import Derived.Deep.QuietTactic
namespace Go.Proofs.Ytdjopepipcnmdaa
open Go.RowKit
set_option linter.unusedVariables false
set_option maxHeartbeats 1600000 in
theorem cut_any (ds : List Nat) (v : Value) (w : World) (hs : Sl w v ds) (hd : Dig ds) (hl : ds.length ≤ 1000) :
    Calls Try.prog 65 #[v] w fun e w' => ∃ u, e = .returned u ∧ Sl w' u (dg (val ds)) ∧ Below w.heap.size w w' := by
  obtain ⟨A, c, rfl, hc, hcell⟩ := hs
  have HC := Lib.hid hcell
  have HD := Lib.hid hd
  clear hcell hd
  go_enter Try.func65, Try.ntmps65
  go_wp2
  go_loopw [0] (fun s wr => ∃ m : Nat, s = .slice A m c ∧ m ≤ ds.length ∧ (∀ k, m ≤ k → k < ds.length → ds.getD k 0 = 0) ∧ wr = w) (fun s _ => match s with | .slice _ n _ => n | _ => 0)
  case atStart => exact ⟨ds.length, rfl, Nat.le_refl _, fun k h1 h2 => by omega, rfl⟩
  case round =>
    obtain ⟨m, rfl, hm, hz, rfl⟩ := hrel
    have HZ := Lib.hid hz
    clear hz
    have fin : (m = 0 ∨ ds.getD (m - 1) 0 ≠ 0) → Hid (Sl wr (.slice A m c) (dg (val ds))) := fun h => by
      have e := trim ds m hm HD.out HZ.out h
      show Sl wr _ _
      rw [← e]
      have el : (ds.take m).length = m := by simp; omega
      refine ⟨A, c, by rw [el], by omega, fun h0 => ?_⟩
      rw [el] at h0
      obtain ⟨g, rfl, hg, hk⟩ := HC.out (by omega)
      refine ⟨g, rfl, hg, fun k hk2 => ?_⟩
      rw [el] at hk2
      rw [getD_take _ _ _ hk2]
      exact hk k (by omega)
    rcases Nat.eq_zero_or_pos m with h0 | h0
    · have F := fin (Or.inl h0)
      subst h0
      clear fin
      go_wp2
      go_ret
      exact ⟨_, rfl, F.out, Below.refl _ _⟩
    · obtain ⟨g, rfl, hg, hk⟩ := HC.out (by omega)
      have hx : wr.cell? ⟨g, m - 1, none⟩ = some (dv (ds.getD (m - 1) 0)) := hk (m - 1) (by omega)
      obtain ⟨d, hdd⟩ : ∃ d, ds.getD (m - 1) 0 = d := ⟨_, rfl⟩
      rw [hdd] at hx fin
      unfold dv at hx
      obtain ⟨j, rfl⟩ : ∃ j, m = j + 1 := ⟨m - 1, by omega⟩
      simp only [Nat.add_sub_cancel] at hx hdd
      by_cases hd0 : d = 0
      · subst hd0
        clear fin
        have HQ := Lib.hid hdd
        clear hdd
        go_wp2
        go_roundw
        case rel =>
          refine ⟨j, rfl, by omega, fun k h1 h2 => ?_, by trivial⟩
          rcases Nat.eq_or_lt_of_le h1 with h3 | h3
          · rw [← h3]; exact HQ.out
          · exact HZ.out k (by omega) h2
        case measure => simp
      · have F := fin (Or.inr hd0)
        clear fin
        have e0 : ((d : Int) == 0) = false := by simp; omega
        clear hd0 hdd
        go_wp2
        go_ret
        exact ⟨_, rfl, F.out, Below.refl _ _⟩
theorem drop_succ_eq {a b : List Nat} {k : Nat} (h : a.drop (k + 1) = b.drop (k + 1)) (hl : a.length = b.length) (hk : k < a.length) (e : a.getD k 0 = b.getD k 0) : a.drop k = b.drop k := by
  rw [List.drop_eq_getElem_cons hk, List.drop_eq_getElem_cons (show k < b.length by omega), h]
  congr 1
  rw [List.getD_eq_getElem?_getD, List.getD_eq_getElem?_getD, List.getElem?_eq_getElem hk, List.getElem?_eq_getElem (show k < b.length by omega)] at e
  exact e
set_option maxRecDepth 20000 in
set_option maxHeartbeats 1600000 in
theorem cmpL_any (M N : Nat) (u v : Value) (w : World) (hu : Sl w u (dg M)) (hv : Sl w v (dg N)) (hM : (dg M).length ≤ 1000) (hN : (dg N).length ≤ 1000) :
    Calls Try.prog 53 #[u, v] w fun e w' => e = .returned (.int .i64 (cmpN M N)) ∧ Below w.heap.size w w' := by
  obtain ⟨A, c, rfl, hc, hcell⟩ := hu
  obtain ⟨A2, c2, rfl, hc2, hcell2⟩ := hv
  have HC := Lib.hid hcell
  have HC2 := Lib.hid hcell2
  have HVA := Lib.hid (val_dg M)
  have HVB := Lib.hid (val_dg N)
  have HDA := Lib.hid (dg_dig M)
  have HDB := Lib.hid (dg_dig N)
  have HLL := Lib.hid (len_less (M := M) (N := N))
  have HLG := Lib.hid (len_less (M := N) (N := M))
  generalize dg M = a at *
  generalize dg N = b at *
  clear hcell hcell2
  by_cases hl : a.length = b.length
  · have HL := Lib.hid hl
    rw [← hl]
    rw [← hl] at hN hc2
    obtain ⟨n, hn⟩ : ∃ n, a.length = n := ⟨_, rfl⟩
    have HNn := Lib.hid hn
    rw [hn] at hM hN hc hc2 ⊢
    clear hl hn
    go_enter Try.func53, Try.ntmps53
    go_wp2
    go_loopw [5] (fun s wr => ∃ (k : Nat) (i : Int), s = .int .i64 i ∧ i = (k : Int) - 1 ∧ k ≤ n ∧ a.drop k = b.drop k ∧ Below w.heap.size w wr) (fun s _ => (intOf s + 1).toNat)
    case atStart => exact ⟨n, _, rfl, rfl, Nat.le_refl _, by rw [← HNn.out, List.drop_length, HL.out, List.drop_length], Below.refl _ _⟩
    case round =>
      obtain ⟨k, i, rfl, hi, hk, hdr, hb⟩ := hrel
      have HDR := Lib.hid hdr
      clear hdr
      rcases Nat.eq_zero_or_pos k with h0 | h0
      · subst h0
        obtain rfl : i = -1 := by omega
        clear hi
        have HF : Hid (cmpN M N = 0) := by
          have e := HDR.out
          rw [List.drop_zero, List.drop_zero] at e
          have : M = N := by rw [← HVA.out, ← HVB.out, e]
          show cmpN M N = 0
          unfold cmpN; rw [if_neg (by omega), if_pos this]
        go_wp2
        go_ret
        exact ⟨by rw [HF.out]; rfl, hb⟩
      · obtain ⟨j, rfl⟩ : ∃ j, k = j + 1 := ⟨k - 1, by omega⟩
        obtain rfl : i = (j : Int) := by omega
        have hjn : j < n := by omega
        clear hi h0
        obtain ⟨g, rfl, hg, hcg⟩ := HC.out (by have := HNn.out; omega)
        obtain ⟨g2, rfl, hg2, hcg2⟩ := HC2.out (by have := HNn.out; have := HL.out; omega)
        have hx : wr.cell? ⟨g, j, none⟩ = some (dv (a.getD j 0)) := (hb.cell (p := ⟨g, j, none⟩) hg).trans (hcg j (by have := HNn.out; omega))
        have hy : wr.cell? ⟨g2, j, none⟩ = some (dv (b.getD j 0)) := (hb.cell (p := ⟨g2, j, none⟩) hg2).trans (hcg2 j (by have := HNn.out; have := HL.out; omega))
        have V1 : Hid (a.getD j 0 < b.getD j 0 → cmpN M N = -1) := fun h => by
          have := val_less HDA.out HDB.out j HDR.out HL.out (by have := HNn.out; omega) h
          rw [HVA.out, HVB.out] at this
          exact if_pos this
        have V2 : Hid (b.getD j 0 < a.getD j 0 → cmpN M N = 1) := fun h => by
          have := val_less HDB.out HDA.out j HDR.out.symm HL.out.symm (by have := HNn.out; have := HL.out; omega) h
          rw [HVA.out, HVB.out] at this
          unfold cmpN; rw [if_neg (by omega), if_neg (by omega)]
        have V3 : Hid (a.getD j 0 = b.getD j 0 → a.drop j = b.drop j) := fun h => drop_succ_eq HDR.out HL.out (by have := HNn.out; omega) h
        generalize a.getD j 0 = p at *
        generalize b.getD j 0 = q at *
        unfold dv at hx hy
        clear hcg hcg2
        rcases Nat.lt_trichotomy p q with h | h | h
        · have F := Lib.hid (V1.out h)
          have h' : (p : Int) < q := by omega
          clear V1 V2 V3 h
          go_wp2
          go_quiet (fail)
          go_wp2
          go_ret
          exact ⟨by rw [F.out]; rfl, by first | exact hb | exact hb.drew | exact below_drewN hb _ | exact below_drewN (below_drewN hb _) _⟩
        · have F := Lib.hid (V3.out h)
          subst h
          clear V1 V2 V3
          go_wp2
          go_quiet (fail)
          go_wp2
          go_quiet (fail)
          go_wp2
          go_roundw
          case rel => exact ⟨j, _, rfl, rfl, by omega, F.out, by first | exact hb | exact hb.drew | exact below_drewN hb _⟩
          case measure => simp [intOf]
        · have F := Lib.hid (V2.out h)
          have h' : (q : Int) < p := by omega
          clear V1 V2 V3 h
          go_wp2
          go_quiet (fail)
          go_wp2
          go_quiet (fail)
          go_wp2
          go_ret
          exact ⟨by rw [F.out]; rfl, by first | exact hb | exact hb.drew | exact below_drewN hb _ | exact below_drewN (below_drewN hb _) _⟩
  · by_cases h : a.length < b.length
    · have F : Hid (cmpN M N = -1) := if_pos (HLL.out h)
      have e0 : ((a.length : Int) == b.length) = false := by simp; omega
      clear hl
      go_enter Try.func53, Try.ntmps53
      go_wp2
      go_ret
      exact ⟨by rw [F.out]; rfl, Below.refl _ _⟩
    · have F : Hid (cmpN M N = 1) := by have := HLG.out (by omega); show cmpN M N = 1; unfold cmpN; rw [if_neg (by omega), if_neg (by omega)]
      have e0 : ((a.length : Int) == b.length) = false := by simp; omega
      clear hl
      go_enter Try.func53, Try.ntmps53
      go_wp2
      go_ret
      exact ⟨by rw [F.out]; rfl, Below.refl _ _⟩
end Go.Proofs.Ytdjopepipcnmdaa

