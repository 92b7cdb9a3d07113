/- Proved here: the reference's mul multiplies two numbers by their digits; canonical digits, at most 400 each. -/
import Derived.Test.YtdjopepipcnmdaaLr3
namespace Go.Proofs.Ytdjopepipcnmdaa
open Go.RowKit
set_option linter.unusedVariables false
theorem getD_set {ds : List Nat} (j k x : Nat) (hj : j < ds.length) : (ds.set j x).getD k 0 = if k = j then x else ds.getD k 0 := by
  rw [List.getD_eq_getElem?_getD, List.getElem?_set, List.getD_eq_getElem?_getD]
  by_cases h : j = k
  · subst h; simp [hj]
  · rw [if_neg h, if_neg (fun e => h e.symm)]
theorem Dig.set {ds : List Nat} (h : Dig ds) (j : Nat) {x : Nat} (hx : x < 65536) : Dig (ds.set j x) := by
  intro d hd
  rcases List.mem_or_eq_of_mem_set hd with g | g
  · exact h d g
  · subst g; exact hx
theorem zeros_getD (n k : Nat) : (List.replicate n 0).getD k 0 = 0 := by
  rw [List.getD_eq_getElem?_getD, List.getElem?_replicate]; split <;> rfl
/-- one digit of the inner loop -/
theorem mul_step {V0 vd o ai bk c tb p q : Nat} {nv : Nat} (h : vd + p * q * c = V0 + p * (ai * tb)) (hset : nv + p * q * o = vd + p * q * ((o + ai * bk + c) % 65536)) :
    nv + p * q * 65536 * ((o + ai * bk + c) / 65536) = V0 + p * (ai * (tb + q * bk)) := by
  have e := Nat.div_add_mod (o + ai * bk + c) 65536
  generalize (o + ai * bk + c) % 65536 = r at *
  generalize (o + ai * bk + c) / 65536 = s at *
  have e2 : p * q * 65536 * s + p * q * r = p * q * o + p * q * (ai * bk) + p * q * c := by
    have : p * q * (65536 * s + r) = p * q * (o + ai * bk + c) := by rw [e]
    grind
  have e3 : p * (ai * (tb + q * bk)) = p * (ai * tb) + p * q * (ai * bk) := by grind
  rw [e3]
  omega
theorem pow_add3 (i k : Nat) : (65536 : Nat) ^ (i + k) = 65536 ^ i * 65536 ^ k := Nat.pow_add _ _ _
theorem and16w (y : Nat) (h : y < 18446744073709551616) : bits .and .u64 (y : Int) 65535 = ((y % 65536 : Nat) : Int) := and16 y h
def ownS (w : World) (B n : Nat) (ds : List Nat) : Prop := ds.length = n ∧ Dig ds ∧ w.ownsRow B 47 1 (.slice (some ⟨B, 0, none⟩) n n) n (ds.map dv)
theorem ownS.cell {w : World} {B n : Nat} {ds : List Nat} (h : ownS w B n ds) {j : Nat} (hj : j < n) : w.cell? ⟨B, j, none⟩ = some (.int .u64 ((ds.getD j 0 : Nat) : Int)) := by
  obtain ⟨hl, _, ho⟩ := h
  rw [ho.cellAt j (by omega)]
  simp [List.getD_eq_getElem?_getD, hl, hj, dv]
theorem ownS.set {w : World} {B n : Nat} {ds : List Nat} (h : ownS w B n ds) (j : Nat) {x : Nat} (hx : x < 65536) : ownS (w.setCell ⟨B, j, none⟩ (.int .u64 (x : Int))) B n (ds.set j x) := by
  obtain ⟨hl, hd, ho⟩ := h
  refine ⟨by simpa using hl, hd.set j hx, ?_⟩
  have := (ho.stored j (dv x)).1
  rwa [← List.map_set] at this
theorem ownS.drewN {w : World} {B n : Nat} {ds : List Nat} (h : ownS w B n ds) (k : Nat) : ownS (w.drewN k) B n ds := h
set_option maxHeartbeats 4000000 in
set_option maxRecDepth 100000 in
theorem mulL_any (M N : Nat) (u v : Value) (w : World) (hu : Sl w u (dg M)) (hv : Sl w v (dg N)) (hM : (dg M).length ≤ 400) (hN : (dg N).length ≤ 400) :
    Calls Try.prog 60 #[u, v] w fun e w' => ∃ r, e = .returned r ∧ Sl w' r (dg (M * N)) ∧ Below w.heap.size w w' := by
  obtain ⟨i0, hi, hz0, hz1, hz2⟩ := info_parts info35
  obtain ⟨A, c, rfl, hc, hcell⟩ := hu
  obtain ⟨A2, c2, rfl, hc2, hcell2⟩ := hv
  have HC := Lib.hid hcell
  have HC2 := Lib.hid hcell2
  have HVA := Lib.hid (val_dg M)
  have HVB := Lib.hid (val_dg N)
  have HDA := Lib.hid (dg_dig M)
  have HDB := Lib.hid (dg_dig N)
  generalize dg M = a at *
  generalize dg N = b at *
  clear hcell hcell2
  obtain ⟨la, hla⟩ : ∃ n, a.length = n := ⟨_, rfl⟩
  obtain ⟨lb, hlb⟩ : ∃ n, b.length = n := ⟨_, rfl⟩
  have HLA := Lib.hid hla
  have HLB := Lib.hid hlb
  rw [hla] at hM hc ⊢
  rw [hlb] at hN hc2 ⊢
  clear hla hlb
  go_enter Try.func60, Try.ntmps60
  go_wp2_with (refine wpList_make_full _ rfl (.tmp 14) (.tmp 14) 63 rfl w.heap.size 47 i0 (.int .u64 0) 1 Try.underlying63 hi hz0 hz1 .i64 .i64 _ _ (la + lb) rfl rfl (by omega) (by omega) (by rw [hz2]; omega) (by unfold maxLen; omega) (Nat.le_refl _) ?_; intro w1 hown hgr)
  have hS : ownS w1 w.heap.size (la + lb) (List.replicate (la + lb) 0) := by
    refine ⟨List.length_replicate, fun d hd => by rw [(List.mem_replicate.1 hd).2]; decide, ?_⟩
    rw [Nat.mul_one] at hown
    rw [List.map_replicate]
    have e : (madeCells (Value.int IntKind.u64 0).cells (la + lb)).toList = List.replicate (la + lb) (dv 0) := toList_madeCells_one _ _
    rw [e] at hown
    exact hown
  have hb1 : Below w.heap.size w w1 := (Below.refl _ _).grown hgr (Nat.le_refl _) (fun k hk => by cases hk)
  clear hown hgr
  go_loopw [6] (fun s wr => ∃ (i : Nat) (ds : List Nat), s = .int .i64 (i : Int) ∧ i ≤ la ∧ ownS wr w.heap.size (la + lb) ds ∧ val ds = val (a.take i) * val b ∧ (∀ j, i + lb ≤ j → j < la + lb → ds.getD j 0 = 0) ∧ Below w.heap.size w wr) (fun s _ => la - (intOf s).toNat)
  case atStart => exact ⟨0, _, rfl, Nat.zero_le _, hS, by rw [List.take_zero, val_zeros _ (fun k hk => zeros_getD _ k)]; simp [val], fun j _ h => zeros_getD _ j, hb1⟩
  case round =>
  clear hS hb1
  obtain ⟨i, ds, rfl, hi1, hS, hval, hz, hb⟩ := hrel
  have HVAL := Lib.hid hval
  have HZ := Lib.hid hz
  clear hval hz
  by_cases hil : i < la
  · obtain ⟨g, rfl, hg, hcg⟩ := HC.out (by have := HLA.out; omega)
    obtain ⟨ai, hai⟩ : ∃ d, a.getD i 0 = d := ⟨_, rfl⟩
    have HAI := Lib.hid hai
    have hai2 : ai < 65536 := by rw [← hai]; exact getD_lt HDA.out i
    clear hai
    have HS0 := Lib.hid hS
    obtain ⟨wo, rfl⟩ : ∃ wo : World, wo = wr := ⟨_, rfl⟩
    go_wp2
    go_loopw [7, 8] (fun s t wr => ∃ (k c : Nat) (es : List Nat), s = .int .u64 (c : Int) ∧ t = .int .i64 (k : Int) ∧ k ≤ lb ∧ c < 65536 ∧ ownS wr w.heap.size (la + lb) es ∧ val es + 65536 ^ i * 65536 ^ k * c = val ds + 65536 ^ i * (ai * val (b.take k)) ∧ (∀ j, i + lb ≤ j → j < la + lb → es.getD j 0 = 0) ∧ Below w.heap.size w wr) (fun _ t _ => lb - (intOf t).toNat)
    case atStart => exact ⟨0, 0, ds, rfl, rfl, Nat.zero_le _, by decide, HS0.out, by simp [val], HZ.out, hb⟩
    case round =>
    clear hS hb
    obtain ⟨k, c, es, rfl, rfl, hk, hcc, hS, hval, hz, hb⟩ := hrel
    have HV2 := Lib.hid hval
    have HZ2 := Lib.hid hz
    clear hval hz
    by_cases hkl : k < lb
    · obtain ⟨g2, rfl, hg2, hcg2⟩ := HC2.out (by have := HLB.out; omega)
      have hx := (hb.cell (p := ⟨g, i, none⟩) hg).trans (hcg i (by have := HLA.out; omega))
      have hy := (hb.cell (p := ⟨g2, k, none⟩) hg2).trans (hcg2 k (by have := HLB.out; omega))
      rw [HAI.out] at hx
      obtain ⟨bk, hbk⟩ : ∃ d, b.getD k 0 = d := ⟨_, rfl⟩
      have HBK := Lib.hid hbk
      have hbk2 : bk < 65536 := by rw [← hbk]; exact getD_lt HDB.out k
      rw [hbk] at hy
      unfold dv at hx hy
      have hoc := hS.cell (j := i + k) (by omega)
      obtain ⟨o, ho⟩ : ∃ d, es.getD (i + k) 0 = d := ⟨_, rfl⟩
      have HOO := Lib.hid ho
      have ho2 : o < 65536 := by rw [← ho]; exact getD_lt hS.2.1 (i + k)
      rw [ho] at hoc
      clear hbk ho hcg2
      have hik : i + k < la + lb := by omega
      have hmul := Nat.mul_le_mul (show ai ≤ 65535 by omega) (show bk ≤ 65535 by omega)
      obtain ⟨p, hp⟩ : ∃ p, ai * bk = p := ⟨_, rfl⟩
      have hw1 : IntKind.i64.wrap ((i : Int) + k) = ((i + k : Nat) : Int) := by rw [IntKind.wrap_i64]; omega
      have hi1 : (i : Int) + k < (la : Int) + lb := by omega
      have hi2 : 0 ≤ (i : Int) + k := by omega
      have hi3 : ((i : Int) + k).toNat = i + k := by omega
      have hw2 : IntKind.u64.wrap ((ai : Int) * bk) = (p : Int) := by rw [mulU, hp]; exact wrapU (by omega)
      obtain ⟨q, hq⟩ : ∃ q, o + p = q := ⟨_, rfl⟩
      have hw3 : IntKind.u64.wrap ((o : Int) + p) = (q : Int) := by rw [addU, hq]; exact wrapU (by omega)
      obtain ⟨V, hV⟩ : ∃ V, q + c = V := ⟨_, rfl⟩
      have hw4 : IntKind.u64.wrap ((q : Int) + c) = (V : Int) := by rw [addU, hV]; exact wrapU (by omega)
      have HVV : Hid (V = o + ai * bk + c) := by show V = _; omega
      have hVb : V ≤ 4294967295 := by omega
      have hVl : V < 18446744073709551616 := by omega
      clear hmul hp hq hV
      have HSH := Lib.hid hS
      have hfr : wr.frozen? ⟨w.heap.size, i + k, none⟩ = false := hS.2.2.frozenAt _
      clear hS
      go_wp2
      go_quiet (fail)
      clear hw1 hw2 hw3 hw4
      have HA := Lib.hid (and16 V hVl)
      go_wp2
      go_roundw
      case rel =>
        have hlen := HSH.out.1
        refine ⟨k + 1, V / 65536, es.set (i + k) (V % 65536), rfl, by go_num, by omega, by omega, ?_, ?_, fun j h1 h2 => ?_, (below_drewN hb _).setCell (Nat.le_refl _) _⟩
        · rw [HA.out]; exact (HSH.out.drewN _).set _ (Nat.mod_lt _ (by decide))
        · have e := val_set es (i + k) (V % 65536) (by omega)
          rw [HOO.out, pow_add3, HVV.out] at e
          have r := mul_step HV2.out e
          rw [HVV.out, val_take_succ, HBK.out, Nat.pow_succ, ← Nat.mul_assoc]
          exact r
        · rw [getD_set _ _ _ (by omega), if_neg (by omega)]; exact HZ2.out j h1 h2
      case measure => simp [intOf]; omega
    · obtain rfl : k = lb := by omega
      have hoc := hS.cell (j := i + k) (by omega)
      rw [HZ2.out (i + k) (Nat.le_refl _) (by omega)] at hoc
      have hfr : wr.frozen? ⟨w.heap.size, i + k, none⟩ = false := hS.2.2.frozenAt _
      have hi1' : (i : Int) + k < (la : Int) + k := by omega
      have hi2 : 0 ≤ (i : Int) + k := by omega
      have hi3 : ((i : Int) + k).toNat = i + k := by omega
      have HSH := Lib.hid hS
      clear hS
      go_wp2
      go_roundw
      case rel =>
        have hlen := HSH.out.1
        refine ⟨i + 1, es.set (i + k) c, by go_num, by omega, HSH.out.set _ hcc, ?_, fun j h1 h2 => ?_, hb.setCell (Nat.le_refl _) _⟩
        · have e := val_set es (i + k) c (by omega)
          rw [HZ2.out (i + k) (Nat.le_refl _) (by omega), pow_add3] at e
          have h := HV2.out
          rw [HVAL.out, ← HLB.out, List.take_length] at h
          rw [val_take_succ, HAI.out, Nat.add_mul]
          have e3 : 65536 ^ i * ai * val b = 65536 ^ i * (ai * val b) := Nat.mul_assoc _ _ _
          rw [e3, ← h, HLB.out]
          omega
        · rw [getD_set _ _ _ (by omega), if_neg (by omega)]; exact HZ2.out j (by omega) h2
      case measure => simp [intOf]; omega
  · obtain rfl : i = la := by omega
    have CU := Lib.hid (cut_any ds (.slice (some ⟨w.heap.size, 0, none⟩) (i + lb) (i + lb)) wr (by rw [← hS.1]; exact Sl.of_own (by rw [hS.1]; exact hS.2.2)) hS.2.1 (by rw [hS.1]; omega))
    have HF : Hid (val ds = M * N) := by
      show val ds = _
      rw [HVAL.out, ← HLA.out, List.take_length, HVA.out, HVB.out]
    rw [HF.out] at CU
    go_wp2_with fail
    refine CU.out.mono ?_
    rintro e w2 ⟨r, rfl, hr, hb2⟩
    go_wp2
    go_ret
    exact ⟨_, rfl, hr, hb.trans (hb2.mono hb.size)⟩
end Go.Proofs.Ytdjopepipcnmdaa

