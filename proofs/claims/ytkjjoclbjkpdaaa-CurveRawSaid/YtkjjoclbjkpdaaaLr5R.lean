/- Proved here: digits to the base 65536 as lists: value, canonical form, order, sums; no program in sight; no conditions. · the reference's limbs gives the digits of a number of 64 bits in memory of its own; no conditions. · the reference's cut leaves out leading zeros; cmp compares numbers by their digits; no conditions but canonical digits. · the reference's mul multiplies two numbers by their digits; canonical digits, at most 400 each. · Cmp of package wide compares the two products, for every argument. · the reference's product and Cmp; WideCmp returns true for every argument; no conditions but that integers are ints. -/
import Derived.Test.YtkjjoclbjkpdaaaWq2R
import Derived.OwnWalk
import Derived.Laws.OwnMore
import Derived.Deep.QuietTactic
import Derived.Lib.Hide
namespace Go.Proofs.Ytkjjoclbjkpdaaa
set_option linter.unusedVariables false
/-- the digits of n to the base 65536, the least one first, without leading zeros -/
def dg (n : Nat) : List Nat := if h : n = 0 then [] else n % 65536 :: dg (n / 65536)
  termination_by n
  decreasing_by omega
def val : List Nat → Nat
  | [] => 0
  | d :: t => d + 65536 * val t
theorem dg_zero : dg 0 = [] := by rw [dg]; rfl
theorem dg_pos {n : Nat} (h : 0 < n) : dg n = n % 65536 :: dg (n / 65536) := by rw [dg, dif_neg (by omega)]
theorem val_dg (n : Nat) : val (dg n) = n := by
  induction n using Nat.strongRecOn with
  | _ n ih =>
    rcases Nat.eq_zero_or_pos n with h | h
    · subst h; rw [dg_zero]; rfl
    · rw [dg_pos h, val, ih (n / 65536) (by omega)]; omega
def Dig (ds : List Nat) : Prop := ∀ d ∈ ds, d < 65536
theorem dg_dig (n : Nat) : Dig (dg n) := by
  induction n using Nat.strongRecOn with
  | _ n ih =>
    rcases Nat.eq_zero_or_pos n with h | h
    · subst h; rw [dg_zero]; intro d hd; cases hd
    · rw [dg_pos h]
      intro d hd
      rcases List.mem_cons.1 hd with g | g
      · omega
      · exact ih (n / 65536) (by omega) d g
theorem dg_len (k : Nat) : ∀ n, n < 65536 ^ k → (dg n).length ≤ k := by
  induction k with
  | zero => intro n h; have : n = 0 := by simpa using h
            subst this; rw [dg_zero]; exact Nat.le_refl _
  | succ k ih =>
    intro n h
    rcases Nat.eq_zero_or_pos n with g | g
    · subst g; rw [dg_zero]; exact Nat.zero_le _
    · rw [dg_pos g, List.length_cons]
      have := ih (n / 65536) (by rw [Nat.div_lt_iff_lt_mul (by decide), ← Nat.pow_succ]; exact h)
      omega
theorem val_lt (ds : List Nat) (h : Dig ds) : val ds < 65536 ^ ds.length := by
  induction ds with
  | nil => decide
  | cons d t ih =>
    have h1 := h d (List.mem_cons_self ..)
    have h2 := ih fun x hx => h x (List.mem_cons_of_mem _ hx)
    rw [val, List.length_cons, Nat.pow_succ]
    omega
theorem canon (ds : List Nat) (h : Dig ds) (hl : ds.length = 0 ∨ ds.getD (ds.length - 1) 0 ≠ 0) : ds = dg (val ds) := by
  induction ds with
  | nil => rw [val, dg_zero]
  | cons d t ih =>
    have h1 := h d (List.mem_cons_self ..)
    have hd := fun x hx => h x (List.mem_cons_of_mem _ hx)
    rcases hl with hl | hl
    · cases hl
    · cases t with
      | nil =>
        have : d ≠ 0 := by simpa using hl
        rw [val, val, dg_pos (by omega), show (d + 65536 * 0) / 65536 = 0 by omega, dg_zero, show (d + 65536 * 0) % 65536 = d by omega]
      | cons e t =>
        have g : (e :: t).getD ((e :: t).length - 1) 0 ≠ 0 := by simpa using hl
        have e1 := ih hd (Or.inr g)
        have hp : 0 < val (e :: t) := by
          rcases Nat.eq_zero_or_pos (val (e :: t)) with z | z
          · rw [z, dg_zero] at e1; cases e1
          · exact z
        rw [val, dg_pos (by omega), show (d + 65536 * val (e :: t)) / 65536 = val (e :: t) by omega, ← e1, show (d + 65536 * val (e :: t)) % 65536 = d by omega]
theorem val_split (ds : List Nat) : ∀ i, val ds = val (ds.take i) + 65536 ^ i * val (ds.drop i) := by
  induction ds with
  | nil => intro i; simp [val]
  | cons d t ih =>
    intro i
    cases i with
    | zero => simp [val]
    | succ i =>
      have := ih i
      simp only [List.take_succ_cons, List.drop_succ_cons, val, Nat.pow_succ]
      rw [this]
      grind
theorem val_zeros (ds : List Nat) (h : ∀ k, k < ds.length → ds.getD k 0 = 0) : val ds = 0 := by
  induction ds with
  | nil => rfl
  | cons d t ih =>
    have h0 : d = 0 := by simpa using h 0 (by simp)
    have ht := ih fun k hk => by simpa using h (k + 1) (by simp; omega)
    rw [val, h0, ht]
theorem getD_drop (ds : List Nat) (m k : Nat) : (ds.drop m).getD k 0 = ds.getD (m + k) 0 := by simp [List.getD_eq_getElem?_getD, List.getElem?_drop]
theorem getD_take (ds : List Nat) (m k : Nat) (h : k < m) : (ds.take m).getD k 0 = ds.getD k 0 := by simp [List.getD_eq_getElem?_getD, h]
/-- trailing zeros may be left out -/
theorem trim (ds : List Nat) (m : Nat) (hm : m ≤ ds.length) (h : Dig ds) (hz : ∀ k, m ≤ k → k < ds.length → ds.getD k 0 = 0) (hl : m = 0 ∨ ds.getD (m - 1) 0 ≠ 0) : ds.take m = dg (val ds) := by
  have e := val_split ds m
  have z : val (ds.drop m) = 0 := val_zeros _ fun k hk => by
    rw [getD_drop]; rw [List.length_drop] at hk; exact hz _ (by omega) (by omega)
  rw [z, Nat.mul_zero, Nat.add_zero] at e
  rw [e]
  have hlen : (ds.take m).length = m := by simp; omega
  refine canon _ (fun d hd => h d (List.mem_of_mem_take hd)) ?_
  rw [hlen]
  rcases hl with hl | hl
  · exact Or.inl hl
  · by_cases hm0 : m = 0
    · left; exact hm0
    · right; rw [getD_take _ _ _ (by omega)]; exact hl
theorem getD_lt {ds : List Nat} (h : Dig ds) (k : Nat) : ds.getD k 0 < 65536 := by
  rw [List.getD_eq_getElem?_getD]
  cases e : ds[k]? with
  | none => decide
  | some d => exact h d (List.mem_of_getElem? e)
theorem val_take_succ (ds : List Nat) (i : Nat) : val (ds.take (i + 1)) = val (ds.take i) + 65536 ^ i * ds.getD i 0 := by
  have e := val_split (ds.take (i + 1)) i
  rw [List.take_take, Nat.min_eq_left (by omega)] at e
  have e2 : val ((ds.take (i + 1)).drop i) = ds.getD i 0 := by
    rw [List.drop_take, show i + 1 - i = 1 by omega, List.take_one, List.head?_drop, List.getD_eq_getElem?_getD]
    cases ds[i]? <;> rfl
  rw [e, e2]
/-- order by the highest digit that differs -/
theorem val_less {a b : List Nat} (ha : Dig a) (hb : Dig b) (i : Nat) (hd : a.drop (i + 1) = b.drop (i + 1)) (hl : a.length = b.length) (hi : i < a.length) (h : a.getD i 0 < b.getD i 0) : val a < val b := by
  have ea := val_split a (i + 1)
  have eb := val_split b (i + 1)
  rw [val_take_succ] at ea eb
  rw [hd] at ea
  have la := val_lt (a.take i) fun d hd => ha d (List.mem_of_mem_take hd)
  have e1 : (a.take i).length = i := by simp; omega
  rw [e1] at la
  have hm := Nat.mul_le_mul_left (65536 ^ i) h
  rw [Nat.succ_eq_add_one, Nat.mul_add, Nat.mul_one] at hm
  omega
theorem len_less {M N : Nat} (h : (dg M).length < (dg N).length) : M < N := by
  refine Nat.not_le.mp fun hc => ?_
  have h1 := val_lt (dg M) (dg_dig M)
  rw [val_dg] at h1
  have := dg_len (dg M).length N (by omega)
  omega
theorem val_set (ds : List Nat) : ∀ (j x : Nat), j < ds.length → val (ds.set j x) + 65536 ^ j * ds.getD j 0 = val ds + 65536 ^ j * x := by
  induction ds with
  | nil => intro j x h; cases h
  | cons d t ih =>
    intro j x h
    cases j with
    | zero => simp [val]; omega
    | succ j =>
      have := ih j x (by simpa using h)
      simp only [List.set_cons_succ, val, List.getD_cons_succ, Nat.pow_succ]
      have e1 : 65536 ^ j * 65536 * t.getD j 0 = 65536 * (65536 ^ j * t.getD j 0) := by grind
      have e2 : 65536 ^ j * 65536 * x = 65536 * (65536 ^ j * x) := by grind
      rw [e1, e2]
      omega
end Go.Proofs.Ytkjjoclbjkpdaaa
namespace Go.Proofs.Ytkjjoclbjkpdaaa
open Go.RowKit
set_option linter.unusedVariables false
def dv (d : Nat) : Value := .int .u64 (d : Int)
/-- a slice that holds these digits at the head of a block -/
def Sl (w : World) (v : Value) (ds : List Nat) : Prop :=
  ∃ A c, v = .slice A ds.length c ∧ ds.length ≤ c ∧ (0 < ds.length → ∃ g, A = some ⟨g, 0, none⟩ ∧ g < w.heap.size ∧ ∀ k, k < ds.length → w.cell? ⟨g, k, none⟩ = some (dv (ds.getD k 0)))
theorem Sl.next {w w' : World} {v : Value} {ds : List Nat} (h : Sl w v ds) (hb : Below w.heap.size w w') : Sl w' v ds := by
  obtain ⟨A, c, rfl, hc, h⟩ := h
  refine ⟨A, c, rfl, hc, fun h0 => ?_⟩
  obtain ⟨g, rfl, hg, hk⟩ := h h0
  exact ⟨g, rfl, Nat.lt_of_lt_of_le hg hb.size, fun k hl => (hb.cell (p := ⟨g, k, none⟩) hg).trans (hk k hl)⟩
theorem Sl.of_own {w : World} {base : Nat} {e : TypeId} {v : Value} {ds : List Nat} (h : w.ownsRow base e 1 v ds.length (ds.map dv)) : Sl w v ds := by
  rcases h.2 with ⟨rfl, h0⟩ | ⟨g, cap, cur, rfl, _, hh, hn, _, _, _⟩
  · have e : ds = [] := List.eq_nil_of_length_eq_zero h0
    subst e
    exact ⟨none, 0, rfl, Nat.le_refl _, fun h1 => absurd h1 (Nat.lt_irrefl _)⟩
  · refine ⟨_, cap, rfl, hn, fun h0 => ⟨g, rfl, ?_, fun k hk => ?_⟩⟩
    · rcases Nat.lt_or_ge g w.heap.size with hlt | hge
      · exact hlt
      · rw [Array.getElem?_eq_none hge] at hh; cases hh
    · rw [h.cellAt k (by omega)]
      simp [List.getD_eq_getElem?_getD, hk]
theorem info35 : (Try.prog.info? 82).map (fun i => (i.zero, i.size, i.bytes)) = some (some (.int .u64 0), 1, 8) := by kernel_rfl
theorem and16 (y : Nat) (h : y < 18446744073709551616) : bits .and .u64 (y : Int) 65535 = ((y % 65536 : Nat) : Int) := by
  have e := Nat.and_two_pow_sub_one_eq_mod y 16
  have := bits_and_u64_nat y 65535 h (by decide)
  rw [show ((65535 : Nat) : Int) = 65535 from rfl] at this
  rw [this]
  exact congrArg _ e
theorem grown_below {w wr w1 : World} {o : Obj} {e : TypeId} {v : Value} {n : Nat} {xs : List Value} (hb : Below w.heap.size w wr) (hown : wr.ownsRow w.heap.size e 1 v n xs) (hg : (wr.alloc o).grownBy w1 v.ownBlock) : Below w.heap.size w w1 := by
  refine (hb.alloc hb.size o).grown hg ?_ fun k hk => (hown.lt k hk).1
  have := hb.size
  simp
  omega
set_option maxHeartbeats 1600000 in
set_option maxRecDepth 100000 in
theorem limbs_any (x : Nat) (hx : x < 18446744073709551616) (w : World) :
    Calls Try.prog 80 #[.int .u64 x] w fun e w' => ∃ v, e = .returned v ∧ Sl w' v (dg x) ∧ Below w.heap.size w w' := by
  obtain ⟨i0, hi, hz0, hz1, hz2⟩ := info_parts info35
  have HX := Lib.hid hx
  go_enter Try.func80, Try.ntmps80
  go_wp2
  go_loopw [0, 3] (fun s v wr => ∃ (y : Nat) (ds : List Nat), s = .int .u64 (y : Int) ∧ y ≤ x ∧ dg x = ds ++ dg y ∧ ds.length ≤ 4 ∧ wr.ownsRow w.heap.size 82 1 v ds.length (ds.map dv) ∧ Below w.heap.size w wr) (fun s _ _ => (intOf s).toNat)
  case atStart => exact ⟨x, [], rfl, Nat.le_refl _, rfl, by simp, World.ownsRow_nil _ _ _ _, Below.refl _ _⟩
  case round =>
    obtain ⟨y, ds, rfl, hy, hd, hl, hown, hb⟩ := hrel
    have hy2 : y < 18446744073709551616 := by have := HX.out; omega
    have HA := Lib.hid (and16 y hy2)
    have HD := Lib.hid hd
    clear hd
    rcases Nat.eq_zero_or_pos y with h0 | h0
    · subst h0
      have e : dg x = ds := by have := HD.out; rw [dg_zero, List.append_nil] at this; exact this
      go_wp2
      go_ret
      exact ⟨_, rfl, by rw [e]; exact Sl.of_own hown, hb⟩
    · have hs := hb.size
      go_wp2_with (at_builtin; refine wpList_append_own _ rfl _ _ 90 rfl w.heap.size 82 i0 (.int .u64 0) 1 8 Try.underlying90 hi hz0 hz1 hz2 rfl (by decide) _ _ _ rfl (hown.alloc _) ⟨wr.heap.size, 0, none⟩ 1 1 [.int .u64 (bits .and .u64 (y : Int) 65535)] rfl rfl ?c1 ?c2 ?c3 ?c4 ?c5 ?_)
      case c1 =>
        intro j u hj
        match j, hj with
        | 0, hj => simp at hj; subst hj; simp [Addr.add, go_sem]
      case c2 => intro u hu; simp at hu; subst hu; rfl
      case c3 => unfold maxLen; omega
      case c4 => omega
      case c5 => simp; omega
      intro v' w1 hown' hgrow _
      rw [HA.out] at hown'
      have hb1 := grown_below hb hown hgrow
      have HS : Hid (IntKind.u64.wrap ((y : Int) / 65536) = ((y / 65536 : Nat) : Int)) := by show IntKind.u64.wrap ((y : Int) / 65536) = _; rw [IntKind.wrap_u64]; omega
      have HD2 : Hid (dg x = (ds ++ [y % 65536]) ++ dg (y / 65536)) := by
        have := HD.out; rw [dg_pos h0] at this; rw [List.append_assoc]; exact this
      have hl2 : ds.length + 1 ≤ 4 := by
        have h4 := dg_len 4 x HX.out
        have h5 := congrArg List.length HD2.out
        simp at h5
        omega
      have HO : Hid (w1.ownsRow w.heap.size 82 1 v' (ds ++ [y % 65536]).length ((ds ++ [y % 65536]).map dv)) := by
        show w1.ownsRow _ _ _ _ _ _
        rw [List.map_append, List.length_append]; exact hown'
      clear hown' hgrow hown hb
      go_wp2
      go_roundw
      case rel => exact ⟨y / 65536, ds ++ [y % 65536], by first | rfl | (rw [← HS.out]; rfl), by omega, HD2.out, by simp; omega, HO.out, hb1⟩
      case measure => simp [intOf]; omega
end Go.Proofs.Ytkjjoclbjkpdaaa
namespace Go.Proofs.Ytkjjoclbjkpdaaa
open Go.RowKit
set_option linter.unusedVariables false
set_option maxHeartbeats 1600000 in
theorem cut_any (ds : List Nat) (v : Value) (w : World) (hs : Sl w v ds) (hd : Dig ds) (hl : ds.length ≤ 1000) :
    Calls Try.prog 84 #[v] w fun e w' => ∃ u, e = .returned u ∧ Sl w' u (dg (val ds)) ∧ Below w.heap.size w w' := by
  obtain ⟨A, c, rfl, hc, hcell⟩ := hs
  have HC := Lib.hid hcell
  have HD := Lib.hid hd
  clear hcell hd
  go_enter Try.func84, Try.ntmps84
  go_wp2
  go_loopw [0] (fun s wr => ∃ m : Nat, s = .slice A m c ∧ m ≤ ds.length ∧ (∀ k, m ≤ k → k < ds.length → ds.getD k 0 = 0) ∧ wr = w) (fun s _ => match s with | .slice _ n _ => n | _ => 0)
  case atStart => exact ⟨ds.length, rfl, Nat.le_refl _, fun k h1 h2 => by omega, rfl⟩
  case round =>
    obtain ⟨m, rfl, hm, hz, rfl⟩ := hrel
    have HZ := Lib.hid hz
    clear hz
    have fin : (m = 0 ∨ ds.getD (m - 1) 0 ≠ 0) → Hid (Sl wr (.slice A m c) (dg (val ds))) := fun h => by
      have e := trim ds m hm HD.out HZ.out h
      show Sl wr _ _
      rw [← e]
      have el : (ds.take m).length = m := by simp; omega
      refine ⟨A, c, by rw [el], by omega, fun h0 => ?_⟩
      rw [el] at h0
      obtain ⟨g, rfl, hg, hk⟩ := HC.out (by omega)
      refine ⟨g, rfl, hg, fun k hk2 => ?_⟩
      rw [el] at hk2
      rw [getD_take _ _ _ hk2]
      exact hk k (by omega)
    rcases Nat.eq_zero_or_pos m with h0 | h0
    · have F := fin (Or.inl h0)
      subst h0
      clear fin
      go_wp2
      go_ret
      exact ⟨_, rfl, F.out, Below.refl _ _⟩
    · obtain ⟨g, rfl, hg, hk⟩ := HC.out (by omega)
      have hx : wr.cell? ⟨g, m - 1, none⟩ = some (dv (ds.getD (m - 1) 0)) := hk (m - 1) (by omega)
      obtain ⟨d, hdd⟩ : ∃ d, ds.getD (m - 1) 0 = d := ⟨_, rfl⟩
      rw [hdd] at hx fin
      unfold dv at hx
      obtain ⟨j, rfl⟩ : ∃ j, m = j + 1 := ⟨m - 1, by omega⟩
      simp only [Nat.add_sub_cancel] at hx hdd
      by_cases hd0 : d = 0
      · subst hd0
        clear fin
        have HQ := Lib.hid hdd
        clear hdd
        go_wp2
        go_roundw
        case rel =>
          refine ⟨j, rfl, by omega, fun k h1 h2 => ?_, by trivial⟩
          rcases Nat.eq_or_lt_of_le h1 with h3 | h3
          · rw [← h3]; exact HQ.out
          · exact HZ.out k (by omega) h2
        case measure => simp
      · have F := fin (Or.inr hd0)
        clear fin
        have e0 : ((d : Int) == 0) = false := by simp; omega
        clear hd0 hdd
        go_wp2
        go_ret
        exact ⟨_, rfl, F.out, Below.refl _ _⟩
theorem drop_succ_eq {a b : List Nat} {k : Nat} (h : a.drop (k + 1) = b.drop (k + 1)) (hl : a.length = b.length) (hk : k < a.length) (e : a.getD k 0 = b.getD k 0) : a.drop k = b.drop k := by
  rw [List.drop_eq_getElem_cons hk, List.drop_eq_getElem_cons (show k < b.length by omega), h]
  congr 1
  rw [List.getD_eq_getElem?_getD, List.getD_eq_getElem?_getD, List.getElem?_eq_getElem hk, List.getElem?_eq_getElem (show k < b.length by omega)] at e
  exact e
set_option maxRecDepth 20000 in
set_option maxHeartbeats 1600000 in
theorem cmpL_any (M N : Nat) (u v : Value) (w : World) (hu : Sl w u (dg M)) (hv : Sl w v (dg N)) (hM : (dg M).length ≤ 1000) (hN : (dg N).length ≤ 1000) :
    Calls Try.prog 63 #[u, v] w fun e w' => e = .returned (.int .i64 (cmpN M N)) ∧ Below w.heap.size w w' := by
  obtain ⟨A, c, rfl, hc, hcell⟩ := hu
  obtain ⟨A2, c2, rfl, hc2, hcell2⟩ := hv
  have HC := Lib.hid hcell
  have HC2 := Lib.hid hcell2
  have HVA := Lib.hid (val_dg M)
  have HVB := Lib.hid (val_dg N)
  have HDA := Lib.hid (dg_dig M)
  have HDB := Lib.hid (dg_dig N)
  have HLL := Lib.hid (len_less (M := M) (N := N))
  have HLG := Lib.hid (len_less (M := N) (N := M))
  generalize dg M = a at *
  generalize dg N = b at *
  clear hcell hcell2
  by_cases hl : a.length = b.length
  · have HL := Lib.hid hl
    rw [← hl]
    rw [← hl] at hN hc2
    obtain ⟨n, hn⟩ : ∃ n, a.length = n := ⟨_, rfl⟩
    have HNn := Lib.hid hn
    rw [hn] at hM hN hc hc2 ⊢
    clear hl hn
    go_enter Try.func63, Try.ntmps63
    go_wp2
    go_loopw [5] (fun s wr => ∃ (k : Nat) (i : Int), s = .int .i64 i ∧ i = (k : Int) - 1 ∧ k ≤ n ∧ a.drop k = b.drop k ∧ Below w.heap.size w wr) (fun s _ => (intOf s + 1).toNat)
    case atStart => exact ⟨n, _, rfl, rfl, Nat.le_refl _, by rw [← HNn.out, List.drop_length, HL.out, List.drop_length], Below.refl _ _⟩
    case round =>
      obtain ⟨k, i, rfl, hi, hk, hdr, hb⟩ := hrel
      have HDR := Lib.hid hdr
      clear hdr
      rcases Nat.eq_zero_or_pos k with h0 | h0
      · subst h0
        obtain rfl : i = -1 := by omega
        clear hi
        have HF : Hid (cmpN M N = 0) := by
          have e := HDR.out
          rw [List.drop_zero, List.drop_zero] at e
          have : M = N := by rw [← HVA.out, ← HVB.out, e]
          show cmpN M N = 0
          unfold cmpN; rw [if_neg (by omega), if_pos this]
        go_wp2
        go_ret
        exact ⟨by rw [HF.out]; rfl, hb⟩
      · obtain ⟨j, rfl⟩ : ∃ j, k = j + 1 := ⟨k - 1, by omega⟩
        obtain rfl : i = (j : Int) := by omega
        have hjn : j < n := by omega
        clear hi h0
        obtain ⟨g, rfl, hg, hcg⟩ := HC.out (by have := HNn.out; omega)
        obtain ⟨g2, rfl, hg2, hcg2⟩ := HC2.out (by have := HNn.out; have := HL.out; omega)
        have hx : wr.cell? ⟨g, j, none⟩ = some (dv (a.getD j 0)) := (hb.cell (p := ⟨g, j, none⟩) hg).trans (hcg j (by have := HNn.out; omega))
        have hy : wr.cell? ⟨g2, j, none⟩ = some (dv (b.getD j 0)) := (hb.cell (p := ⟨g2, j, none⟩) hg2).trans (hcg2 j (by have := HNn.out; have := HL.out; omega))
        have V1 : Hid (a.getD j 0 < b.getD j 0 → cmpN M N = -1) := fun h => by
          have := val_less HDA.out HDB.out j HDR.out HL.out (by have := HNn.out; omega) h
          rw [HVA.out, HVB.out] at this
          exact if_pos this
        have V2 : Hid (b.getD j 0 < a.getD j 0 → cmpN M N = 1) := fun h => by
          have := val_less HDB.out HDA.out j HDR.out.symm HL.out.symm (by have := HNn.out; have := HL.out; omega) h
          rw [HVA.out, HVB.out] at this
          unfold cmpN; rw [if_neg (by omega), if_neg (by omega)]
        have V3 : Hid (a.getD j 0 = b.getD j 0 → a.drop j = b.drop j) := fun h => drop_succ_eq HDR.out HL.out (by have := HNn.out; omega) h
        generalize a.getD j 0 = p at *
        generalize b.getD j 0 = q at *
        unfold dv at hx hy
        clear hcg hcg2
        rcases Nat.lt_trichotomy p q with h | h | h
        · have F := Lib.hid (V1.out h)
          have h' : (p : Int) < q := by omega
          clear V1 V2 V3 h
          go_wp2
          go_quiet (fail)
          go_wp2
          go_ret
          exact ⟨by rw [F.out]; rfl, by first | exact hb | exact hb.drew | exact below_drewN hb _ | exact below_drewN (below_drewN hb _) _⟩
        · have F := Lib.hid (V3.out h)
          subst h
          clear V1 V2 V3
          go_wp2
          go_quiet (fail)
          go_wp2
          go_quiet (fail)
          go_wp2
          go_roundw
          case rel => exact ⟨j, _, rfl, rfl, by omega, F.out, by first | exact hb | exact hb.drew | exact below_drewN hb _⟩
          case measure => simp [intOf]
        · have F := Lib.hid (V2.out h)
          have h' : (q : Int) < p := by omega
          clear V1 V2 V3 h
          go_wp2
          go_quiet (fail)
          go_wp2
          go_quiet (fail)
          go_wp2
          go_ret
          exact ⟨by rw [F.out]; rfl, by first | exact hb | exact hb.drew | exact below_drewN hb _ | exact below_drewN (below_drewN hb _) _⟩
  · by_cases h : a.length < b.length
    · have F : Hid (cmpN M N = -1) := if_pos (HLL.out h)
      have e0 : ((a.length : Int) == b.length) = false := by simp; omega
      clear hl
      go_enter Try.func63, Try.ntmps63
      go_wp2
      go_ret
      exact ⟨by rw [F.out]; rfl, Below.refl _ _⟩
    · have F : Hid (cmpN M N = 1) := by have := HLG.out (by omega); show cmpN M N = 1; unfold cmpN; rw [if_neg (by omega), if_neg (by omega)]
      have e0 : ((a.length : Int) == b.length) = false := by simp; omega
      clear hl
      go_enter Try.func63, Try.ntmps63
      go_wp2
      go_ret
      exact ⟨by rw [F.out]; rfl, Below.refl _ _⟩
end Go.Proofs.Ytkjjoclbjkpdaaa
namespace Go.Proofs.Ytkjjoclbjkpdaaa
open Go.RowKit
set_option linter.unusedVariables false
theorem getD_set {ds : List Nat} (j k x : Nat) (hj : j < ds.length) : (ds.set j x).getD k 0 = if k = j then x else ds.getD k 0 := by
  rw [List.getD_eq_getElem?_getD, List.getElem?_set, List.getD_eq_getElem?_getD]
  by_cases h : j = k
  · subst h; simp [hj]
  · rw [if_neg h, if_neg (fun e => h e.symm)]
theorem Dig.set {ds : List Nat} (h : Dig ds) (j : Nat) {x : Nat} (hx : x < 65536) : Dig (ds.set j x) := by
  intro d hd
  rcases List.mem_or_eq_of_mem_set hd with g | g
  · exact h d g
  · subst g; exact hx
theorem zeros_getD (n k : Nat) : (List.replicate n 0).getD k 0 = 0 := by
  rw [List.getD_eq_getElem?_getD, List.getElem?_replicate]; split <;> rfl
/-- one digit of the inner loop -/
theorem mul_step {V0 vd o ai bk c tb p q : Nat} {nv : Nat} (h : vd + p * q * c = V0 + p * (ai * tb)) (hset : nv + p * q * o = vd + p * q * ((o + ai * bk + c) % 65536)) :
    nv + p * q * 65536 * ((o + ai * bk + c) / 65536) = V0 + p * (ai * (tb + q * bk)) := by
  have e := Nat.div_add_mod (o + ai * bk + c) 65536
  generalize (o + ai * bk + c) % 65536 = r at *
  generalize (o + ai * bk + c) / 65536 = s at *
  have e2 : p * q * 65536 * s + p * q * r = p * q * o + p * q * (ai * bk) + p * q * c := by
    have : p * q * (65536 * s + r) = p * q * (o + ai * bk + c) := by rw [e]
    grind
  have e3 : p * (ai * (tb + q * bk)) = p * (ai * tb) + p * q * (ai * bk) := by grind
  rw [e3]
  omega
theorem pow_add3 (i k : Nat) : (65536 : Nat) ^ (i + k) = 65536 ^ i * 65536 ^ k := Nat.pow_add _ _ _
def ownS (w : World) (B n : Nat) (ds : List Nat) : Prop := ds.length = n ∧ Dig ds ∧ w.ownsRow B 82 1 (.slice (some ⟨B, 0, none⟩) n n) n (ds.map dv)
theorem ownS.cell {w : World} {B n : Nat} {ds : List Nat} (h : ownS w B n ds) {j : Nat} (hj : j < n) : w.cell? ⟨B, j, none⟩ = some (.int .u64 ((ds.getD j 0 : Nat) : Int)) := by
  obtain ⟨hl, _, ho⟩ := h
  rw [ho.cellAt j (by omega)]
  simp [List.getD_eq_getElem?_getD, hl, hj, dv]
theorem ownS.set {w : World} {B n : Nat} {ds : List Nat} (h : ownS w B n ds) (j : Nat) {x : Nat} (hx : x < 65536) : ownS (w.setCell ⟨B, j, none⟩ (.int .u64 (x : Int))) B n (ds.set j x) := by
  obtain ⟨hl, hd, ho⟩ := h
  refine ⟨by simpa using hl, hd.set j hx, ?_⟩
  have := (ho.stored j (dv x)).1
  rwa [← List.map_set] at this
theorem ownS.drewN {w : World} {B n : Nat} {ds : List Nat} (h : ownS w B n ds) (k : Nat) : ownS (w.drewN k) B n ds := h
set_option maxHeartbeats 4000000 in
set_option maxRecDepth 100000 in
theorem mulL_any (M N : Nat) (u v : Value) (w : World) (hu : Sl w u (dg M)) (hv : Sl w v (dg N)) (hM : (dg M).length ≤ 400) (hN : (dg N).length ≤ 400) :
    Calls Try.prog 79 #[u, v] w fun e w' => ∃ r, e = .returned r ∧ Sl w' r (dg (M * N)) ∧ Below w.heap.size w w' := by
  obtain ⟨i0, hi, hz0, hz1, hz2⟩ := info_parts info35
  obtain ⟨A, c, rfl, hc, hcell⟩ := hu
  obtain ⟨A2, c2, rfl, hc2, hcell2⟩ := hv
  have HC := Lib.hid hcell
  have HC2 := Lib.hid hcell2
  have HVA := Lib.hid (val_dg M)
  have HVB := Lib.hid (val_dg N)
  have HDA := Lib.hid (dg_dig M)
  have HDB := Lib.hid (dg_dig N)
  generalize dg M = a at *
  generalize dg N = b at *
  clear hcell hcell2
  obtain ⟨la, hla⟩ : ∃ n, a.length = n := ⟨_, rfl⟩
  obtain ⟨lb, hlb⟩ : ∃ n, b.length = n := ⟨_, rfl⟩
  have HLA := Lib.hid hla
  have HLB := Lib.hid hlb
  rw [hla] at hM hc ⊢
  rw [hlb] at hN hc2 ⊢
  clear hla hlb
  go_enter Try.func79, Try.ntmps79
  go_wp2_with (refine wpList_make_full _ rfl (.tmp 14) (.tmp 14) 90 rfl w.heap.size 82 i0 (.int .u64 0) 1 Try.underlying90 hi hz0 hz1 .i64 .i64 _ _ (la + lb) rfl rfl (by omega) (by omega) (by rw [hz2]; omega) (by unfold maxLen; omega) (Nat.le_refl _) ?_; intro w1 hown hgr)
  have hS : ownS w1 w.heap.size (la + lb) (List.replicate (la + lb) 0) := by
    refine ⟨List.length_replicate, fun d hd => by rw [(List.mem_replicate.1 hd).2]; decide, ?_⟩
    rw [Nat.mul_one] at hown
    rw [List.map_replicate]
    have e : (madeCells (Value.int IntKind.u64 0).cells (la + lb)).toList = List.replicate (la + lb) (dv 0) := toList_madeCells_one _ _
    rw [e] at hown
    exact hown
  have hb1 : Below w.heap.size w w1 := (Below.refl _ _).grown hgr (Nat.le_refl _) (fun k hk => by cases hk)
  clear hown hgr
  go_loopw [6] (fun s wr => ∃ (i : Nat) (ds : List Nat), s = .int .i64 (i : Int) ∧ i ≤ la ∧ ownS wr w.heap.size (la + lb) ds ∧ val ds = val (a.take i) * val b ∧ (∀ j, i + lb ≤ j → j < la + lb → ds.getD j 0 = 0) ∧ Below w.heap.size w wr) (fun s _ => la - (intOf s).toNat)
  case atStart => exact ⟨0, _, rfl, Nat.zero_le _, hS, by rw [List.take_zero, val_zeros _ (fun k hk => zeros_getD _ k)]; simp [val], fun j _ h => zeros_getD _ j, hb1⟩
  case round =>
  clear hS hb1
  obtain ⟨i, ds, rfl, hi1, hS, hval, hz, hb⟩ := hrel
  have HVAL := Lib.hid hval
  have HZ := Lib.hid hz
  clear hval hz
  by_cases hil : i < la
  · obtain ⟨g, rfl, hg, hcg⟩ := HC.out (by have := HLA.out; omega)
    obtain ⟨ai, hai⟩ : ∃ d, a.getD i 0 = d := ⟨_, rfl⟩
    have HAI := Lib.hid hai
    have hai2 : ai < 65536 := by rw [← hai]; exact getD_lt HDA.out i
    clear hai
    have HS0 := Lib.hid hS
    obtain ⟨wo, rfl⟩ : ∃ wo : World, wo = wr := ⟨_, rfl⟩
    go_wp2
    go_loopw [7, 8] (fun s t wr => ∃ (k c : Nat) (es : List Nat), s = .int .u64 (c : Int) ∧ t = .int .i64 (k : Int) ∧ k ≤ lb ∧ c < 65536 ∧ ownS wr w.heap.size (la + lb) es ∧ val es + 65536 ^ i * 65536 ^ k * c = val ds + 65536 ^ i * (ai * val (b.take k)) ∧ (∀ j, i + lb ≤ j → j < la + lb → es.getD j 0 = 0) ∧ Below w.heap.size w wr) (fun _ t _ => lb - (intOf t).toNat)
    case atStart => exact ⟨0, 0, ds, rfl, rfl, Nat.zero_le _, by decide, HS0.out, by simp [val], HZ.out, hb⟩
    case round =>
    clear hS hb
    obtain ⟨k, c, es, rfl, rfl, hk, hcc, hS, hval, hz, hb⟩ := hrel
    have HV2 := Lib.hid hval
    have HZ2 := Lib.hid hz
    clear hval hz
    by_cases hkl : k < lb
    · obtain ⟨g2, rfl, hg2, hcg2⟩ := HC2.out (by have := HLB.out; omega)
      have hx := (hb.cell (p := ⟨g, i, none⟩) hg).trans (hcg i (by have := HLA.out; omega))
      have hy := (hb.cell (p := ⟨g2, k, none⟩) hg2).trans (hcg2 k (by have := HLB.out; omega))
      rw [HAI.out] at hx
      obtain ⟨bk, hbk⟩ : ∃ d, b.getD k 0 = d := ⟨_, rfl⟩
      have HBK := Lib.hid hbk
      have hbk2 : bk < 65536 := by rw [← hbk]; exact getD_lt HDB.out k
      rw [hbk] at hy
      unfold dv at hx hy
      have hoc := hS.cell (j := i + k) (by omega)
      obtain ⟨o, ho⟩ : ∃ d, es.getD (i + k) 0 = d := ⟨_, rfl⟩
      have HOO := Lib.hid ho
      have ho2 : o < 65536 := by rw [← ho]; exact getD_lt hS.2.1 (i + k)
      rw [ho] at hoc
      clear hbk ho hcg2
      have hik : i + k < la + lb := by omega
      have hmul := Nat.mul_le_mul (show ai ≤ 65535 by omega) (show bk ≤ 65535 by omega)
      obtain ⟨p, hp⟩ : ∃ p, ai * bk = p := ⟨_, rfl⟩
      have hw1 : IntKind.i64.wrap ((i : Int) + k) = ((i + k : Nat) : Int) := by rw [IntKind.wrap_i64]; omega
      have hi1 : (i : Int) + k < (la : Int) + lb := by omega
      have hi2 : 0 ≤ (i : Int) + k := by omega
      have hi3 : ((i : Int) + k).toNat = i + k := by omega
      have hw2 : IntKind.u64.wrap ((ai : Int) * bk) = (p : Int) := by rw [mulU, hp]; exact wrapU (by omega)
      obtain ⟨q, hq⟩ : ∃ q, o + p = q := ⟨_, rfl⟩
      have hw3 : IntKind.u64.wrap ((o : Int) + p) = (q : Int) := by rw [addU, hq]; exact wrapU (by omega)
      obtain ⟨V, hV⟩ : ∃ V, q + c = V := ⟨_, rfl⟩
      have hw4 : IntKind.u64.wrap ((q : Int) + c) = (V : Int) := by rw [addU, hV]; exact wrapU (by omega)
      have HVV : Hid (V = o + ai * bk + c) := by show V = _; omega
      have hVb : V ≤ 4294967295 := by omega
      have hVl : V < 18446744073709551616 := by omega
      clear hmul hp hq hV
      have HSH := Lib.hid hS
      have hfr : wr.frozen? ⟨w.heap.size, i + k, none⟩ = false := hS.2.2.frozenAt _
      clear hS
      go_wp2
      go_quiet (fail)
      clear hw1 hw2 hw3 hw4
      have HA := Lib.hid (and16 V hVl)
      go_wp2
      go_roundw
      case rel =>
        have hlen := HSH.out.1
        refine ⟨k + 1, V / 65536, es.set (i + k) (V % 65536), rfl, by go_num, by omega, by omega, ?_, ?_, fun j h1 h2 => ?_, (below_drewN hb _).setCell (Nat.le_refl _) _⟩
        · rw [HA.out]; exact (HSH.out.drewN _).set _ (Nat.mod_lt _ (by decide))
        · have e := val_set es (i + k) (V % 65536) (by omega)
          rw [HOO.out, pow_add3, HVV.out] at e
          have r := mul_step HV2.out e
          rw [HVV.out, val_take_succ, HBK.out, Nat.pow_succ, ← Nat.mul_assoc]
          exact r
        · rw [getD_set _ _ _ (by omega), if_neg (by omega)]; exact HZ2.out j h1 h2
      case measure => simp [intOf]; omega
    · obtain rfl : k = lb := by omega
      have hoc := hS.cell (j := i + k) (by omega)
      rw [HZ2.out (i + k) (Nat.le_refl _) (by omega)] at hoc
      have hfr : wr.frozen? ⟨w.heap.size, i + k, none⟩ = false := hS.2.2.frozenAt _
      have hi1' : (i : Int) + k < (la : Int) + k := by omega
      have hi2 : 0 ≤ (i : Int) + k := by omega
      have hi3 : ((i : Int) + k).toNat = i + k := by omega
      have HSH := Lib.hid hS
      clear hS
      go_wp2
      go_roundw
      case rel =>
        have hlen := HSH.out.1
        refine ⟨i + 1, es.set (i + k) c, by go_num, by omega, HSH.out.set _ hcc, ?_, fun j h1 h2 => ?_, hb.setCell (Nat.le_refl _) _⟩
        · have e := val_set es (i + k) c (by omega)
          rw [HZ2.out (i + k) (Nat.le_refl _) (by omega), pow_add3] at e
          have h := HV2.out
          rw [HVAL.out, ← HLB.out, List.take_length] at h
          rw [val_take_succ, HAI.out, Nat.add_mul]
          have e3 : 65536 ^ i * ai * val b = 65536 ^ i * (ai * val b) := Nat.mul_assoc _ _ _
          rw [e3, ← h, HLB.out]
          omega
        · rw [getD_set _ _ _ (by omega), if_neg (by omega)]; exact HZ2.out j (by omega) h2
      case measure => simp [intOf]; omega
  · obtain rfl : i = la := by omega
    have CU := Lib.hid (cut_any ds (.slice (some ⟨w.heap.size, 0, none⟩) (i + lb) (i + lb)) wr (by rw [← hS.1]; exact Sl.of_own (by rw [hS.1]; exact hS.2.2)) hS.2.1 (by rw [hS.1]; omega))
    have HF : Hid (val ds = M * N) := by
      show val ds = _
      rw [HVAL.out, ← HLA.out, List.take_length, HVA.out, HVB.out]
    rw [HF.out] at CU
    go_wp2_with fail
    refine CU.out.mono ?_
    rintro e w2 ⟨r, rfl, hr, hb2⟩
    go_wp2
    go_ret
    exact ⟨_, rfl, hr, hb.trans (hb2.mono hb.size)⟩
end Go.Proofs.Ytkjjoclbjkpdaaa
namespace Go.Proofs.Ytkjjoclbjkpdaaa
open Go.RowKit
set_option linter.unusedVariables false
/-- comparison of integers -/
def cmpZ (P Q : Int) : Int := if P < Q then -1 else if P = Q then 0 else 1
theorem sgC (a b : Int) : (sgI a b = -1 ∧ a * b < 0) ∨ (sgI a b = 0 ∧ a * b = 0) ∨ (sgI a b = 1 ∧ 0 < a * b) := by
  by_cases h0 : a = 0 ∨ b = 0
  · have : a * b = 0 := by rcases h0 with h | h <;> subst h <;> simp
    exact Or.inr (Or.inl ⟨sgI_zero h0, this⟩)
  · by_cases h1 : (a < 0 ∧ b < 0) ∨ (0 < a ∧ 0 < b)
    · refine Or.inr (Or.inr ⟨sgI_pos h1, ?_⟩)
      rcases h1 with h | h
      · exact Int.mul_pos_of_neg_of_neg h.1 h.2
      · exact Int.mul_pos h.1 h.2
    · have h2 : (a < 0 ∧ 0 < b) ∨ (0 < a ∧ b < 0) := by omega
      refine Or.inl ⟨sgI_neg h2, ?_⟩
      rcases h2 with h | h
      · exact Int.mul_neg_of_neg_of_pos h.1 h.2
      · exact Int.mul_neg_of_pos_of_neg h.1 h.2
theorem cmp_abs (a b c d : Int) : cmpN (a.natAbs * b.natAbs) (c.natAbs * d.natAbs) = cmpN (a * b).natAbs (c * d).natAbs := by rw [Int.natAbs_mul, Int.natAbs_mul]
theorem absW {a : Int} (h1 : -9223372036854775808 ≤ a) (h2 : a ≤ 9223372036854775807) : a.natAbs < 18446744073709551616 := by omega
set_option maxHeartbeats 1000000 in
theorem cmp_any (a b c d : Int) (w : World) (ha : -9223372036854775808 ≤ a) (ha2 : a ≤ 9223372036854775807) (hb : -9223372036854775808 ≤ b) (hb2 : b ≤ 9223372036854775807) (hc : -9223372036854775808 ≤ c) (hc2 : c ≤ 9223372036854775807) (hd : -9223372036854775808 ≤ d) (hd2 : d ≤ 9223372036854775807) :
    Calls Try.prog 60 #[.int .i64 a, .int .i64 b, .int .i64 c, .int .i64 d] w fun e w' => e = .returned (.int .i64 (cmpZ (a * b) (c * d))) ∧ Below w.heap.size w w' := by
  have HA := Lib.hid (absW ha ha2)
  have HB := Lib.hid (absW hb hb2)
  have HC := Lib.hid (absW hc hc2)
  have HD := Lib.hid (absW hd hd2)
  have S1 := fun w => Lib.hid (sign_any a b w)
  have S2 := fun w => Lib.hid (sign_any c d w)
  have K := cmp_abs a b c d
  rcases sgC a b with ⟨h1, g1⟩ | ⟨h1, g1⟩ | ⟨h1, g1⟩ <;> rcases sgC c d with ⟨h2, g2⟩ | ⟨h2, g2⟩ | ⟨h2, g2⟩
  all_goals
    rw [h1] at S1
    rw [h2] at S2
    have HK : Hid ((cmpN (a.natAbs * b.natAbs) (c.natAbs * d.natAbs) = cmpN (a * b).natAbs (c * d).natAbs)) := K
    have G1 := Lib.hid g1
    have G2 := Lib.hid g2
    have HR : Hid (∃ k, cmpN (a.natAbs * b.natAbs) (c.natAbs * d.natAbs) = k ∧ (k = -1 ∨ k = 0 ∨ k = 1)) := ⟨_, rfl, by unfold cmpN; (repeat' split) <;> omega⟩
    clear h1 h2 g1 g2 K
    go_enter Try.func60, Try.ntmps60
    go_wp2_with fail
    refine (S1 _).out.mono ?_
    rintro e w' ⟨rfl, rfl⟩
    go_wp2_with fail
    refine (S2 _).out.mono ?_
    rintro e w' ⟨rfl, rfl⟩
    go_wp2_with fail
    first
      | (go_ret; refine ⟨congrArg Ending.returned (congrArg (Value.int IntKind.i64) ?_), Below.refl _ _⟩; have g1 := G1.out; have g2 := G2.out; unfold cmpZ; (repeat' split) <;> omega)
      | (refine (size_any a _ ha ha2).mono ?_
         rintro e w' ⟨rfl, rfl⟩
         go_wp2_with fail
         refine (size_any b _ hb hb2).mono ?_
         rintro e w' ⟨rfl, rfl⟩
         go_wp2_with fail
         refine (product_any _ _ HA.out HB.out _).mono ?_
         rintro e w1 ⟨rfl, hb1⟩
         go_wp2_with fail
         refine (size_any c _ hc hc2).mono ?_
         rintro e w' ⟨rfl, rfl⟩
         go_wp2_with fail
         refine (size_any d _ hd hd2).mono ?_
         rintro e w' ⟨rfl, rfl⟩
         go_wp2_with fail
         refine (product_any _ _ HC.out HD.out _).mono ?_
         rintro e w2 ⟨rfl, hb2⟩
         go_wp2_with fail
         refine (compare_any _ _ _).mono ?_
         rintro e w3 ⟨rfl, hb3⟩
         obtain ⟨k, hk, hk3⟩ := HR.out
         rw [hk]
         have HKK := Lib.hid hk
         have k1 : -1 ≤ k := by omega
         have k2 : k ≤ 1 := by omega
         clear hk hk3
         go_wp2_with fail
         go_ret
         refine ⟨congrArg Ending.returned (congrArg (Value.int IntKind.i64) ?_), btW (btW hb1 hb2) hb3⟩
         have h := HK.out
         rw [HKK.out] at h
         have g1 := G1.out
         have g2 := G2.out
         (try rw [h])
         unfold cmpZ
         (try unfold cmpN)
         (repeat' split) <;> omega)
end Go.Proofs.Ytkjjoclbjkpdaaa
namespace Go.Proofs.Ytkjjoclbjkpdaaa
open Go.RowKit
set_option linter.unusedVariables false
set_option maxHeartbeats 400000 in
theorem magR_any (n : Int) (w : World) (h1 : -9223372036854775808 ≤ n) (h2 : n ≤ 9223372036854775807) :
    Calls Try.prog 81 #[.int .i64 n] w fun e w' => e = .returned (.int .u64 (n.natAbs : Int)) ∧ w = w' := by
  by_cases h : n < 0
  · go_enter Try.func81, Try.ntmps81
    go_wp2
    go_ret
    exact ⟨ret_u64 (by omega), rfl⟩
  · go_enter Try.func81, Try.ntmps81
    go_wp2
    go_ret
    exact ⟨ret_u64 (by omega), rfl⟩
set_option maxHeartbeats 400000 in
theorem signR_any (a b : Int) (w : World) :
    Calls Try.prog 62 #[.int .i64 a, .int .i64 b] w fun e w' => e = .returned (.int .i64 (sgI a b)) ∧ w = w' := by
  by_cases ha : a = 0
  · rw [sgI_zero (Or.inl ha)]
    subst ha
    go_enter Try.func62, Try.ntmps62
    go_wp2
    go_ret
    exact ⟨rfl, rfl⟩
  have ea : (a == 0) = false := by simpa using ha
  by_cases hb : b = 0
  · rw [sgI_zero (Or.inr hb)]
    subst hb
    clear ha
    go_enter Try.func62, Try.ntmps62
    go_wp2
    go_ret
    exact ⟨rfl, rfl⟩
  have eb : (b == 0) = false := by simpa using hb
  by_cases la : a < 0 <;> by_cases lb : b < 0
  · rw [sgI_pos (by omega)]
    clear ha hb
    go_enter Try.func62, Try.ntmps62
    go_wp2
    go_ret
    exact ⟨rfl, rfl⟩
  · rw [sgI_neg (by omega)]
    have d : decide (b < 0) = false := by simpa using lb
    clear ha hb
    go_enter Try.func62, Try.ntmps62
    go_wp2
    go_ret
    exact ⟨rfl, rfl⟩
  · rw [sgI_neg (by omega)]
    have d : decide (a < 0) = false := by simpa using la
    clear ha hb
    go_enter Try.func62, Try.ntmps62
    go_wp2
    go_ret
    exact ⟨rfl, rfl⟩
  · rw [sgI_pos (by omega)]
    have d : decide (a < 0) = false := by simpa using la
    have d2 : decide (b < 0) = false := by simpa using lb
    clear ha hb
    go_enter Try.func62, Try.ntmps62
    go_wp2
    go_ret
    exact ⟨rfl, rfl⟩
theorem abs4 {a : Int} (h1 : -9223372036854775808 ≤ a) (h2 : a ≤ 9223372036854775807) : a.natAbs < 18446744073709551616 ∧ (dg a.natAbs).length ≤ 4 := by
  have h : a.natAbs < 18446744073709551616 := by omega
  exact ⟨h, dg_len 4 _ h⟩
theorem prod8 {X Y : Nat} (h1 : X < 18446744073709551616) (h2 : Y < 18446744073709551616) : (dg (X * Y)).length ≤ 8 := dg_len 8 _ (Nat.lt_of_lt_of_le (Nat.mul_lt_mul'' h1 h2) (by decide))
set_option maxHeartbeats 1000000 in
theorem productR_any (a b : Int) (w : World) (la : -9223372036854775808 ≤ a) (ha : a ≤ 9223372036854775807) (lb : -9223372036854775808 ≤ b) (hb : b ≤ 9223372036854775807) :
    Calls Try.prog 64 #[.int .i64 a, .int .i64 b] w fun e w' => ∃ r, e = .returned r ∧ Sl w' r (dg (a.natAbs * b.natAbs)) ∧ Below w.heap.size w w' := by
  have HA := Lib.hid (abs4 la ha)
  have HB := Lib.hid (abs4 lb hb)
  go_enter Try.func64, Try.ntmps64
  go_wp2_with fail
  refine (magR_any a _ la ha).mono ?_
  rintro e w' ⟨rfl, rfl⟩
  go_wp2_with fail
  refine (limbs_any _ HA.out.1 _).mono ?_
  rintro e w1 ⟨u, rfl, hu, hb1⟩
  go_wp2_with fail
  refine (magR_any b _ lb hb).mono ?_
  rintro e w' ⟨rfl, rfl⟩
  go_wp2_with fail
  refine (limbs_any _ HB.out.1 _).mono ?_
  rintro e w2 ⟨v, rfl, hv, hb2⟩
  go_wp2_with fail
  refine (mulL_any _ _ u v _ (hu.next hb2) hv (by have := HA.out.2; omega) (by have := HB.out.2; omega)).mono ?_
  rintro e w3 ⟨r, rfl, hr, hb3⟩
  go_wp2_with fail
  go_ret
  exact ⟨_, rfl, hr, btW (btW hb1 hb2) hb3⟩
set_option maxHeartbeats 1000000 in
theorem CmpR_any (a b c d : Int) (w : World) (la : -9223372036854775808 ≤ a) (ha : a ≤ 9223372036854775807) (lb : -9223372036854775808 ≤ b) (hb : b ≤ 9223372036854775807) (lc : -9223372036854775808 ≤ c) (hc : c ≤ 9223372036854775807) (ld : -9223372036854775808 ≤ d) (hd : d ≤ 9223372036854775807) :
    Calls Try.prog 49 #[.int .i64 a, .int .i64 b, .int .i64 c, .int .i64 d] w fun e w' => e = .returned (.int .i64 (cmpZ (a * b) (c * d))) ∧ Below w.heap.size w w' := by
  have S1 := fun w => Lib.hid (signR_any a b w)
  have S2 := fun w => Lib.hid (signR_any c d w)
  have P1 := fun w => Lib.hid (productR_any a b w la ha lb hb)
  have P2 := fun w => Lib.hid (productR_any c d w lc hc ld hd)
  have LN1 := Lib.hid (prod8 (abs4 la ha).1 (abs4 lb hb).1)
  have LN2 := Lib.hid (prod8 (abs4 lc hc).1 (abs4 ld hd).1)
  have K := cmp_abs a b c d
  rcases sgC a b with ⟨h1, g1⟩ | ⟨h1, g1⟩ | ⟨h1, g1⟩ <;> rcases sgC c d with ⟨h2, g2⟩ | ⟨h2, g2⟩ | ⟨h2, g2⟩
  all_goals
    rw [h1] at S1
    rw [h2] at S2
    have HK : Hid ((cmpN (a.natAbs * b.natAbs) (c.natAbs * d.natAbs) = cmpN (a * b).natAbs (c * d).natAbs)) := K
    have G1 := Lib.hid g1
    have G2 := Lib.hid g2
    have HR : Hid (∃ k, cmpN (a.natAbs * b.natAbs) (c.natAbs * d.natAbs) = k ∧ (k = -1 ∨ k = 0 ∨ k = 1)) := ⟨_, rfl, by unfold cmpN; (repeat' split) <;> omega⟩
    clear h1 h2 g1 g2 K
    go_enter Try.func49, Try.ntmps49
    go_wp2_with fail
    refine (S1 _).out.mono ?_
    rintro e w' ⟨rfl, rfl⟩
    go_wp2_with fail
    refine (S2 _).out.mono ?_
    rintro e w' ⟨rfl, rfl⟩
    go_wp2_with fail
    first
      | (go_ret; refine ⟨congrArg Ending.returned (congrArg (Value.int IntKind.i64) ?_), Below.refl _ _⟩; have g1 := G1.out; have g2 := G2.out; unfold cmpZ; (repeat' split) <;> omega)
      | (refine (P1 _).out.mono ?_
         rintro e w1 ⟨u, rfl, hu, hb1⟩
         go_wp2_with fail
         refine (P2 _).out.mono ?_
         rintro e w2 ⟨v, rfl, hv, hb2⟩
         go_wp2_with fail
         refine (cmpL_any _ _ u v _ (hu.next hb2) hv (by have := LN1.out; omega) (by have := LN2.out; omega)).mono ?_
         rintro e w3 ⟨rfl, hb3⟩
         obtain ⟨k, hk, hk3⟩ := HR.out
         rw [hk]
         have HKK := Lib.hid hk
         have k1 : -1 ≤ k := by omega
         have k2 : k ≤ 1 := by omega
         clear hk hk3
         go_wp2_with fail
         go_ret
         refine ⟨congrArg Ending.returned (congrArg (Value.int IntKind.i64) ?_), btW (btW hb1 hb2) hb3⟩
         have h := HK.out
         rw [HKK.out] at h
         have g1 := G1.out
         have g2 := G2.out
         (try rw [h])
         unfold cmpZ
         (try unfold cmpN)
         (repeat' split) <;> omega)
end Go.Proofs.Ytkjjoclbjkpdaaa
