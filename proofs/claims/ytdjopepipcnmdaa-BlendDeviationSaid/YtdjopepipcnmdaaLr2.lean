/- Proved here: the reference's limbs gives the digits of a number of 64 bits in memory of its own; no conditions. -/
import Derived.Test.YtdjopepipcnmdaaLr1
import Derived.Test.YtdjopepipcnmdaaWw1
import Derived.Test.YtdjopepipcnmdaaWr2
import Derived.OwnWalk
import Derived.Laws.OwnMore
namespace Go.Proofs.Ytdjopepipcnmdaa
open Go.RowKit
set_option linter.unusedVariables false
def dv (d : Nat) : Value := .int .u64 (d : Int)
/-- a slice that holds these digits at the head of a block -/
def Sl (w : World) (v : Value) (ds : List Nat) : Prop :=
  ∃ A c, v = .slice A ds.length c ∧ ds.length ≤ c ∧ (0 < ds.length → ∃ g, A = some ⟨g, 0, none⟩ ∧ g < w.heap.size ∧ ∀ k, k < ds.length → w.cell? ⟨g, k, none⟩ = some (dv (ds.getD k 0)))
theorem Sl.next {w w' : World} {v : Value} {ds : List Nat} (h : Sl w v ds) (hb : Below w.heap.size w w') : Sl w' v ds := by
  obtain ⟨A, c, rfl, hc, h⟩ := h
  refine ⟨A, c, rfl, hc, fun h0 => ?_⟩
  obtain ⟨g, rfl, hg, hk⟩ := h h0
  exact ⟨g, rfl, Nat.lt_of_lt_of_le hg hb.size, fun k hl => (hb.cell (p := ⟨g, k, none⟩) hg).trans (hk k hl)⟩
theorem Sl.of_own {w : World} {base : Nat} {e : TypeId} {v : Value} {ds : List Nat} (h : w.ownsRow base e 1 v ds.length (ds.map dv)) : Sl w v ds := by
  rcases h.2 with ⟨rfl, h0⟩ | ⟨g, cap, cur, rfl, _, hh, hn, _, _, _⟩
  · have e : ds = [] := List.eq_nil_of_length_eq_zero h0
    subst e
    exact ⟨none, 0, rfl, Nat.le_refl _, fun h1 => absurd h1 (Nat.lt_irrefl _)⟩
  · refine ⟨_, cap, rfl, hn, fun h0 => ⟨g, rfl, ?_, fun k hk => ?_⟩⟩
    · rcases Nat.lt_or_ge g w.heap.size with hlt | hge
      · exact hlt
      · rw [Array.getElem?_eq_none hge] at hh; cases hh
    · rw [h.cellAt k (by omega)]
      simp [List.getD_eq_getElem?_getD, hk]
theorem info35 : (Try.prog.info? 47).map (fun i => (i.zero, i.size, i.bytes)) = some (some (.int .u64 0), 1, 8) := by kernel_rfl
theorem and16 (y : Nat) (h : y < 18446744073709551616) : bits .and .u64 (y : Int) 65535 = ((y % 65536 : Nat) : Int) := by
  have e := Nat.and_two_pow_sub_one_eq_mod y 16
  have := bits_and_u64_nat y 65535 h (by decide)
  rw [show ((65535 : Nat) : Int) = 65535 from rfl] at this
  rw [this]
  exact congrArg _ e
theorem grown_below {w wr w1 : World} {o : Obj} {e : TypeId} {v : Value} {n : Nat} {xs : List Value} (hb : Below w.heap.size w wr) (hown : wr.ownsRow w.heap.size e 1 v n xs) (hg : (wr.alloc o).grownBy w1 v.ownBlock) : Below w.heap.size w w1 := by
  refine (hb.alloc hb.size o).grown hg ?_ fun k hk => (hown.lt k hk).1
  have := hb.size
  simp
  omega
set_option maxHeartbeats 1600000 in
set_option maxRecDepth 100000 in
theorem limbs_any (x : Nat) (hx : x < 18446744073709551616) (w : World) :
    Calls Try.prog 61 #[.int .u64 x] w fun e w' => ∃ v, e = .returned v ∧ Sl w' v (dg x) ∧ Below w.heap.size w w' := by
  obtain ⟨i0, hi, hz0, hz1, hz2⟩ := info_parts info35
  have HX := Lib.hid hx
  go_enter Try.func61, Try.ntmps61
  go_wp2
  go_loopw [0, 3] (fun s v wr => ∃ (y : Nat) (ds : List Nat), s = .int .u64 (y : Int) ∧ y ≤ x ∧ dg x = ds ++ dg y ∧ ds.length ≤ 4 ∧ wr.ownsRow w.heap.size 47 1 v ds.length (ds.map dv) ∧ Below w.heap.size w wr) (fun s _ _ => (intOf s).toNat)
  case atStart => exact ⟨x, [], rfl, Nat.le_refl _, rfl, by simp, World.ownsRow_nil _ _ _ _, Below.refl _ _⟩
  case round =>
    obtain ⟨y, ds, rfl, hy, hd, hl, hown, hb⟩ := hrel
    have hy2 : y < 18446744073709551616 := by have := HX.out; omega
    have HA := Lib.hid (and16 y hy2)
    have HD := Lib.hid hd
    clear hd
    rcases Nat.eq_zero_or_pos y with h0 | h0
    · subst h0
      have e : dg x = ds := by have := HD.out; rw [dg_zero, List.append_nil] at this; exact this
      go_wp2
      go_ret
      exact ⟨_, rfl, by rw [e]; exact Sl.of_own hown, hb⟩
    · have hs := hb.size
      go_wp2_with (at_builtin; refine wpList_append_own _ rfl _ _ 63 rfl w.heap.size 47 i0 (.int .u64 0) 1 8 Try.underlying63 hi hz0 hz1 hz2 rfl (by decide) _ _ _ rfl (hown.alloc _) ⟨wr.heap.size, 0, none⟩ 1 1 [.int .u64 (bits .and .u64 (y : Int) 65535)] rfl rfl ?c1 ?c2 ?c3 ?c4 ?c5 ?_)
      case c1 =>
        intro j u hj
        match j, hj with
        | 0, hj => simp at hj; subst hj; simp [Addr.add, go_sem]
      case c2 => intro u hu; simp at hu; subst hu; rfl
      case c3 => unfold maxLen; omega
      case c4 => omega
      case c5 => simp; omega
      intro v' w1 hown' hgrow _
      rw [HA.out] at hown'
      have hb1 := grown_below hb hown hgrow
      have HS : Hid (IntKind.u64.wrap ((y : Int) / 65536) = ((y / 65536 : Nat) : Int)) := by show IntKind.u64.wrap ((y : Int) / 65536) = _; rw [IntKind.wrap_u64]; omega
      have HD2 : Hid (dg x = (ds ++ [y % 65536]) ++ dg (y / 65536)) := by
        have := HD.out; rw [dg_pos h0] at this; rw [List.append_assoc]; exact this
      have hl2 : ds.length + 1 ≤ 4 := by
        have h4 := dg_len 4 x HX.out
        have h5 := congrArg List.length HD2.out
        simp at h5
        omega
      have HO : Hid (w1.ownsRow w.heap.size 47 1 v' (ds ++ [y % 65536]).length ((ds ++ [y % 65536]).map dv)) := by
        show w1.ownsRow _ _ _ _ _ _
        rw [List.map_append, List.length_append]; exact hown'
      clear hown' hgrow hown hb
      go_wp2
      go_roundw
      case rel => exact ⟨y / 65536, ds ++ [y % 65536], by first | rfl | (rw [← HS.out]; rfl), by omega, HD2.out, by simp; omega, HO.out, hb1⟩
      case measure => simp [intOf]; omega
end Go.Proofs.Ytdjopepipcnmdaa

