/- Proved here: numbers that are drawn from a list: Mod, Next; a turned vector; ranges as stated. -/
import Derived.Test.YtkjjoclbjkpdaaaNc3J
namespace Go.Proofs.Ytkjjoclbjkpdaaa
open Go.RowKit
set_option linter.unusedVariables false
set_option linter.unusedSimpArgs false
set_option maxHeartbeats 1000000 in
theorem mod_any (v n : Int) (w : World) (hv : -9223372036854775808 ≤ v) (hv2 : v ≤ 9223372036854775807) (hn : 1 ≤ n) (hn2 : n ≤ 1000000) :
    Calls Try.prog 12 #[.int .i64 v, .int .i64 n] w fun e w' => ∃ r : Int, e = .returned (.int .i64 r) ∧ 0 ≤ r ∧ r < n ∧ w = w' := by
  have h1 := Int.tmod_lt_of_pos v (show 0 < n by omega)
  have h2 : -n < v.tmod n := by
    have := Int.lt_tmod_of_pos v (show 0 < n by omega)
    omega
  have hn0 : ¬ n = 0 := by omega
  have h3 := Int.tmod_lt_of_pos (v.tmod n + n) (show 0 < n by omega)
  have h4 : 0 ≤ (v.tmod n + n).tmod n := Int.tmod_nonneg _ (by omega)
  go_enter Try.func12, Try.ntmps12
  go_wp2_with fail
  go_ret
  exact ⟨_, rfl, by first | exact h4 | exact Int.emod_nonneg _ hn0, by first | exact h3 | exact Int.emod_lt_of_pos _ (by omega), rfl⟩
/-- a value that is a list of numbers, in blocks below b0 -/
def Ns (b0 : Nat) (v : Value) (w : World) : Prop :=
  ∃ (ao : Option Addr) (n c : Nat), v = .slice ao n c ∧ n ≤ maxLen ∧ ∀ j, j < n → ∃ (a : Addr) (x : Int), ao = some a ∧ a.block < b0 ∧ w.cell? (a.add j) = some (.int .i64 x) ∧ -9223372036854775808 ≤ x ∧ x ≤ 9223372036854775807
theorem add_block (a : Addr) (j : Nat) : (a.add j).block = a.block := by unfold Addr.add; split <;> rfl
theorem Ns.keep {b0 : Nat} {v : Value} {w w' : World} (h : Ns b0 v w) (hb : ∀ k, k < b0 → w'.heap[k]? = w.heap[k]?) : Ns b0 v w' := by
  obtain ⟨ao, n, c, h1, h2, h3⟩ := h
  refine ⟨ao, n, c, h1, h2, fun j hj => ?_⟩
  obtain ⟨a, x, e1, e2, e3, e4⟩ := h3 j hj
  exact ⟨a, x, e1, e2, (World.cell?_of_block (a := a.add j) (by rw [add_block]; exact hb _ e2)).trans e3, e4⟩
/-- a source in memory -/
structure Src (b0 sb : Nat) (w : World) : Prop where
  ex : ∃ (v : Value) (i : Nat), Ns b0 v w ∧ w.cell? ⟨sb, 0, none⟩ = some v ∧ w.cell? ⟨sb, 1, none⟩ = some (.int .i64 (i : Int)) ∧ i ≤ maxLen
  f0 : w.frozen? ⟨sb, 0, none⟩ = false
  f1 : w.frozen? ⟨sb, 1, none⟩ = false
  lt : sb < w.heap.size
  le : b0 ≤ sb
theorem Src.next {b0 sb : Nat} {w w' : World} (h : Src b0 sb w) (hb : Below w.heap.size w w') : Src b0 sb w' := by
  obtain ⟨⟨v, i, h1, h2, h3, h4⟩, h5, h6, h7, h8⟩ := h
  exact ⟨⟨v, i, h1.keep (fun k hk => hb.block k (by omega)), (hb.cell (p := ⟨sb, 0, none⟩) h7).trans h2, (hb.cell (p := ⟨sb, 1, none⟩) h7).trans h3, h4⟩, (hb.frozen (p := ⟨sb, 0, none⟩) h7).trans h5, (hb.frozen (p := ⟨sb, 1, none⟩) h7).trans h6, Nat.lt_of_lt_of_le h7 hb.size, h8⟩
theorem Src.put {b0 sb : Nat} {w : World} (h : Src b0 sb w) (i : Nat) (hi : i ≤ maxLen) : Src b0 sb (w.setCell ⟨sb, 1, none⟩ (.int .i64 (i : Int))) := by
  obtain ⟨⟨v, k, h1, h2, h3, h4⟩, h5, h6, h7, h8⟩ := h
  exact ⟨⟨v, i, h1.keep (fun k hk => heap_setCell_other w ⟨sb, 1, none⟩ k _ (by simp; omega)), (World.cell?_setCell_other w ⟨sb, 1, none⟩ ⟨sb, 0, none⟩ _ (by simp)).trans h2, World.cell?_setCell_same _ _ _ h3, hi⟩, by simpa [go_sem] using h5, by simpa [go_sem] using h6, by simpa using h7, h8⟩
/-- what a draw leaves -/
def NextPost (b0 sb : Nat) (n : Int) (w : World) (e : Ending) (w' : World) : Prop :=
  ∃ r : Int, e = .returned (.int .i64 r) ∧ 0 ≤ r ∧ r < n ∧ Src b0 sb w' ∧ Chg sb (.slice none 0 0) w w'
set_option maxHeartbeats 4000000 in
theorem next_any (b0 sb : Nat) (n : Int) (w : World) (hn : 1 ≤ n) (hn2 : n ≤ 1000000) (hS : Src b0 sb w) :
    Calls Try.prog 30 #[.pointer (some ⟨sb, 0, none⟩), .int .i64 n] w (NextPost b0 sb n w) := by
  obtain ⟨⟨v, i, ⟨ao, m, c, rfl, hm, hz⟩, hc0, hc1, hi⟩, hf0, hf1, hlt, hle⟩ := id hS
  have hT : Lf w.heap.size w.heap.size [(⟨sb, 0, none⟩, .slice ao m c), (⟨sb, 1, none⟩, .int .i64 (i : Int))] w w := ⟨by simp [List.forall_mem_cons, hc0, hc1], by simp [List.forall_mem_cons, hf0, hf1], by simp [List.forall_mem_cons, hlt], Nat.le_refl _, Below.refl _ _, Nat.le_refl _⟩
  by_cases hlen : i < m
  · obtain ⟨a, x, rfl, hab, hx, b1, b2⟩ := hz i hlen
    have hL : Lay w.heap.size w.heap.size [(⟨sb, 0, none⟩, .slice (some a) m c), (⟨sb, 1, none⟩, .int .i64 (i : Int)), (a.add i, .int .i64 x)] w w := ⟨by simp [List.forall_mem_cons, hc0, hc1, hx], by simp [List.forall_mem_cons, hlt, add_block]; omega, Nat.le_refl _, Below.refl _ _, Nat.le_refl _⟩
    have hd : decide ((m : Int) ≤ (i : Int)) = false := decide_eq_false (by omega)
    have hli : (i : Int) < (m : Int) := by omega
    have hi0 : (0 : Int) ≤ (i : Int) := by omega
    have MO := fun w => Lib.hid (mod_any x n w b1 b2 hn hn2)
    clear hz hT
    go_enter Try.func30, Try.ntmps30
    go_upto_region 1 with fail
    (refine wp_region_class (Lay w.heap.size w.heap.size [(⟨sb, 0, none⟩, .slice (some a) m c), (⟨sb, 1, none⟩, .int .i64 (i : Int)), (a.add i, .int .i64 x)] w) (hL.next (Below.refl _ _).drew) (by kernel_rfl) (by kernel_rfl) ?_; repeat (refine wpQuiet_step (fun qK9 qH9 => ?_); go_simp; first | (refine qH9 _ ?_; clear qH9 qK9) | (apply Exists.intro; refine ⟨?_, qH9 _ ?_⟩; (first | (intros; rfl) | ((intro wx hC; ((have qk9 := (hC).cells; simp only [List.forall_mem_cons, List.not_mem_nil, false_implies, implies_true, and_true] at qk9; repeat (obtain ⟨qk8, qk9⟩ := qk9)); go_simp; first | done | rfl)))); clear qH9 qK9)))
    refine wpQuiet_nil ?_
    clear hL
    intro wy hL
    go_upto_region 3 with fail
    (refine wp_region_class (Lay w.heap.size w.heap.size [(⟨sb, 0, none⟩, .slice (some a) m c), (⟨sb, 1, none⟩, .int .i64 (i : Int)), (a.add i, .int .i64 x)] w) (hL.next (Below.refl _ _).drew) (by kernel_rfl) (by kernel_rfl) ?_; repeat (refine wpQuiet_step (fun qK9 qH9 => ?_); go_simp; first | (refine qH9 _ ?_; clear qH9 qK9) | (apply Exists.intro; refine ⟨?_, qH9 _ ?_⟩; (first | (intros; rfl) | ((intro wx hC; ((have qk9 := (hC).cells; simp only [List.forall_mem_cons, List.not_mem_nil, false_implies, implies_true, and_true] at qk9; repeat (obtain ⟨qk8, qk9⟩ := qk9)); go_simp; first | done | rfl)))); clear qH9 qK9)))
    refine wpQuiet_nil ?_
    clear hL
    intro wz hL
    have hS2 := hS.next hL.be
    have yf := hS2.f1
    have him : (i : Int) ≤ 9223372036854775806 := by unfold maxLen at hm; omega
    (have qk9 := (hL).cells; simp only [List.forall_mem_cons, List.not_mem_nil, false_implies, implies_true, and_true] at qk9; repeat (obtain ⟨qk8, qk9⟩ := qk9))
    go_wp2_with fail
    refine (MO _).out.mono ?_
    rintro e w2 ⟨r, rfl, r0, r1, rfl⟩
    go_wp2_with fail
    go_ret
    exact ⟨r, rfl, r0, r1, hS2.put (i + 1) (by omega), ((Chg.refl _ _ w).next hL.be).own 1 _⟩
  · have hd : decide ((m : Int) ≤ (i : Int)) = true := decide_eq_true (by omega)
    go_enter Try.func30, Try.ntmps30
    go_upto_region 1 with fail
    (refine wp_region_class (Lf w.heap.size w.heap.size [(⟨sb, 0, none⟩, .slice ao m c), (⟨sb, 1, none⟩, .int .i64 (i : Int))] w) (hT.next (Below.refl _ _).drew) (by kernel_rfl) (by kernel_rfl) ?_; repeat (refine wpQuiet_step (fun qK9 qH9 => ?_); go_simp; first | (refine qH9 _ ?_; clear qH9 qK9) | (apply Exists.intro; refine ⟨?_, qH9 _ ?_⟩; (first | (intros; rfl) | ((intro wx hC; ((have qk9 := (hC).cells; simp only [List.forall_mem_cons, List.not_mem_nil, false_implies, implies_true, and_true] at qk9; repeat (obtain ⟨qk8, qk9⟩ := qk9)); go_simp; first | done | rfl)))); clear qH9 qK9)))
    refine wpQuiet_nil ?_
    intro wy hT
    go_wp2_with fail
    go_ret
    exact ⟨0, rfl, by decide, by omega, hS.next hT.be, (Chg.refl _ _ w).next hT.be⟩
end Go.Proofs.Ytkjjoclbjkpdaaa
