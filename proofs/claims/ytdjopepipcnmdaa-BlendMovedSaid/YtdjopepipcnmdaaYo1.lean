/- Proved here: what the inner quotient of package wide returns: a number of 128 bits divided by one of 64 bits, and whether there is a rest. -/
import Derived.Test.YtdjopepipcnmdaaWd2
import Derived.Test.YtdjopepipcnmdaaWr2
namespace Go.Proofs.Ytdjopepipcnmdaa
open Go.RowKit
set_option linter.unusedVariables false
theorem quo_gen (P d K : Nat) (h0 : 0 < d) (hK : 0 < K) :
    P / d / K = P / K / d ∧ P / d % K = (P / K % d * K + P % K) / d ∧ P % d = (P / K % d * K + P % K) % d := by
  have h1 := Nat.div_add_mod P K
  have h2 := Nat.div_add_mod (P / K) d
  have h3 := Nat.mod_lt (P / K) h0
  have h4 := Nat.mod_lt P hK
  generalize P / K = hi at *
  generalize P % K = lo at *
  generalize hi / d = q at *
  generalize hi % d = r at *
  have e : P = d * (q * K) + (r * K + lo) := by
    rw [← Nat.mul_assoc, ← Nat.add_assoc, ← Nat.add_mul, h2, Nat.mul_comm hi]; exact h1.symm
  have hs : (r * K + lo) / d < K := by
    rw [Nat.div_lt_iff_lt_mul h0, Nat.mul_comm K d]
    have h5 : (r + 1) * K ≤ d * K := Nat.mul_le_mul_right _ h3
    have h6 : (r + 1) * K = r * K + K := by rw [Nat.add_mul, Nat.one_mul]
    omega
  rw [e, Nat.mul_add_div h0, Nat.mul_add_mod]
  generalize (r * K + lo) / d = s at *
  refine ⟨?_, ?_, rfl⟩
  · rw [Nat.mul_comm q K, Nat.mul_add_div hK, Nat.div_eq_of_lt hs, Nat.add_zero]
  · rw [Nat.mul_comm q K, Nat.mul_add_mod, Nat.mod_eq_of_lt hs]
theorem quo_parts (P d : Nat) (h0 : 0 < d) :
    P / d / 18446744073709551616 = P / 18446744073709551616 / d ∧ P / d % 18446744073709551616 = (P / 18446744073709551616 % d * 18446744073709551616 + P % 18446744073709551616) / d
      ∧ P % d = (P / 18446744073709551616 % d * 18446744073709551616 + P % 18446744073709551616) % d := quo_gen P d 18446744073709551616 h0 (by decide)
set_option maxHeartbeats 1000000 in
theorem quotient_any (P d : Nat) (hP : P < 340282366920938463463374607431768211456) (h0 : 0 < d) (hd : d < 18446744073709551616) (w : World) :
    Calls Try.prog 43 #[pairV P, .int .u64 d] w fun e w' => e = .returned (.tuple #[pairV (P / d), .bool (decide (0 < P % d))]) ∧ Below w.heap.size w w' := by
  have HQ := Lib.hid (quo_parts P d h0)
  have H0 := Lib.hid h0
  have HD := Lib.hid hd
  have HI : Hid (P / 18446744073709551616 < 18446744073709551616) := by show P / 18446744073709551616 < _; omega
  have HL : Hid (P % 18446744073709551616 < 18446744073709551616) := by show P % 18446744073709551616 < _; omega
  unfold pairV
  rw [HQ.out.1, HQ.out.2.1, HQ.out.2.2]
  clear HQ hP h0 hd
  generalize P / 18446744073709551616 = hi at *
  generalize P % 18446744073709551616 = lo at *
  have HR : Hid (hi % d < d) := Nat.mod_lt _ H0.out
  go_enter Try.func43, Try.ntmps43
  go_wp2_with fail
  refine (div64_small hi d HI.out HD.out H0.out _).mono ?_
  rintro e w1 ⟨rfl, hb1⟩
  have hc1 : w1.cell? ⟨w.heap.size, 1, none⟩ = some (.int .u64 lo) := by
    rw [hb1.cell (p := ⟨w.heap.size, 1, none⟩) (by show w.heap.size < _; simp; omega)]
    simp [go_sem]
  have hd0 : w1.cell? ⟨w.heap.size + 1, 0, none⟩ = some (.int .u64 0) := by
    rw [hb1.cell (p := ⟨w.heap.size + 1, 0, none⟩) (by show w.heap.size + 1 < _; simp)]
    simp [go_sem]
  have hd1 : w1.cell? ⟨w.heap.size + 1, 1, none⟩ = some (.int .u64 0) := by
    rw [hb1.cell (p := ⟨w.heap.size + 1, 1, none⟩) (by show w.heap.size + 1 < _; simp)]
    simp [go_sem]
  have hf0 : w1.frozen? ⟨w.heap.size + 1, 0, none⟩ = false := by
    rw [hb1.frozen (p := ⟨w.heap.size + 1, 0, none⟩) (by show w.heap.size + 1 < _; simp)]
    simp [go_sem]
  have hf1 : w1.frozen? ⟨w.heap.size + 1, 1, none⟩ = false := by
    rw [hb1.frozen (p := ⟨w.heap.size + 1, 1, none⟩) (by show w.heap.size + 1 < _; simp)]
    simp [go_sem]
  have hs1 := hb1.size
  simp at hs1
  go_wp2_with fail
  refine (div64_any _ lo d HR.out HL.out HD.out _).mono ?_
  rintro e w2 ⟨rfl, hb2⟩
  have hd0 := (hb2.cell (p := ⟨w.heap.size + 1, 0, none⟩) (by show w.heap.size + 1 < _; omega)).trans hd0
  have hd1 := (hb2.cell (p := ⟨w.heap.size + 1, 1, none⟩) (by show w.heap.size + 1 < _; omega)).trans hd1
  have hf0 := (hb2.frozen (p := ⟨w.heap.size + 1, 0, none⟩) (by show w.heap.size + 1 < _; omega)).trans hf0
  have hf1 := (hb2.frozen (p := ⟨w.heap.size + 1, 1, none⟩) (by show w.heap.size + 1 < _; omega)).trans hf1
  have hs2 := hb2.size
  have hlt : w.heap.size + 1 < w2.heap.size := by omega
  obtain ⟨s, hs⟩ : ∃ s, (hi % d * 18446744073709551616 + lo) / d = s := ⟨_, rfl⟩
  obtain ⟨u, hu⟩ : ∃ u, (hi % d * 18446744073709551616 + lo) % d = u := ⟨_, rfl⟩
  rw [hs, hu]
  have HS := Lib.hid hs
  have HU := Lib.hid hu
  clear hs hu
  go_wp2_with fail
  have g0 : (w2.setCell ⟨w.heap.size + 1, 0, none⟩ (.int .u64 ((hi : Int) / d))).cell? ⟨w.heap.size + 1, 0, none⟩ = some (.int .u64 ((hi : Int) / d)) := World.cell?_setCell_same _ _ _ hd0
  have g1 : ((w2.setCell ⟨w.heap.size + 1, 0, none⟩ (.int .u64 ((hi : Int) / d))).setCell ⟨w.heap.size + 1, 1, none⟩ (.int .u64 s)).cell? ⟨w.heap.size + 1, 1, none⟩ = some (.int .u64 s) := World.cell?_setCell_same _ _ _ ((World.cell?_setCell_other _ _ _ _ (by simp)).trans hd1)
  refine bodyPost_ret (v := .tuple #[.agg #[.int .u64 ((hi : Int) / d), .int .u64 s], .bool (decide (0 < (u : Int)))]) (by simp [results, Try.results43, go_sem, g0, g1]) rfl ⟨?_, ?_⟩
  · rw [HS.out, HU.out]; simp
  · have hb : Below w.heap.size w w2 := ((((Below.refl w.heap.size w).alloc (Nat.le_refl _) _).alloc (by simp) _).trans (hb1.mono (by simp; omega))).trans (hb2.mono (by omega))
    exact (hb.setCell (by simp) _).setCell (by simp) _
end Go.Proofs.Ytdjopepipcnmdaa
