/- Proved here: what Flat, Solid, Within and Length of package vec (and of the reference) return; every argument in the stated ranges. -/
import Derived.Test.YtlblodiamcnnpaaVw1
import Derived.Test.YtlblodiamcnnpaaWr4
namespace Go.Proofs.Ytlblodiamcnnpaa
open Go.RowKit
set_option linter.unusedVariables false
set_option maxHeartbeats 1000000 in
theorem flatP_17 (x y z : Int) (w : World) :
    Calls Try.prog 21 #[.int .i64 17, .agg #[.int .i64 x, .int .i64 y, .int .i64 z]] w fun e w' => e = .returned (.tuple #[.agg #[.int .i64 x, .int .i64 y], .int .i64 z, .bool true]) ∧ Below w.heap.size w w' := by
  go_enter Try.func21, Try.ntmps21
  go_wp2_with fail
  go_region
  all_goals go_wp2_with fail
  all_goals exact bodyPost_ret (v := .tuple #[.agg #[.int .i64 x, .int .i64 y], .int .i64 z, .bool true]) (by simp [results, Try.results21, go_sem]) rfl ⟨rfl, (((Below.refl _ _).alloc (Nat.le_refl _) _).alloc (by simp) _).drew⟩
set_option maxHeartbeats 1000000 in
theorem flatP_18 (x y z : Int) (w : World) :
    Calls Try.prog 21 #[.int .i64 18, .agg #[.int .i64 x, .int .i64 y, .int .i64 z]] w fun e w' => e = .returned (.tuple #[.agg #[.int .i64 z, .int .i64 x], .int .i64 y, .bool true]) ∧ Below w.heap.size w w' := by
  go_enter Try.func21, Try.ntmps21
  go_wp2_with fail
  go_region
  all_goals go_wp2_with fail
  all_goals exact bodyPost_ret (v := .tuple #[.agg #[.int .i64 z, .int .i64 x], .int .i64 y, .bool true]) (by simp [results, Try.results21, go_sem]) rfl ⟨rfl, (((Below.refl _ _).alloc (Nat.le_refl _) _).alloc (by simp) _).drew⟩
set_option maxHeartbeats 1000000 in
theorem flatP_19 (x y z : Int) (w : World) :
    Calls Try.prog 21 #[.int .i64 19, .agg #[.int .i64 x, .int .i64 y, .int .i64 z]] w fun e w' => e = .returned (.tuple #[.agg #[.int .i64 y, .int .i64 z], .int .i64 x, .bool true]) ∧ Below w.heap.size w w' := by
  go_enter Try.func21, Try.ntmps21
  go_wp2_with fail
  go_region
  all_goals go_wp2_with fail
  all_goals exact bodyPost_ret (v := .tuple #[.agg #[.int .i64 y, .int .i64 z], .int .i64 x, .bool true]) (by simp [results, Try.results21, go_sem]) rfl ⟨rfl, (((Below.refl _ _).alloc (Nat.le_refl _) _).alloc (by simp) _).drew⟩
set_option maxHeartbeats 1000000 in
theorem flatP_no (p x y z : Int) (w : World) (h1 : (p == 17) = false) (h2 : (p == 18) = false) (h3 : (p == 19) = false) :
    Calls Try.prog 21 #[.int .i64 p, .agg #[.int .i64 x, .int .i64 y, .int .i64 z]] w fun e w' => e = .returned (.tuple #[.agg #[.int .i64 0, .int .i64 0], .int .i64 0, .bool false]) ∧ Below w.heap.size w w' := by
  go_enter Try.func21, Try.ntmps21
  go_wp2_with fail
  exact bodyPost_ret (v := .tuple #[.agg #[.int .i64 0, .int .i64 0], .int .i64 0, .bool false]) (by simp [results, Try.results21, go_sem]) rfl ⟨rfl, (((Below.refl _ _).alloc (Nat.le_refl _) _).alloc (by simp) _)⟩
set_option maxHeartbeats 1000000 in
theorem flatR_17 (x y z : Int) (w : World) :
    Calls Try.prog 36 #[.int .i64 17, .agg #[.int .i64 x, .int .i64 y, .int .i64 z]] w fun e w' => e = .returned (.tuple #[.agg #[.int .i64 x, .int .i64 y], .int .i64 z, .bool true]) ∧ Below w.heap.size w w' := by
  go_enter Try.func36, Try.ntmps36
  go_wp2_with fail
  go_region
  all_goals go_wp2_with fail
  all_goals exact bodyPost_ret (v := .tuple #[.agg #[.int .i64 x, .int .i64 y], .int .i64 z, .bool true]) (by simp [results, Try.results36, go_sem]) rfl ⟨rfl, (((Below.refl _ _).alloc (Nat.le_refl _) _).alloc (by simp) _).drew⟩
set_option maxHeartbeats 1000000 in
theorem flatR_18 (x y z : Int) (w : World) :
    Calls Try.prog 36 #[.int .i64 18, .agg #[.int .i64 x, .int .i64 y, .int .i64 z]] w fun e w' => e = .returned (.tuple #[.agg #[.int .i64 z, .int .i64 x], .int .i64 y, .bool true]) ∧ Below w.heap.size w w' := by
  go_enter Try.func36, Try.ntmps36
  go_wp2_with fail
  go_region
  all_goals go_wp2_with fail
  all_goals exact bodyPost_ret (v := .tuple #[.agg #[.int .i64 z, .int .i64 x], .int .i64 y, .bool true]) (by simp [results, Try.results36, go_sem]) rfl ⟨rfl, (((Below.refl _ _).alloc (Nat.le_refl _) _).alloc (by simp) _).drew⟩
set_option maxHeartbeats 1000000 in
theorem flatR_19 (x y z : Int) (w : World) :
    Calls Try.prog 36 #[.int .i64 19, .agg #[.int .i64 x, .int .i64 y, .int .i64 z]] w fun e w' => e = .returned (.tuple #[.agg #[.int .i64 y, .int .i64 z], .int .i64 x, .bool true]) ∧ Below w.heap.size w w' := by
  go_enter Try.func36, Try.ntmps36
  go_wp2_with fail
  go_region
  all_goals go_wp2_with fail
  all_goals exact bodyPost_ret (v := .tuple #[.agg #[.int .i64 y, .int .i64 z], .int .i64 x, .bool true]) (by simp [results, Try.results36, go_sem]) rfl ⟨rfl, (((Below.refl _ _).alloc (Nat.le_refl _) _).alloc (by simp) _).drew⟩
set_option maxHeartbeats 1000000 in
theorem flatR_no (p x y z : Int) (w : World) (h1 : (p == 17) = false) (h2 : (p == 18) = false) (h3 : (p == 19) = false) :
    Calls Try.prog 36 #[.int .i64 p, .agg #[.int .i64 x, .int .i64 y, .int .i64 z]] w fun e w' => e = .returned (.tuple #[.agg #[.int .i64 0, .int .i64 0], .int .i64 0, .bool false]) ∧ Below w.heap.size w w' := by
  go_enter Try.func36, Try.ntmps36
  go_wp2_with fail
  exact bodyPost_ret (v := .tuple #[.agg #[.int .i64 0, .int .i64 0], .int .i64 0, .bool false]) (by simp [results, Try.results36, go_sem]) rfl ⟨rfl, (((Below.refl _ _).alloc (Nat.le_refl _) _).alloc (by simp) _)⟩
set_option maxHeartbeats 1000000 in
theorem solidP_17 (u v h : Int) (w : World) :
    Calls Try.prog 37 #[.int .i64 17, .agg #[.int .i64 u, .int .i64 v], .int .i64 h] w fun e w' => e = .returned (.tuple #[.agg #[.int .i64 u, .int .i64 v, .int .i64 h], .bool true]) ∧ Below w.heap.size w w' := by
  go_enter Try.func37, Try.ntmps37
  go_wp2_with fail
  exact bodyPost_ret (v := .tuple #[.agg #[.int .i64 u, .int .i64 v, .int .i64 h], .bool true]) (by simp [results, Try.results37, go_sem]) rfl ⟨rfl, (((Below.refl _ _).alloc (Nat.le_refl _) _).alloc (by simp) _)⟩
set_option maxHeartbeats 1000000 in
theorem solidP_18 (u v h : Int) (w : World) :
    Calls Try.prog 37 #[.int .i64 18, .agg #[.int .i64 u, .int .i64 v], .int .i64 h] w fun e w' => e = .returned (.tuple #[.agg #[.int .i64 v, .int .i64 h, .int .i64 u], .bool true]) ∧ Below w.heap.size w w' := by
  go_enter Try.func37, Try.ntmps37
  go_wp2_with fail
  exact bodyPost_ret (v := .tuple #[.agg #[.int .i64 v, .int .i64 h, .int .i64 u], .bool true]) (by simp [results, Try.results37, go_sem]) rfl ⟨rfl, (((Below.refl _ _).alloc (Nat.le_refl _) _).alloc (by simp) _)⟩
set_option maxHeartbeats 1000000 in
theorem solidP_19 (u v h : Int) (w : World) :
    Calls Try.prog 37 #[.int .i64 19, .agg #[.int .i64 u, .int .i64 v], .int .i64 h] w fun e w' => e = .returned (.tuple #[.agg #[.int .i64 h, .int .i64 u, .int .i64 v], .bool true]) ∧ Below w.heap.size w w' := by
  go_enter Try.func37, Try.ntmps37
  go_wp2_with fail
  exact bodyPost_ret (v := .tuple #[.agg #[.int .i64 h, .int .i64 u, .int .i64 v], .bool true]) (by simp [results, Try.results37, go_sem]) rfl ⟨rfl, (((Below.refl _ _).alloc (Nat.le_refl _) _).alloc (by simp) _)⟩
set_option maxHeartbeats 1000000 in
theorem solidP_no (p u v h : Int) (w : World) (h1 : (p == 17) = false) (h2 : (p == 18) = false) (h3 : (p == 19) = false) :
    Calls Try.prog 37 #[.int .i64 p, .agg #[.int .i64 u, .int .i64 v], .int .i64 h] w fun e w' => e = .returned (.tuple #[.agg #[.int .i64 0, .int .i64 0, .int .i64 0], .bool false]) ∧ Below w.heap.size w w' := by
  go_enter Try.func37, Try.ntmps37
  go_wp2_with fail
  exact bodyPost_ret (v := .tuple #[.agg #[.int .i64 0, .int .i64 0, .int .i64 0], .bool false]) (by simp [results, Try.results37, go_sem]) rfl ⟨rfl, (((Below.refl _ _).alloc (Nat.le_refl _) _).alloc (by simp) _)⟩
set_option maxHeartbeats 1000000 in
theorem solidR_17 (u v h : Int) (w : World) :
    Calls Try.prog 38 #[.int .i64 17, .agg #[.int .i64 u, .int .i64 v], .int .i64 h] w fun e w' => e = .returned (.tuple #[.agg #[.int .i64 u, .int .i64 v, .int .i64 h], .bool true]) ∧ Below w.heap.size w w' := by
  go_enter Try.func38, Try.ntmps38
  go_wp2_with fail
  exact bodyPost_ret (v := .tuple #[.agg #[.int .i64 u, .int .i64 v, .int .i64 h], .bool true]) (by simp [results, Try.results38, go_sem]) rfl ⟨rfl, (((Below.refl _ _).alloc (Nat.le_refl _) _).alloc (by simp) _)⟩
set_option maxHeartbeats 1000000 in
theorem solidR_18 (u v h : Int) (w : World) :
    Calls Try.prog 38 #[.int .i64 18, .agg #[.int .i64 u, .int .i64 v], .int .i64 h] w fun e w' => e = .returned (.tuple #[.agg #[.int .i64 v, .int .i64 h, .int .i64 u], .bool true]) ∧ Below w.heap.size w w' := by
  go_enter Try.func38, Try.ntmps38
  go_wp2_with fail
  exact bodyPost_ret (v := .tuple #[.agg #[.int .i64 v, .int .i64 h, .int .i64 u], .bool true]) (by simp [results, Try.results38, go_sem]) rfl ⟨rfl, (((Below.refl _ _).alloc (Nat.le_refl _) _).alloc (by simp) _)⟩
set_option maxHeartbeats 1000000 in
theorem solidR_19 (u v h : Int) (w : World) :
    Calls Try.prog 38 #[.int .i64 19, .agg #[.int .i64 u, .int .i64 v], .int .i64 h] w fun e w' => e = .returned (.tuple #[.agg #[.int .i64 h, .int .i64 u, .int .i64 v], .bool true]) ∧ Below w.heap.size w w' := by
  go_enter Try.func38, Try.ntmps38
  go_wp2_with fail
  exact bodyPost_ret (v := .tuple #[.agg #[.int .i64 h, .int .i64 u, .int .i64 v], .bool true]) (by simp [results, Try.results38, go_sem]) rfl ⟨rfl, (((Below.refl _ _).alloc (Nat.le_refl _) _).alloc (by simp) _)⟩
set_option maxHeartbeats 1000000 in
theorem solidR_no (p u v h : Int) (w : World) (h1 : (p == 17) = false) (h2 : (p == 18) = false) (h3 : (p == 19) = false) :
    Calls Try.prog 38 #[.int .i64 p, .agg #[.int .i64 u, .int .i64 v], .int .i64 h] w fun e w' => e = .returned (.tuple #[.agg #[.int .i64 0, .int .i64 0, .int .i64 0], .bool false]) ∧ Below w.heap.size w w' := by
  go_enter Try.func38, Try.ntmps38
  go_wp2_with fail
  exact bodyPost_ret (v := .tuple #[.agg #[.int .i64 0, .int .i64 0, .int .i64 0], .bool false]) (by simp [results, Try.results38, go_sem]) rfl ⟨rfl, (((Below.refl _ _).alloc (Nat.le_refl _) _).alloc (by simp) _)⟩
end Go.Proofs.Ytlblodiamcnnpaa
