/- Proved here: digits to the base 65536 as lists: value, canonical form, order, sums; no program in sight; no conditions. -/
namespace Go.Proofs.Ytdjopepipcnmdaa
set_option linter.unusedVariables false
/-- the digits of n to the base 65536, the least one first, without leading zeros -/
def dg (n : Nat) : List Nat := if h : n = 0 then [] else n % 65536 :: dg (n / 65536)
  termination_by n
  decreasing_by omega
def val : List Nat → Nat
  | [] => 0
  | d :: t => d + 65536 * val t
theorem dg_zero : dg 0 = [] := by rw [dg]; rfl
theorem dg_pos {n : Nat} (h : 0 < n) : dg n = n % 65536 :: dg (n / 65536) := by rw [dg, dif_neg (by omega)]
theorem val_dg (n : Nat) : val (dg n) = n := by
  induction n using Nat.strongRecOn with
  | _ n ih =>
    rcases Nat.eq_zero_or_pos n with h | h
    · subst h; rw [dg_zero]; rfl
    · rw [dg_pos h, val, ih (n / 65536) (by omega)]; omega
def Dig (ds : List Nat) : Prop := ∀ d ∈ ds, d < 65536
theorem dg_dig (n : Nat) : Dig (dg n) := by
  induction n using Nat.strongRecOn with
  | _ n ih =>
    rcases Nat.eq_zero_or_pos n with h | h
    · subst h; rw [dg_zero]; intro d hd; cases hd
    · rw [dg_pos h]
      intro d hd
      rcases List.mem_cons.1 hd with g | g
      · omega
      · exact ih (n / 65536) (by omega) d g
theorem dg_len (k : Nat) : ∀ n, n < 65536 ^ k → (dg n).length ≤ k := by
  induction k with
  | zero => intro n h; have : n = 0 := by simpa using h
            subst this; rw [dg_zero]; exact Nat.le_refl _
  | succ k ih =>
    intro n h
    rcases Nat.eq_zero_or_pos n with g | g
    · subst g; rw [dg_zero]; exact Nat.zero_le _
    · rw [dg_pos g, List.length_cons]
      have := ih (n / 65536) (by rw [Nat.div_lt_iff_lt_mul (by decide), ← Nat.pow_succ]; exact h)
      omega
theorem val_lt (ds : List Nat) (h : Dig ds) : val ds < 65536 ^ ds.length := by
  induction ds with
  | nil => decide
  | cons d t ih =>
    have h1 := h d (List.mem_cons_self ..)
    have h2 := ih fun x hx => h x (List.mem_cons_of_mem _ hx)
    rw [val, List.length_cons, Nat.pow_succ]
    omega
theorem canon (ds : List Nat) (h : Dig ds) (hl : ds.length = 0 ∨ ds.getD (ds.length - 1) 0 ≠ 0) : ds = dg (val ds) := by
  induction ds with
  | nil => rw [val, dg_zero]
  | cons d t ih =>
    have h1 := h d (List.mem_cons_self ..)
    have hd := fun x hx => h x (List.mem_cons_of_mem _ hx)
    rcases hl with hl | hl
    · cases hl
    · cases t with
      | nil =>
        have : d ≠ 0 := by simpa using hl
        rw [val, val, dg_pos (by omega), show (d + 65536 * 0) / 65536 = 0 by omega, dg_zero, show (d + 65536 * 0) % 65536 = d by omega]
      | cons e t =>
        have g : (e :: t).getD ((e :: t).length - 1) 0 ≠ 0 := by simpa using hl
        have e1 := ih hd (Or.inr g)
        have hp : 0 < val (e :: t) := by
          rcases Nat.eq_zero_or_pos (val (e :: t)) with z | z
          · rw [z, dg_zero] at e1; cases e1
          · exact z
        rw [val, dg_pos (by omega), show (d + 65536 * val (e :: t)) / 65536 = val (e :: t) by omega, ← e1, show (d + 65536 * val (e :: t)) % 65536 = d by omega]
theorem val_split (ds : List Nat) : ∀ i, val ds = val (ds.take i) + 65536 ^ i * val (ds.drop i) := by
  induction ds with
  | nil => intro i; simp [val]
  | cons d t ih =>
    intro i
    cases i with
    | zero => simp [val]
    | succ i =>
      have := ih i
      simp only [List.take_succ_cons, List.drop_succ_cons, val, Nat.pow_succ]
      rw [this]
      grind
theorem val_zeros (ds : List Nat) (h : ∀ k, k < ds.length → ds.getD k 0 = 0) : val ds = 0 := by
  induction ds with
  | nil => rfl
  | cons d t ih =>
    have h0 : d = 0 := by simpa using h 0 (by simp)
    have ht := ih fun k hk => by simpa using h (k + 1) (by simp; omega)
    rw [val, h0, ht]
theorem getD_drop (ds : List Nat) (m k : Nat) : (ds.drop m).getD k 0 = ds.getD (m + k) 0 := by simp [List.getD_eq_getElem?_getD, List.getElem?_drop]
theorem getD_take (ds : List Nat) (m k : Nat) (h : k < m) : (ds.take m).getD k 0 = ds.getD k 0 := by simp [List.getD_eq_getElem?_getD, h]
/-- trailing zeros may be left out -/
theorem trim (ds : List Nat) (m : Nat) (hm : m ≤ ds.length) (h : Dig ds) (hz : ∀ k, m ≤ k → k < ds.length → ds.getD k 0 = 0) (hl : m = 0 ∨ ds.getD (m - 1) 0 ≠ 0) : ds.take m = dg (val ds) := by
  have e := val_split ds m
  have z : val (ds.drop m) = 0 := val_zeros _ fun k hk => by
    rw [getD_drop]; rw [List.length_drop] at hk; exact hz _ (by omega) (by omega)
  rw [z, Nat.mul_zero, Nat.add_zero] at e
  rw [e]
  have hlen : (ds.take m).length = m := by simp; omega
  refine canon _ (fun d hd => h d (List.mem_of_mem_take hd)) ?_
  rw [hlen]
  rcases hl with hl | hl
  · exact Or.inl hl
  · by_cases hm0 : m = 0
    · left; exact hm0
    · right; rw [getD_take _ _ _ (by omega)]; exact hl
theorem getD_lt {ds : List Nat} (h : Dig ds) (k : Nat) : ds.getD k 0 < 65536 := by
  rw [List.getD_eq_getElem?_getD]
  cases e : ds[k]? with
  | none => decide
  | some d => exact h d (List.mem_of_getElem? e)
theorem val_take_succ (ds : List Nat) (i : Nat) : val (ds.take (i + 1)) = val (ds.take i) + 65536 ^ i * ds.getD i 0 := by
  have e := val_split (ds.take (i + 1)) i
  rw [List.take_take, Nat.min_eq_left (by omega)] at e
  have e2 : val ((ds.take (i + 1)).drop i) = ds.getD i 0 := by
    rw [List.drop_take, show i + 1 - i = 1 by omega, List.take_one, List.head?_drop, List.getD_eq_getElem?_getD]
    cases ds[i]? <;> rfl
  rw [e, e2]
/-- order by the highest digit that differs -/
theorem val_less {a b : List Nat} (ha : Dig a) (hb : Dig b) (i : Nat) (hd : a.drop (i + 1) = b.drop (i + 1)) (hl : a.length = b.length) (hi : i < a.length) (h : a.getD i 0 < b.getD i 0) : val a < val b := by
  have ea := val_split a (i + 1)
  have eb := val_split b (i + 1)
  rw [val_take_succ] at ea eb
  rw [hd] at ea
  have la := val_lt (a.take i) fun d hd => ha d (List.mem_of_mem_take hd)
  have e1 : (a.take i).length = i := by simp; omega
  rw [e1] at la
  have hm := Nat.mul_le_mul_left (65536 ^ i) h
  rw [Nat.succ_eq_add_one, Nat.mul_add, Nat.mul_one] at hm
  omega
theorem len_less {M N : Nat} (h : (dg M).length < (dg N).length) : M < N := by
  refine Nat.not_le.mp fun hc => ?_
  have h1 := val_lt (dg M) (dg_dig M)
  rw [val_dg] at h1
  have := dg_len (dg M).length N (by omega)
  omega
theorem dg_eq_len {M N : Nat} (h : dg M = dg N) : M = N := by
  have := val_dg M
  rw [h, val_dg] at this
  exact this.symm
theorem val_set (ds : List Nat) : ∀ (j x : Nat), j < ds.length → val (ds.set j x) + 65536 ^ j * ds.getD j 0 = val ds + 65536 ^ j * x := by
  induction ds with
  | nil => intro j x h; cases h
  | cons d t ih =>
    intro j x h
    cases j with
    | zero => simp [val]; omega
    | succ j =>
      have := ih j x (by simpa using h)
      simp only [List.set_cons_succ, val, List.getD_cons_succ, Nat.pow_succ]
      have e1 : 65536 ^ j * 65536 * t.getD j 0 = 65536 * (65536 ^ j * t.getD j 0) := by grind
      have e2 : 65536 ^ j * 65536 * x = 65536 * (65536 ^ j * x) := by grind
      rw [e1, e2]
      omega
theorem val_append (a : List Nat) (d : Nat) : val (a ++ [d]) = val a + 65536 ^ a.length * d := by
  induction a with
  | nil => simp [val]
  | cons e t ih =>
    simp only [List.cons_append, val, ih, List.length_cons, Nat.pow_succ]
    grind
end Go.Proofs.Ytdjopepipcnmdaa

