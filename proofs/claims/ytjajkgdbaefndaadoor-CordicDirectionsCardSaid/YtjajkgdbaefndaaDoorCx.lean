/- Proved here: plain arithmetic of complex numbers with rational parts: nearness, powers; no program in sight; no conditions. -/
namespace Cx
/-- complex numbers with rational parts -/
structure C where
  re : Rat
  im : Rat
@[ext] theorem C.ext' {a b : C} (h : a.re = b.re) (h2 : a.im = b.im) : a = b := by cases a; cases b; simp_all
def add (a b : C) : C := ⟨a.re + b.re, a.im + b.im⟩
def sub (a b : C) : C := ⟨a.re - b.re, a.im - b.im⟩
def mul (a b : C) : C := ⟨a.re * b.re - a.im * b.im, a.re * b.im + a.im * b.re⟩
def sc (k : Rat) (a : C) : C := ⟨k * a.re, k * a.im⟩
def conj (a : C) : C := ⟨a.re, -a.im⟩
def one : C := ⟨1, 0⟩
def ns (a : C) : Rat := a.re * a.re + a.im * a.im

theorem sq_nn (a : Rat) : 0 ≤ a * a := by
  rcases Rat.le_total (a := 0) (b := a) with h | h
  · exact Rat.mul_nonneg h h
  · have : 0 ≤ (-a) * (-a) := Rat.mul_nonneg (by grind) (by grind)
    grind
theorem ns_nn (a : C) : 0 ≤ ns a := by
  unfold ns; have := sq_nn a.re; have := sq_nn a.im; grind
theorem mul_le_mul2 {a b c d : Rat} (ha : 0 ≤ a) (hab : a ≤ b) (hc : 0 ≤ c) (hcd : c ≤ d) : a * c ≤ b * d := by
  have h1 : a * c ≤ b * c := Rat.mul_le_mul_of_nonneg_right hab hc
  have h2 : b * c ≤ b * d := Rat.mul_le_mul_of_nonneg_left hcd (by grind)
  exact Rat.le_trans h1 h2
/-- from squares to numbers -/
theorem le_of_sq {a b : Rat} (hb : 0 ≤ b) (h : a * a ≤ b * b) : a ≤ b := by
  rcases Rat.le_total (a := a) (b := b) with h' | h'
  · exact h'
  · by_cases e : a = b
    · grind
    · exfalso
      have hlt : b < a := by grind
      have h0 : 0 < a := by grind
      have h1 : b * a < a * a := Rat.mul_lt_mul_of_pos_right hlt h0
      have h2 : b * b ≤ b * a := Rat.mul_le_mul_of_nonneg_left h' hb
      grind
theorem ns_mul (a b : C) : ns (mul a b) = ns a * ns b := by
  simp only [ns, mul]; grind
theorem ns_sc (k : Rat) (a : C) : ns (sc k a) = k * k * ns a := by
  simp only [ns, sc]; grind
/-- the triangle inequality -/
theorem tri {a b : C} {x y : Rat} (hx : 0 ≤ x) (hy : 0 ≤ y) (ha : ns a ≤ x * x) (hb : ns b ≤ y * y) : ns (add a b) ≤ (x + y) * (x + y) := by
  have hp : (a.re * b.re + a.im * b.im) * (a.re * b.re + a.im * b.im) ≤ (x * y) * (x * y) := by
    have l : (a.re * b.re + a.im * b.im) * (a.re * b.re + a.im * b.im) + (a.re * b.im - a.im * b.re) * (a.re * b.im - a.im * b.re) = ns a * ns b := by
      simp only [ns]; grind
    have n := sq_nn (a.re * b.im - a.im * b.re)
    have m : ns a * ns b ≤ (x * x) * (y * y) := mul_le_mul2 (ns_nn a) ha (ns_nn b) hb
    grind
  have hq := le_of_sq (Rat.mul_nonneg hx hy) hp
  have e : ns (add a b) = ns a + ns b + 2 * (a.re * b.re + a.im * b.im) := by simp only [ns, add]; grind
  grind
/-- a is within e of b -/
def Cl (a b : C) (e : Rat) : Prop := 0 ≤ e ∧ ns (sub a b) ≤ e * e
theorem Cl.refl (a : C) : Cl a a 0 := by
  refine ⟨by grind, ?_⟩; simp only [ns, sub]; grind
theorem Cl.symm {a b : C} {e : Rat} (h : Cl a b e) : Cl b a e := by
  refine ⟨h.1, ?_⟩
  have h2 := h.2
  simp only [ns, sub] at *; grind
theorem Cl.mono {a b : C} {e f : Rat} (h : Cl a b e) (hf : e ≤ f) : Cl a b f :=
  ⟨Rat.le_trans h.1 hf, Rat.le_trans h.2 (mul_le_mul2 h.1 hf h.1 hf)⟩
theorem Cl.trans {a b c : C} {e f : Rat} (h : Cl a b e) (g : Cl b c f) : Cl a c (e + f) := by
  refine ⟨by have := h.1; have := g.1; grind, ?_⟩
  have t := tri h.1 g.1 h.2 g.2
  have : add (sub a b) (sub b c) = sub a c := by simp only [add, sub]; ext <;> simp <;> grind
  rwa [this] at t
theorem Cl.mul_right {a b : C} {e : Rat} (h : Cl a b e) (c : C) {r : Rat} (hr : 0 ≤ r) (hc : ns c ≤ r * r) : Cl (mul a c) (mul b c) (e * r) := by
  refine ⟨Rat.mul_nonneg h.1 hr, ?_⟩
  have : sub (mul a c) (mul b c) = mul (sub a b) c := by simp only [mul, sub]; ext <;> simp <;> grind
  rw [this, ns_mul]
  have m := mul_le_mul2 (ns_nn _) h.2 (ns_nn c) hc
  grind
theorem mul_comm (a b : C) : mul a b = mul b a := by simp only [mul]; ext <;> simp <;> grind
theorem mul_assoc (a b c : C) : mul (mul a b) c = mul a (mul b c) := by simp only [mul]; ext <;> simp <;> grind
theorem mul_one (a : C) : mul a one = a := by simp only [mul, one]; ext <;> simp <;> grind
theorem one_mul (a : C) : mul one a = a := by rw [mul_comm, mul_one]
theorem conj_mul (a b : C) : conj (mul a b) = mul (conj a) (conj b) := by simp only [mul, conj]; ext <;> simp <;> grind
theorem ns_conj (a : C) : ns (conj a) = ns a := by simp only [ns, conj]; grind
theorem mul_conj (a : C) : mul a (conj a) = ⟨ns a, 0⟩ := by simp only [ns, conj, mul]; ext <;> simp <;> grind
theorem Cl.conj {a b : C} {e : Rat} (h : Cl a b e) : Cl (conj a) (conj b) e := by
  refine ⟨h.1, ?_⟩
  have h2 := h.2
  simp only [ns, sub, Cx.conj] at *; grind
theorem Cl.mul_left {a b : C} {e : Rat} (h : Cl a b e) (c : C) {r : Rat} (hr : 0 ≤ r) (hc : ns c ≤ r * r) : Cl (mul c a) (mul c b) (e * r) := by
  rw [mul_comm c a, mul_comm c b]; exact h.mul_right c hr hc
theorem Cl.sc {a b : C} {e : Rat} (h : Cl a b e) {k : Rat} (hk : 0 ≤ k) : Cl (sc k a) (sc k b) (k * e) := by
  refine ⟨Rat.mul_nonneg hk h.1, ?_⟩
  have : sub (Cx.sc k a) (Cx.sc k b) = Cx.sc k (sub a b) := by simp only [Cx.sc, sub]; ext <;> simp <;> grind
  rw [this, ns_sc]
  have m := Rat.mul_le_mul_of_nonneg_left h.2 (sq_nn k)
  grind
theorem Cl.add {a b c d : C} {e f : Rat} (h : Cl a b e) (g : Cl c d f) : Cl (add a c) (add b d) (e + f) := by
  refine ⟨by have := h.1; have := g.1; grind, ?_⟩
  have t := tri h.1 g.1 h.2 g.2
  have : Cx.add (sub a b) (sub c d) = sub (Cx.add a c) (Cx.add b d) := by simp only [Cx.add, sub]; ext <;> simp <;> grind
  rwa [this] at t
theorem conj_one : conj one = one := by simp only [conj, one]; ext <;> simp
/-- parts -/
theorem Cl.re {a b : C} {e : Rat} (h : Cl a b e) : a.re - b.re ≤ e ∧ b.re - a.re ≤ e := by
  have h2 := h.2
  have n1 := sq_nn (sub a b).im
  simp only [ns] at h2
  have q : (a.re - b.re) * (a.re - b.re) ≤ e * e := by simp only [sub] at *; grind
  exact ⟨le_of_sq h.1 q, le_of_sq h.1 (by grind)⟩
theorem Cl.im {a b : C} {e : Rat} (h : Cl a b e) : a.im - b.im ≤ e ∧ b.im - a.im ≤ e := by
  have h2 := h.2
  have n1 := sq_nn (sub a b).re
  simp only [ns] at h2
  have q : (a.im - b.im) * (a.im - b.im) ≤ e * e := by simp only [sub] at *; grind
  exact ⟨le_of_sq h.1 q, le_of_sq h.1 (by grind)⟩
theorem Cl.of_parts {a b : C} {p q e : Rat} (h1 : a.re - b.re ≤ p) (h2 : b.re - a.re ≤ p) (h3 : a.im - b.im ≤ q) (h4 : b.im - a.im ≤ q) (he : 0 ≤ e) (h : p * p + q * q ≤ e * e) : Cl a b e := by
  refine ⟨he, Rat.le_trans ?_ h⟩
  simp only [ns, sub]
  have s1 : (a.re - b.re) * (a.re - b.re) ≤ p * p := by
    rcases Rat.le_total (a := 0) (b := a.re - b.re) with g | g
    · exact mul_le_mul2 g h1 g h1
    · have := mul_le_mul2 (a := b.re - a.re) (b := p) (c := b.re - a.re) (d := p) (by grind) h2 (by grind) h2
      grind
  have s2 : (a.im - b.im) * (a.im - b.im) ≤ q * q := by
    rcases Rat.le_total (a := 0) (b := a.im - b.im) with g | g
    · exact mul_le_mul2 g h3 g h3
    · have := mul_le_mul2 (a := b.im - a.im) (b := q) (c := b.im - a.im) (d := q) (by grind) h4 (by grind) h4
      grind
  grind
/-- powers -/
def pw (w : C) : Nat → C
  | 0 => one
  | n + 1 => mul (pw w n) w
theorem pw_add (w : C) (m n : Nat) : pw w (m + n) = mul (pw w m) (pw w n) := by
  induction n with
  | zero => simp [pw, mul_one]
  | succ n ih => rw [Nat.add_succ, pw, pw, ih, mul_assoc]
theorem ns_one : ns one = 1 := by decide +kernel
theorem ns_pw (w : C) (h : ns w = 1) (n : Nat) : ns (pw w n) = 1 := by
  induction n with
  | zero => exact ns_one
  | succ n ih => rw [pw, ns_mul, ih, h]; grind
theorem pw_conj (w : C) (h : ns w = 1) (n : Nat) : mul (pw w n) (conj (pw w n)) = one := by
  rw [mul_conj, ns_pw w h]; rfl
/-- integer powers of a number of length 1 -/
def E (w : C) (n : Int) : C := mul (pw w n.toNat) (conj (pw w (-n).toNat))
theorem E_sub (w : C) (h : ns w = 1) (m n : Nat) : E w ((m : Int) - n) = mul (pw w m) (conj (pw w n)) := by
  unfold E
  rcases Nat.le_total n m with g | g
  · obtain ⟨d, rfl⟩ := Nat.exists_eq_add_of_le g
    have e1 : (((n + d : Nat) : Int) - n).toNat = d := by omega
    have e2 : (-(((n + d : Nat) : Int) - n)).toNat = 0 := by omega
    rw [e1, e2, pw_add, mul_comm (pw w n), mul_assoc, pw_conj w h, mul_one]
    have : conj (pw w 0) = one := conj_one
    rw [this, mul_one]
  · obtain ⟨d, rfl⟩ := Nat.exists_eq_add_of_le g
    have e1 : ((m : Int) - ((m + d : Nat) : Int)).toNat = 0 := by omega
    have e2 : (-((m : Int) - ((m + d : Nat) : Int))).toNat = d := by omega
    rw [e1, e2, pw_add, conj_mul, ← mul_assoc, pw_conj w h, one_mul]
    exact one_mul _
theorem E_add (w : C) (h : ns w = 1) (a b : Int) : E w (a + b) = mul (E w a) (E w b) := by
  have ea : a = ((a.toNat : Int) - ((-a).toNat : Int)) := by omega
  have eb : b = ((b.toNat : Int) - ((-b).toNat : Int)) := by omega
  have eab : a + b = (((a.toNat + b.toNat : Nat) : Int) - (((-a).toNat + (-b).toNat : Nat) : Int)) := by omega
  rw [eab, E_sub w h, pw_add, pw_add, conj_mul]
  unfold E
  simp only [mul_assoc]
  congr 1
  rw [← mul_assoc, mul_comm (pw w b.toNat), mul_assoc]
theorem ns_E (w : C) (h : ns w = 1) (a : Int) : ns (E w a) = 1 := by
  unfold E; rw [ns_mul, ns_conj, ns_pw w h, ns_pw w h]; grind
theorem E_neg (w : C) (a : Int) : E w (-a) = conj (E w a) := by
  unfold E; rw [conj_mul, mul_comm]
  simp [conj, Rat.neg_neg]
theorem E_nat (w : C) (n : Nat) : E w n = pw w n := by
  unfold E
  have : (-(n : Int)).toNat = 0 := by omega
  rw [this, Int.toNat_natCast]
  have : conj (pw w 0) = one := conj_one
  rw [this, mul_one]
theorem pw_near (w : C) (h : ns w = 1) {e : Rat} (hw : Cl w one e) (n : Nat) : Cl (pw w n) one (n * e) := by
  induction n with
  | zero =>
    have := Cl.refl one
    refine this.mono ?_
    have : ((0 : Nat) : Rat) = 0 := rfl
    grind
  | succ n ih =>
    have a := ih.mul_right w (r := 1) (by grind) (by rw [h]; grind)
    rw [one_mul] at a
    have b := a.trans hw
    refine b.mono ?_
    have : ((n + 1 : Nat) : Rat) = n + 1 := by simp
    rw [this]; grind
theorem E_near (w : C) (h : ns w = 1) {e : Rat} (hw : Cl w one e) (n : Int) : Cl (E w n) one (n.natAbs * e) := by
  rcases Int.le_total 0 n with g | g
  · obtain ⟨m, rfl⟩ := Int.eq_ofNat_of_zero_le g
    have := pw_near w h hw m
    have e : E w (Int.ofNat m) = pw w m := E_nat w m
    simpa [E_nat] using this
  · obtain ⟨m, hm⟩ := Int.eq_ofNat_of_zero_le (a := -n) (by omega)
    obtain rfl : n = -(m : Int) := by omega
    have := (pw_near w h hw m).conj
    have c1 : conj one = one := conj_one
    rw [E_neg, E_nat, ← c1]
    simpa using this
end Cx
