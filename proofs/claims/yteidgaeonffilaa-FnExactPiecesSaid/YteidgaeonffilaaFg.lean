/-
  Fingers of texts, plain numbers: a finger and a byte behind its text, bit by bit and all at once; a window that rolls. No program in sight; no conditions beyond each lemma's own.
-/
namespace Go.Proofs.Yteidgaeonffilaa.Fg
set_option linter.unusedVariables false
set_option linter.unusedSimpArgs false

theorem xor_split (n a b r s : Nat) (hr : r < 2 ^ n) (hs : s < 2 ^ n) : (2 ^ n * a + r) ^^^ (2 ^ n * b + s) = 2 ^ n * (a ^^^ b) + (r ^^^ s) := by
  apply Nat.eq_of_testBit_eq
  intro j
  rw [Nat.testBit_xor, Nat.testBit_two_pow_mul_add _ hr, Nat.testBit_two_pow_mul_add _ hs, Nat.testBit_two_pow_mul_add _ (Nat.xor_lt_two_pow hr hs)]
  by_cases h : j < n
  · simp [h]
  · simp [h]
theorem xor_high (n a b r : Nat) (hr : r < 2 ^ n) : (2 ^ n * a + r) ^^^ (2 ^ n * b) = 2 ^ n * (a ^^^ b) + r := by
  have := xor_split n a b r 0 hr (Nat.two_pow_pos n)
  simpa using this
def red (g : Nat) : Nat := if g / 2147483648 = 1 then g ^^^ 2147483657 else g
def step (f c : Nat) : Nat := red (2 * f + c)
theorem red_lt (g : Nat) (h : g < 4294967296) : red g < 2147483648 := by
  unfold red
  by_cases h1 : g / 2147483648 = 1
  · rw [if_pos h1]
    have e := xor_split 31 1 1 (g - 2147483648) 9 (by omega) (by omega)
    rw [show 2 ^ 31 * 1 + (g - 2147483648) = g by omega, show 2 ^ 31 * 1 + 9 = 2147483657 from rfl, Nat.xor_self] at e
    rw [e]
    have := Nat.xor_lt_two_pow (x := g - 2147483648) (y := 9) (n := 31) (by omega) (by omega)
    omega
  · rw [if_neg h1]
    omega
theorem step_lt (f c : Nat) (hf : f < 2147483648) (hc : c < 2) : step f c < 2147483648 := red_lt _ (by omega)
theorem red_xor (g h : Nat) (hg : g < 4294967296) (hh : h < 4294967296) : red (g ^^^ h) = red g ^^^ red h := by
  have e := xor_split 31 (g / 2147483648) (h / 2147483648) (g % 2147483648) (h % 2147483648) (by omega) (by omega)
  rw [show 2 ^ 31 * (g / 2147483648) + g % 2147483648 = g by omega, show 2 ^ 31 * (h / 2147483648) + h % 2147483648 = h by omega] at e
  have hl : (g % 2147483648 ^^^ h % 2147483648) < 2 ^ 31 := Nat.xor_lt_two_pow (by omega) (by omega)
  have hq : (g ^^^ h) / 2147483648 = (g / 2147483648) ^^^ (h / 2147483648) := by
    rw [e]
    omega
  unfold red
  rw [hq]
  have c1 : g / 2147483648 = 0 ∨ g / 2147483648 = 1 := by omega
  have c2 : h / 2147483648 = 0 ∨ h / 2147483648 = 1 := by omega
  rcases c1 with c1 | c1 <;> rcases c2 with c2 | c2 <;> rw [c1, c2] <;> simp
  · rw [Nat.xor_assoc]
  · rw [Nat.xor_assoc, Nat.xor_comm h, ← Nat.xor_assoc]
  · rw [Nat.xor_assoc g, Nat.xor_comm 2147483657 (h ^^^ _), Nat.xor_assoc h, Nat.xor_self, Nat.xor_zero]
theorem step_xor (f f' c c' : Nat) (hf : f < 2147483648) (hf' : f' < 2147483648) (hc : c < 2) (hc' : c' < 2) : step (f ^^^ f') (c ^^^ c') = step f c ^^^ step f' c' := by
  unfold step
  rw [← red_xor _ _ (by omega) (by omega)]
  have e := xor_split 1 f f' c c' (by omega) (by omega)
  rw [show 2 ^ 1 = 2 from rfl] at e
  rw [e]
/-- n bits behind a finger, the highest first -/
def bitsGo : Nat → Nat → Nat → Nat
  | 0, f, _ => f
  | n + 1, f, b => bitsGo n (step f (b / 2 ^ n % 2)) b
def more (f b : Nat) : Nat := bitsGo 8 f b
theorem bitsGo_lt (n : Nat) : ∀ f b, f < 2147483648 → bitsGo n f b < 2147483648 := by
  induction n with
  | zero => intro f b h; exact h
  | succ n ih => intro f b h; exact ih _ _ (step_lt _ _ h (by omega))
theorem more_lt (f b : Nat) (h : f < 2147483648) : more f b < 2147483648 := bitsGo_lt 8 f b h
theorem bit_xor (b b' n : Nat) : (b ^^^ b') / 2 ^ n % 2 = (b / 2 ^ n % 2) ^^^ (b' / 2 ^ n % 2) := by
  have t : ∀ x : Nat, x / 2 ^ n % 2 = if x.testBit n then 1 else 0 := by
    intro x
    rw [Nat.testBit_eq_decide_div_mod_eq]
    by_cases h : x / 2 ^ n % 2 = 1
    · simp [h]
    · simp [h]
      omega
  rw [t, t, t, Nat.testBit_xor]
  cases b.testBit n <;> cases b'.testBit n <;> rfl
theorem bitsGo_xor (n : Nat) : ∀ f f' b b', f < 2147483648 → f' < 2147483648 → bitsGo n (f ^^^ f') (b ^^^ b') = bitsGo n f b ^^^ bitsGo n f' b' := by
  induction n with
  | zero => intros; rfl
  | succ n ih =>
    intro f f' b b' hf hf'
    simp only [bitsGo]
    rw [bit_xor, step_xor _ _ _ _ hf hf' (by omega) (by omega)]
    exact ih _ _ _ _ (step_lt _ _ hf (by omega)) (step_lt _ _ hf' (by omega))
theorem more_xor (f f' b b' : Nat) (hf : f < 2147483648) (hf' : f' < 2147483648) : more (f ^^^ f') (b ^^^ b') = more f b ^^^ more f' b' := bitsGo_xor 8 f f' b b' hf hf'
theorem more_zero : ∀ b, b < 256 → more 0 b = b := by decide +kernel
/-- the reference's way: all bits at once, then taken down from the top -/
def downGo : Nat → Nat → Nat
  | 0, x => x
  | n + 1, x => downGo n (if x / 2 ^ (31 + n) % 2 = 1 then x ^^^ (2147483657 * 2 ^ n) else x)
theorem down_bits (n : Nat) : ∀ f b, f < 2147483648 → downGo n (2 ^ n * f + b % 2 ^ n) = bitsGo n f b := by
  induction n with
  | zero => intro f b _; simp [downGo, bitsGo, Nat.mod_one]
  | succ n ih =>
    intro f b hf
    have hp := Nat.two_pow_pos n
    have hr : b % 2 ^ n < 2 ^ n := Nat.mod_lt _ hp
    have hx : 2 ^ (n + 1) * f + b % 2 ^ (n + 1) = 2 ^ n * (2 * f + b / 2 ^ n % 2) + b % 2 ^ n := by
      rw [Nat.pow_succ, Nat.mod_mul, Nat.mul_add]
      rw [Nat.mul_assoc]
      omega
    have hd : (2 ^ n * (2 * f + b / 2 ^ n % 2) + b % 2 ^ n) / 2 ^ (31 + n) = (2 * f + b / 2 ^ n % 2) / 2147483648 := by
      rw [show 31 + n = n + 31 by omega, Nat.pow_add, ← Nat.div_div_eq_div_mul, Nat.mul_add_div hp, Nat.div_eq_of_lt hr, Nat.add_zero]
    have h2 : (2 * f + b / 2 ^ n % 2) / 2147483648 % 2 = (2 * f + b / 2 ^ n % 2) / 2147483648 := by omega
    simp only [downGo, bitsGo]
    rw [hx, hd, h2]
    unfold step red
    by_cases h : (2 * f + b / 2 ^ n % 2) / 2147483648 = 1
    · rw [if_pos h, if_pos h, Nat.mul_comm 2147483657, xor_high n _ _ _ hr]
      refine ih _ _ ?_
      have := red_lt (2 * f + b / 2 ^ n % 2) (by omega)
      unfold red at this
      rwa [if_pos h] at this
    · rw [if_neg h, if_neg h]
      exact ih _ _ (by omega)
theorem down_more (f b : Nat) (hf : f < 2147483648) (hb : b < 256) : downGo 8 ((f * 256) ^^^ b) = more f b := by
  have e := xor_split 8 f 0 0 b (by decide) (by omega)
  simp only [Nat.mul_zero, Nat.add_zero, Nat.zero_add, Nat.xor_zero, Nat.zero_xor] at e
  rw [Nat.mul_comm f 256, show 256 = 2 ^ 8 from rfl, e]
  have h := down_bits 8 f b hf
  rw [Nat.mod_eq_of_lt (show b < 2 ^ 8 from hb)] at h
  exact h
/-- a text's finger -/
def over (f : Nat) (t : List Nat) : Nat := t.foldl more f
def shifts : Nat → Nat → Nat
  | 0, f => f
  | n + 1, f => shifts n (more f 0)
theorem shifts_lt (n : Nat) : ∀ f, f < 2147483648 → shifts n f < 2147483648 := by
  induction n with
  | zero => intro f h; exact h
  | succ n ih => intro f h; exact ih _ (more_lt _ _ h)
theorem over_lt (t : List Nat) : ∀ f, f < 2147483648 → over f t < 2147483648 := by
  induction t with
  | nil => intro f h; exact h
  | cons b t ih => intro f h; exact ih _ (more_lt _ _ h)
theorem over_xor (t : List Nat) : ∀ x y, x < 2147483648 → y < 2147483648 → over (x ^^^ y) t = shifts t.length x ^^^ over y t := by
  induction t with
  | nil => intros; rfl
  | cons b t ih =>
    intro x y hx hy
    have e := more_xor x y 0 b hx hy
    rw [Nat.zero_xor] at e
    show over (more (x ^^^ y) b) t = shifts t.length (more x 0) ^^^ over (more y b) t
    rw [e]
    exact ih _ _ (more_lt _ _ hx) (more_lt _ _ hy)
/-- a window that rolls: its first byte is taken out, another one put behind. -/
theorem roll (c d : Nat) (t : List Nat) (hc : c < 256) : more (over 0 (c :: t) ^^^ shifts t.length c) d = over 0 (t ++ [d]) := by
  have h1 : over 0 (c :: t) = shifts t.length c ^^^ over 0 t := by
    show over (more 0 c) t = _
    rw [more_zero c hc]
    have := over_xor t c 0 (by omega) (by omega)
    rwa [Nat.xor_zero] at this
  rw [h1, Nat.xor_comm (shifts t.length c), Nat.xor_assoc, Nat.xor_self, Nat.xor_zero]
  simp [over]
end Go.Proofs.Yteidgaeonffilaa.Fg
