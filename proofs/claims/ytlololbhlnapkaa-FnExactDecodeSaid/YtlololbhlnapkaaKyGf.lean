/-
  The field of 256 elements on eight bits, plain algebra: sums, products, powers, inverses, logarithms. No program in sight; no conditions beyond each lemma's own.
-/
namespace Go.Proofs.Ytlololbhlnapkaa.Gf
set_option linter.unusedVariables false
set_option linter.unusedSimpArgs false
abbrev B := BitVec 8
def xt (a : B) : B := (a <<< 1) ^^^ (if a.msb then 0x1d#8 else 0#8)
def sel (b : Bool) (a : B) : B := if b then a else 0#8
def xts : Nat → B → B
  | 0, a => a
  | n + 1, a => xts n (xt a)
theorem sel_xor (b : Bool) (x y : B) : sel b (x ^^^ y) = sel b x ^^^ sel b y := by cases b <;> simp [sel]
theorem sel_bxor (b c : Bool) (x : B) : sel (b ^^ c) x = sel b x ^^^ sel c x := by cases b <;> cases c <;> simp [sel]
theorem xt_xor (a b : B) : xt (a ^^^ b) = xt a ^^^ xt b := by
  unfold xt
  rw [BitVec.shiftLeft_xor_distrib, BitVec.msb_xor]
  have e : ∀ c d : Bool, (if (c ^^ d) = true then 0x1d#8 else 0#8) = (if c = true then 0x1d#8 else 0#8) ^^^ (if d = true then 0x1d#8 else 0#8) := by decide
  rw [e]
  ac_rfl
theorem xt_sel (b : Bool) (x : B) : xt (sel b x) = sel b (xt x) := by
  cases b
  · show xt 0#8 = 0#8
    decide
  · rfl
theorem xts_xor (n : Nat) : ∀ a b : B, xts n (a ^^^ b) = xts n a ^^^ xts n b := by
  induction n with
  | zero => intros; rfl
  | succ n ih => intro a b; simp only [xts, xt_xor, ih]
theorem xts_xt (n : Nat) : ∀ a : B, xts n (xt a) = xt (xts n a) := by
  induction n with
  | zero => intros; rfl
  | succ n ih => intro a; simp only [xts, ih]
def mul (a b : B) : B :=
  sel b[0] a ^^^ sel b[1] (xts 1 a) ^^^ sel b[2] (xts 2 a) ^^^ sel b[3] (xts 3 a) ^^^ sel b[4] (xts 4 a) ^^^ sel b[5] (xts 5 a) ^^^ sel b[6] (xts 6 a) ^^^ sel b[7] (xts 7 a)
theorem mul_xor (a b c : B) : mul a (b ^^^ c) = mul a b ^^^ mul a c := by
  simp only [mul, BitVec.getElem_xor, sel_bxor]
  ac_rfl
theorem xor_mul (a b c : B) : mul (a ^^^ b) c = mul a c ^^^ mul b c := by
  simp only [mul, xts_xor, sel_xor]
  ac_rfl
theorem xt_mul (a b : B) : mul (xt a) b = xt (mul a b) := by
  simp only [mul, xt_xor, xt_sel, xts_xt]
theorem xts_mul (n : Nat) (a b : B) : mul (xts n a) b = xts n (mul a b) := by
  induction n generalizing a with
  | zero => rfl
  | succ n ih => simp only [xts, ih, xt_mul]
theorem mul_zero (a : B) : mul a 0#8 = 0#8 := by simp [mul, sel]
theorem mul_one (a : B) : mul a 1#8 = a := by
  have h : ∀ i : Nat, (h : i < 8) → (1#8)[i] = decide (i = 0) := by decide
  simp [mul, sel, h]
theorem forall_bv {p : B → Prop} (h : ∀ n, n < 256 → p (BitVec.ofNat 8 n)) (a : B) : p a := by
  have := h a.toNat a.isLt
  rwa [BitVec.ofNat_toNat, BitVec.setWidth_eq] at this
theorem one_mul (a : B) : mul 1#8 a = a := by
  revert a
  exact forall_bv (by decide +kernel)
theorem mul_basis (j : Nat) (hj : j < 8) (a : B) : mul a (xts j 1#8) = xts j a := by
  revert j
  have : ∀ j, j < 8 → ∀ i, (h : i < 8) → (xts j 1#8)[i] = decide (i = j) := by decide +kernel
  intro j hj
  have e : ∀ i, (h : i < 8) → (xts j 1#8)[i] = decide (i = j) := this j hj
  match j, hj with
  | 0, _ => simp only [mul, e, sel]; simp; rfl
  | 1, _ | 2, _ | 3, _ | 4, _ | 5, _ | 6, _ | 7, _ => simp only [mul, e, sel]; simp
theorem as_basis (b : B) : b = sel b[0] (xts 0 1#8) ^^^ sel b[1] (xts 1 1#8) ^^^ sel b[2] (xts 2 1#8) ^^^ sel b[3] (xts 3 1#8) ^^^ sel b[4] (xts 4 1#8) ^^^ sel b[5] (xts 5 1#8) ^^^ sel b[6] (xts 6 1#8) ^^^ sel b[7] (xts 7 1#8) := by
  revert b
  exact forall_bv (by decide +kernel)
/-- what holds of 0, of the powers of x up to the seventh, and of sums, holds of all. -/
theorem by_basis {p : B → Prop} (h0 : p 0#8) (hs : ∀ a b, p a → p b → p (a ^^^ b)) (hb : ∀ j, j < 8 → p (xts j 1#8)) (a : B) : p a := by
  have s : ∀ (c : Bool) (x : B), p x → p (sel c x) := by
    intro c x hx
    cases c
    · exact h0
    · exact hx
  rw [as_basis a]
  exact hs _ _ (hs _ _ (hs _ _ (hs _ _ (hs _ _ (hs _ _ (hs _ _ (s _ _ (hb 0 (by decide))) (s _ _ (hb 1 (by decide)))) (s _ _ (hb 2 (by decide)))) (s _ _ (hb 3 (by decide)))) (s _ _ (hb 4 (by decide)))) (s _ _ (hb 5 (by decide)))) (s _ _ (hb 6 (by decide)))) (s _ _ (hb 7 (by decide)))
theorem zero_mul (a : B) : mul 0#8 a = 0#8 := by
  have h := xor_mul 0#8 0#8 a
  simpa using h
theorem mul_comm (a b : B) : mul a b = mul b a := by
  refine by_basis (p := fun b => mul a b = mul b a) ?_ ?_ ?_ b
  · rw [mul_zero, zero_mul]
  · intro x y hx hy
    rw [mul_xor, xor_mul, hx, hy]
  · intro j hj
    rw [mul_basis j hj, xts_mul, one_mul]
theorem mul_assoc (a b c : B) : mul (mul a b) c = mul a (mul b c) := by
  refine by_basis (p := fun c => mul (mul a b) c = mul a (mul b c)) ?_ ?_ ?_ c
  · rw [mul_zero, mul_zero, mul_zero]
  · intro x y hx hy
    rw [mul_xor, mul_xor, mul_xor, hx, hy]
  · intro j hj
    rw [mul_basis j hj, mul_basis j hj, mul_comm a (xts j b), xts_mul, mul_comm b a]
theorem mul_half (a : B) (n : Nat) (h : n < 256) : mul a (BitVec.ofNat 8 n) = mul (xt a) (BitVec.ofNat 8 (n / 2)) ^^^ (if n % 2 = 1 then a else 0#8) := by
  have e : ∀ m : Nat, ∀ i, (hi : i < 8) → (BitVec.ofNat 8 m)[i] = m.testBit i := by
    intro m i hi
    rw [BitVec.getElem_eq_testBit_toNat, BitVec.toNat_ofNat, Nat.testBit_mod_two_pow]
    simp [hi]
  have t : ∀ i, (n / 2).testBit i = n.testBit (i + 1) := fun i => by rw [Nat.testBit_succ]
  have t8 : n.testBit 8 = false := Nat.testBit_lt_two_pow h
  have t0 : (if n % 2 = 1 then a else 0#8) = sel (n.testBit 0) a := by
    rw [Nat.testBit_zero]
    by_cases hp : n % 2 = 1 <;> simp [sel, hp]
  rw [t0]
  have f : sel false (xts 8 a) = 0#8 := rfl
  have x : ∀ i, xts i (xt a) = xts (i + 1) a := fun _ => rfl
  have z : xt a = xts 1 a := rfl
  simp only [mul, e, t, x]
  rw [z, t8, f]
  simp only [BitVec.xor_zero]
  ac_rfl
def pw (a : B) : Nat → B
  | 0 => 1#8
  | n + 1 => mul (pw a n) a
theorem pw_add (a : B) (m n : Nat) : pw a (m + n) = mul (pw a m) (pw a n) := by
  induction n with
  | zero => simp [pw, mul_one]
  | succ n ih => rw [← Nat.add_assoc]; simp only [pw, ih, mul_assoc]
theorem pw_sq (a : B) (n : Nat) : pw (mul a a) n = pw a (2 * n) := by
  induction n with
  | zero => rfl
  | succ n ih =>
    rw [show 2 * (n + 1) = 2 * n + 1 + 1 by omega]
    simp only [pw, ih, mul_assoc]
/-- the program's way: out, a, n -/
def pwGo : Nat → B → Nat → B → B
  | 0, _, _, out => out
  | k + 1, a, n, out => if n = 0 then out else pwGo k (mul a a) (n / 2) (if n % 2 = 1 then mul out a else out)
theorem pwGo_eq (k : Nat) : ∀ (a : B) (n : Nat) (out : B), n < 2 ^ k → pwGo k a n out = mul out (pw a n) := by
  induction k with
  | zero => intro a n out h; obtain rfl : n = 0 := by omega
            simp [pwGo, pw, mul_one]
  | succ k ih =>
    intro a n out h
    rw [pwGo]
    by_cases h0 : n = 0
    · subst h0; simp [pw, mul_one]
    · rw [if_neg h0, ih _ _ _ (by rw [Nat.pow_succ] at h; omega), pw_sq]
      by_cases h1 : n % 2 = 1
      · rw [if_pos h1, mul_assoc]
        congr 1
        have : pw a n = pw a (1 + 2 * (n / 2)) := by congr 1; omega
        rw [this, pw_add]
        simp [pw, one_mul]
      · rw [if_neg h1]
        congr 2
        omega
def inv (a : B) : B := pw a 254
theorem inv_mul_all : ∀ n, n < 256 → BitVec.ofNat 8 n = 0#8 ∨ mul (BitVec.ofNat 8 n) (pwGo 8 (BitVec.ofNat 8 n) 254 1#8) = 1#8 := by decide +kernel
theorem mul_inv (a : B) (h : a ≠ 0#8) : mul a (inv a) = 1#8 := by
  have := forall_bv (p := fun a => a = 0#8 ∨ mul a (pwGo 8 a 254 1#8) = 1#8) inv_mul_all a
  rcases this with h1 | h1
  · exact absurd h1 h
  · rwa [pwGo_eq 8 _ _ _ (by decide), one_mul] at h1
theorem inv_zero : inv 0#8 = 0#8 := by
  have : inv 0#8 = mul (pw 0#8 253) 0#8 := rfl
  rw [this, mul_zero]
theorem mul_eq_zero {a b : B} (h : mul a b = 0#8) (ha : a ≠ 0#8) : b = 0#8 := by
  have h1 : mul (inv a) (mul a b) = 0#8 := by rw [h, mul_zero]
  rwa [← mul_assoc, mul_comm (inv a), mul_inv a ha, one_mul] at h1
theorem inv_ne_zero {a : B} (h : a ≠ 0#8) : inv a ≠ 0#8 := by
  intro e
  have := mul_inv a h
  rw [e, mul_zero] at this
  exact absurd this (by decide)
end Go.Proofs.Ytlololbhlnapkaa.Gf
