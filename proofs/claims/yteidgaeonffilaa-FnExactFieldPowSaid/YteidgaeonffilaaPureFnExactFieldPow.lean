/-
  The law FnExactFieldPow, over plain values: program and reference give the same power for every two numbers. No conditions.
-/
import Derived.Test.YteidgaeonffilaaFieldAid
import Derived.Test.YteidgaeonffilaaPFnExactFieldPowx1
namespace Go.Proofs.Yteidgaeonffilaa.Pure
open Go.RowKit Go.Proofs.Yteidgaeonffilaa.PFnExactFieldPow Go.Proofs.YteidgaeonffilaaW.PrintWords Go.Proofs.YteidgaeonffilaaW.PrintLast
open Go.Proofs.Yteidgaeonffilaa.FieldAid
set_option linter.unusedVariables false
set_option linter.unusedSimpArgs false


theorem spec_l02Mul_l0 (k : Nat) : ∀ (a o : Gf.B) (n : Nat), n < 256 → n < 2 ^ k → spec_l02Mul.l0 (k + 1) (un a) (n : Int) (un o) = some (un (o ^^^ Gf.mul a (BitVec.ofNat 8 n))) := by
  induction k with
  | zero =>
    intro a o n _ h
    obtain rfl : n = 0 := by omega
    simp only [spec_l02Mul.l0]
    rw [if_neg (by omega), show BitVec.ofNat 8 0 = 0#8 from rfl, Gf.mul_zero, BitVec.xor_zero]
  | succ k ih =>
    intro a o n h8 h
    rw [spec_l02Mul.l0]
    by_cases h0 : n = 0
    · subst h0
      rw [if_neg (by omega), show BitVec.ofNat 8 0 = 0#8 from rfl, Gf.mul_zero, BitVec.xor_zero]
    · rw [if_pos (by omega), mul_next a o n h8]
      rw [← ih (Gf.xt a) (if n % 2 = 1 then o ^^^ a else o) (n / 2) (by omega) (by rw [Nat.pow_succ] at h; omega)]
      simp only [odd_tmod, half_tdiv n (by omega), w_2un, xor_un]
      by_cases hp : n % 2 = 1 <;> by_cases hx : un a * 2 > 255
      · rw [if_pos (by omega), if_pos hx, if_pos hp, xt_high a hx]
      · rw [if_pos (by omega), if_neg hx, if_pos hp, xt_low a hx]
      · rw [if_neg (by omega), if_pos hx, if_neg hp, xt_high a hx]
      · rw [if_neg (by omega), if_neg hx, if_neg hp, xt_low a hx]
theorem spec_l02Mul_f (k : Nat) (hk : 9 ≤ k) (a b : Gf.B) : spec_l02Mul.f k (un a) (un b) = some (un (Gf.mul a b)) := by
  obtain ⟨m, rfl⟩ : ∃ m, k = m + 1 := ⟨k - 1, by omega⟩
  have h := spec_l02Mul_l0 m a 0#8 b.toNat b.isLt (Nat.lt_of_lt_of_le b.isLt (Nat.pow_le_pow_right (by decide) (show 8 ≤ m by omega)))
  rw [ofNat_un, BitVec.zero_xor] at h
  exact h

theorem spec_l02Pow_l0 (k : Nat) : ∀ (a o : Gf.B) (n : Nat), n < 2 ^ 60 → n < 2 ^ k → spec_l02Pow.l0 (k + 10) (un a) (n : Int) (un o) = some (un (Gf.mul o (Gf.pw a n))) := by
  induction k with
  | zero =>
    intro a o n _ h
    obtain rfl : n = 0 := by omega
    rw [show 0 + 10 = 9 + 1 from rfl, spec_l02Pow.l0, if_neg (by omega), Gf.pw, Gf.mul_one]
  | succ k ih =>
    intro a o n h8 h
    rw [show k + 1 + 10 = (k + 10) + 1 by omega, spec_l02Pow.l0]
    by_cases h0 : n = 0
    · subst h0
      rw [if_neg (by omega), Gf.pw, Gf.mul_one]
    · rw [if_pos (by omega), pw_next a o n h0]
      rw [← ih (Gf.mul a a) (if n % 2 = 1 then Gf.mul o a else o) (n / 2) (by omega) (by rw [Nat.pow_succ] at h; omega)]
      simp only [odd_tmod, half_tdiv n (by omega), spec_l02Mul_f (k + 10) (by omega), Option.bind_some]
      by_cases hp : n % 2 = 1
      · rw [if_pos (by omega), if_pos hp]
      · rw [if_neg (by omega), if_neg hp]
theorem spec_l02Pow_f (j k : Nat) (hk : j + 10 ≤ k) (a : Gf.B) (n : Nat) (h60 : n < 2 ^ 60) (h : n < 2 ^ j) : spec_l02Pow.f k (un a) (n : Int) = some (un (Gf.pw a n)) := by
  obtain ⟨m, rfl⟩ : ∃ m, k = m + 10 := ⟨k - 10, by omega⟩
  have e := spec_l02Pow_l0 m a 1#8 n h60 (Nat.lt_of_lt_of_le h (Nat.pow_le_pow_right (by decide) (show j ≤ m by omega)))
  rw [Gf.one_mul] at e
  exact e

theorem impl_mul_l0 (k : Nat) : ∀ (a o : Gf.B) (n : Nat), n < 256 → n < 2 ^ k → impl_mul.l0 (k + 1) (un a) (n : Int) (un o) = some (un (o ^^^ Gf.mul a (BitVec.ofNat 8 n))) := by
  induction k with
  | zero =>
    intro a o n _ h
    obtain rfl : n = 0 := by omega
    simp only [impl_mul.l0]
    rw [if_neg (by omega), show BitVec.ofNat 8 0 = 0#8 from rfl, Gf.mul_zero, BitVec.xor_zero]
  | succ k ih =>
    intro a o n h8 h
    rw [impl_mul.l0]
    by_cases h0 : n = 0
    · subst h0
      rw [if_neg (by omega), show BitVec.ofNat 8 0 = 0#8 from rfl, Gf.mul_zero, BitVec.xor_zero]
    · rw [if_pos (by omega), mul_next a o n h8]
      rw [← ih (Gf.xt a) (if n % 2 = 1 then o ^^^ a else o) (n / 2) (by omega) (by rw [Nat.pow_succ] at h; omega)]
      simp only [odd_and n (by omega), half_div, w_un2, xor_un]
      by_cases hp : n % 2 = 1 <;> by_cases hx : un a * 2 > 255
      · rw [if_pos (by omega), if_pos hx, if_pos hp, xt_high a hx]
      · rw [if_pos (by omega), if_neg hx, if_pos hp, xt_low a hx]
      · rw [if_neg (by omega), if_pos hx, if_neg hp, xt_high a hx]
      · rw [if_neg (by omega), if_neg hx, if_neg hp, xt_low a hx]
theorem impl_mul_f (k : Nat) (hk : 9 ≤ k) (a b : Gf.B) : impl_mul.f k (un a) (un b) = some (un (Gf.mul a b)) := by
  obtain ⟨m, rfl⟩ : ∃ m, k = m + 1 := ⟨k - 1, by omega⟩
  have h := impl_mul_l0 m a 0#8 b.toNat b.isLt (Nat.lt_of_lt_of_le b.isLt (Nat.pow_le_pow_right (by decide) (show 8 ≤ m by omega)))
  rw [ofNat_un, BitVec.zero_xor] at h
  exact h

theorem impl_pow_l0 (k : Nat) : ∀ (a o : Gf.B) (n : Nat), n < 2 ^ 60 → n < 2 ^ k → impl_pow.l0 (k + 10) (un a) (n : Int) (un o) = some (un (Gf.mul o (Gf.pw a n))) := by
  induction k with
  | zero =>
    intro a o n _ h
    obtain rfl : n = 0 := by omega
    rw [show 0 + 10 = 9 + 1 from rfl, impl_pow.l0, if_neg (by omega), Gf.pw, Gf.mul_one]
  | succ k ih =>
    intro a o n h8 h
    rw [show k + 1 + 10 = (k + 10) + 1 by omega, impl_pow.l0]
    by_cases h0 : n = 0
    · subst h0
      rw [if_neg (by omega), Gf.pw, Gf.mul_one]
    · rw [if_pos (by omega), pw_next a o n h0]
      rw [← ih (Gf.mul a a) (if n % 2 = 1 then Gf.mul o a else o) (n / 2) (by omega) (by rw [Nat.pow_succ] at h; omega)]
      simp only [odd_and n (by omega), half_div, impl_mul_f (k + 10) (by omega), Option.bind_some]
      by_cases hp : n % 2 = 1
      · rw [if_pos (by omega), if_pos hp]
      · rw [if_neg (by omega), if_neg hp]
theorem impl_pow_f (j k : Nat) (hk : j + 10 ≤ k) (a : Gf.B) (n : Nat) (h60 : n < 2 ^ 60) (h : n < 2 ^ j) : impl_pow.f k (un a) (n : Int) = some (un (Gf.pw a n)) := by
  obtain ⟨m, rfl⟩ : ∃ m, k = m + 10 := ⟨k - 10, by omega⟩
  have e := impl_pow_l0 m a 1#8 n h60 (Nat.lt_of_lt_of_le h (Nat.pow_le_pow_right (by decide) (show j ≤ m by omega)))
  rw [Gf.one_mul] at e
  exact e

theorem FnExactFieldPow : laws_FnExactFieldPow.Pure := by
  intro a n _ _
  refine ⟨60, ?_⟩
  unfold laws_FnExactFieldPow.f spec_FieldPow.f impl_FieldPow.f spec_l02Byte.f impl_isByte.f impl_within.f
  simp only [spec_FieldPow.j0]
  by_cases h0 : n = 0
  · subst h0
    by_cases h1 : a ≥ 0
    · by_cases h2 : a ≤ 255
      · obtain ⟨x, rfl⟩ := ex_byte h1 h2
        have e := spec_l02Pow_f 32 59 (by omega) x 0 (by decide) (by decide)
        simp only [Gf.pw] at e
        simp [h1, h2]
        rw [show (0 : Int) = ((0 : Nat) : Int) from rfl, e]
        simp
        rfl
      · simp [h1, h2]
    · simp [h1]
  · by_cases h1 : a ≥ 0
    · by_cases h2 : a ≤ 255
      · obtain ⟨x, rfl⟩ := ex_byte h1 h2
        by_cases h3 : n < 0
        · have h4 : ¬ (n ≥ 0) := by omega
          simp [h0, h1, h2, h3, h4]
        · by_cases h4 : n > 2147483648
          · have h5 : ¬ (n ≤ 2147483648) := by omega
            have h6 : n ≥ 0 := by omega
            simp [h0, h1, h2, h3, h4, h5, h6]
          · have h5 : n ≤ 2147483648 := by omega
            have h6 : n ≥ 0 := by omega
            obtain ⟨m, rfl⟩ := Int.eq_ofNat_of_zero_le h6
            have e1 := spec_l02Pow_f 32 59 (by omega) x m (by omega) (by omega)
            have e2 := impl_pow_f 32 60 (by omega) x m (by omega) (by omega)
            have hm : ¬ m = 0 := by omega
            simp [h0, h1, h2, h3, h4, h5, h6, e1, e2, hm]
      · simp [h0, h1, h2]
    · simp [h0, h1]

end Go.Proofs.Yteidgaeonffilaa.Pure
