/-
  The law FnExactFieldDiv, over plain values: program and reference give the same quotient of every two numbers. No conditions.
-/
import Derived.Test.YteidgaeonffilaaFieldAid
import Derived.Test.YteidgaeonffilaaPFnExactFieldDivx2
namespace Go.Proofs.Yteidgaeonffilaa.Pure
open Go.RowKit Go.Proofs.Yteidgaeonffilaa.PFnExactFieldDiv Go.Proofs.YteidgaeonffilaaW.PrintWords Go.Proofs.YteidgaeonffilaaW.PrintLast
open Go.Proofs.Yteidgaeonffilaa.FieldAid
set_option linter.unusedVariables false
set_option linter.unusedSimpArgs false


theorem spec_l02Mul_l0 (k : Nat) : ∀ (a o : Gf.B) (n : Nat), n < 256 → n < 2 ^ k → spec_l02Mul.l0 (k + 1) (un a) (n : Int) (un o) = some (un (o ^^^ Gf.mul a (BitVec.ofNat 8 n))) := by
  induction k with
  | zero =>
    intro a o n _ h
    obtain rfl : n = 0 := by omega
    simp only [spec_l02Mul.l0]
    rw [if_neg (by omega), show BitVec.ofNat 8 0 = 0#8 from rfl, Gf.mul_zero, BitVec.xor_zero]
  | succ k ih =>
    intro a o n h8 h
    rw [spec_l02Mul.l0]
    by_cases h0 : n = 0
    · subst h0
      rw [if_neg (by omega), show BitVec.ofNat 8 0 = 0#8 from rfl, Gf.mul_zero, BitVec.xor_zero]
    · rw [if_pos (by omega), mul_next a o n h8]
      rw [← ih (Gf.xt a) (if n % 2 = 1 then o ^^^ a else o) (n / 2) (by omega) (by rw [Nat.pow_succ] at h; omega)]
      simp only [odd_tmod, half_tdiv n (by omega), w_2un, xor_un]
      by_cases hp : n % 2 = 1 <;> by_cases hx : un a * 2 > 255
      · rw [if_pos (by omega), if_pos hx, if_pos hp, xt_high a hx]
      · rw [if_pos (by omega), if_neg hx, if_pos hp, xt_low a hx]
      · rw [if_neg (by omega), if_pos hx, if_neg hp, xt_high a hx]
      · rw [if_neg (by omega), if_neg hx, if_neg hp, xt_low a hx]
theorem spec_l02Mul_f (k : Nat) (hk : 9 ≤ k) (a b : Gf.B) : spec_l02Mul.f k (un a) (un b) = some (un (Gf.mul a b)) := by
  obtain ⟨m, rfl⟩ : ∃ m, k = m + 1 := ⟨k - 1, by omega⟩
  have h := spec_l02Mul_l0 m a 0#8 b.toNat b.isLt (Nat.lt_of_lt_of_le b.isLt (Nat.pow_le_pow_right (by decide) (show 8 ≤ m by omega)))
  rw [ofNat_un, BitVec.zero_xor] at h
  exact h

theorem spec_l02Pow_l0 (k : Nat) : ∀ (a o : Gf.B) (n : Nat), n < 2 ^ 60 → n < 2 ^ k → spec_l02Pow.l0 (k + 10) (un a) (n : Int) (un o) = some (un (Gf.mul o (Gf.pw a n))) := by
  induction k with
  | zero =>
    intro a o n _ h
    obtain rfl : n = 0 := by omega
    rw [show 0 + 10 = 9 + 1 from rfl, spec_l02Pow.l0, if_neg (by omega), Gf.pw, Gf.mul_one]
  | succ k ih =>
    intro a o n h8 h
    rw [show k + 1 + 10 = (k + 10) + 1 by omega, spec_l02Pow.l0]
    by_cases h0 : n = 0
    · subst h0
      rw [if_neg (by omega), Gf.pw, Gf.mul_one]
    · rw [if_pos (by omega), pw_next a o n h0]
      rw [← ih (Gf.mul a a) (if n % 2 = 1 then Gf.mul o a else o) (n / 2) (by omega) (by rw [Nat.pow_succ] at h; omega)]
      simp only [odd_tmod, half_tdiv n (by omega), spec_l02Mul_f (k + 10) (by omega), Option.bind_some]
      by_cases hp : n % 2 = 1
      · rw [if_pos (by omega), if_pos hp]
      · rw [if_neg (by omega), if_neg hp]
theorem spec_l02Pow_f (j k : Nat) (hk : j + 10 ≤ k) (a : Gf.B) (n : Nat) (h60 : n < 2 ^ 60) (h : n < 2 ^ j) : spec_l02Pow.f k (un a) (n : Int) = some (un (Gf.pw a n)) := by
  obtain ⟨m, rfl⟩ : ∃ m, k = m + 10 := ⟨k - 10, by omega⟩
  have e := spec_l02Pow_l0 m a 1#8 n h60 (Nat.lt_of_lt_of_le h (Nat.pow_le_pow_right (by decide) (show j ≤ m by omega)))
  rw [Gf.one_mul] at e
  exact e

theorem impl_mul_l0 (k : Nat) : ∀ (a o : Gf.B) (n : Nat), n < 256 → n < 2 ^ k → impl_mul.l0 (k + 1) (un a) (n : Int) (un o) = some (un (o ^^^ Gf.mul a (BitVec.ofNat 8 n))) := by
  induction k with
  | zero =>
    intro a o n _ h
    obtain rfl : n = 0 := by omega
    simp only [impl_mul.l0]
    rw [if_neg (by omega), show BitVec.ofNat 8 0 = 0#8 from rfl, Gf.mul_zero, BitVec.xor_zero]
  | succ k ih =>
    intro a o n h8 h
    rw [impl_mul.l0]
    by_cases h0 : n = 0
    · subst h0
      rw [if_neg (by omega), show BitVec.ofNat 8 0 = 0#8 from rfl, Gf.mul_zero, BitVec.xor_zero]
    · rw [if_pos (by omega), mul_next a o n h8]
      rw [← ih (Gf.xt a) (if n % 2 = 1 then o ^^^ a else o) (n / 2) (by omega) (by rw [Nat.pow_succ] at h; omega)]
      simp only [odd_and n (by omega), half_div, w_un2, xor_un]
      by_cases hp : n % 2 = 1 <;> by_cases hx : un a * 2 > 255
      · rw [if_pos (by omega), if_pos hx, if_pos hp, xt_high a hx]
      · rw [if_pos (by omega), if_neg hx, if_pos hp, xt_low a hx]
      · rw [if_neg (by omega), if_pos hx, if_neg hp, xt_high a hx]
      · rw [if_neg (by omega), if_neg hx, if_neg hp, xt_low a hx]
theorem impl_mul_f (k : Nat) (hk : 9 ≤ k) (a b : Gf.B) : impl_mul.f k (un a) (un b) = some (un (Gf.mul a b)) := by
  obtain ⟨m, rfl⟩ : ∃ m, k = m + 1 := ⟨k - 1, by omega⟩
  have h := impl_mul_l0 m a 0#8 b.toNat b.isLt (Nat.lt_of_lt_of_le b.isLt (Nat.pow_le_pow_right (by decide) (show 8 ≤ m by omega)))
  rw [ofNat_un, BitVec.zero_xor] at h
  exact h

theorem impl_pow_l0 (k : Nat) : ∀ (a o : Gf.B) (n : Nat), n < 2 ^ 60 → n < 2 ^ k → impl_pow.l0 (k + 10) (un a) (n : Int) (un o) = some (un (Gf.mul o (Gf.pw a n))) := by
  induction k with
  | zero =>
    intro a o n _ h
    obtain rfl : n = 0 := by omega
    rw [show 0 + 10 = 9 + 1 from rfl, impl_pow.l0, if_neg (by omega), Gf.pw, Gf.mul_one]
  | succ k ih =>
    intro a o n h8 h
    rw [show k + 1 + 10 = (k + 10) + 1 by omega, impl_pow.l0]
    by_cases h0 : n = 0
    · subst h0
      rw [if_neg (by omega), Gf.pw, Gf.mul_one]
    · rw [if_pos (by omega), pw_next a o n h0]
      rw [← ih (Gf.mul a a) (if n % 2 = 1 then Gf.mul o a else o) (n / 2) (by omega) (by rw [Nat.pow_succ] at h; omega)]
      simp only [odd_and n (by omega), half_div, impl_mul_f (k + 10) (by omega), Option.bind_some]
      by_cases hp : n % 2 = 1
      · rw [if_pos (by omega), if_pos hp]
      · rw [if_neg (by omega), if_neg hp]
theorem impl_pow_f (j k : Nat) (hk : j + 10 ≤ k) (a : Gf.B) (n : Nat) (h60 : n < 2 ^ 60) (h : n < 2 ^ j) : impl_pow.f k (un a) (n : Int) = some (un (Gf.pw a n)) := by
  obtain ⟨m, rfl⟩ : ∃ m, k = m + 10 := ⟨k - 10, by omega⟩
  have e := impl_pow_l0 m a 1#8 n h60 (Nat.lt_of_lt_of_le h (Nat.pow_le_pow_right (by decide) (show j ≤ m by omega)))
  rw [Gf.one_mul] at e
  exact e

theorem impl_isByte_un (a : Gf.B) : impl_isByte.f (un a) = some true := by
  have := un_bd a
  unfold impl_isByte.f impl_within.f
  simp [this]

theorem impl_FieldMul_un (k : Nat) (hk : 9 ≤ k) (a b : Gf.B) : impl_FieldMul.f k (un a) (un b) = some (un (Gf.mul a b)) := by
  unfold impl_FieldMul.f
  rw [impl_isByte_un, impl_isByte_un, impl_mul_f k hk]
  rfl

theorem impl_FieldInv_un (k : Nat) (hk : 50 ≤ k) (a : Gf.B) : impl_FieldInv.f k (un a) = some (un (Gf.inv a)) := by
  unfold impl_FieldInv.f impl_inv.f
  have e := impl_pow_f 32 k (by omega) a 254 (by omega) (by omega)
  rw [show ((254 : Nat) : Int) = 254 from rfl] at e
  rw [impl_isByte_un, e]
  rfl

theorem FnExactFieldDiv : laws_FnExactFieldDiv.Pure := by
  intro a b _ _
  refine ⟨61, ?_⟩
  unfold laws_FnExactFieldDiv.f spec_FieldDiv.f impl_FieldDiv.f
  simp only [spec_FieldDiv.j0]
  have zb : ∀ c : Int, ¬ (0 ≤ c ∧ c ≤ 255) → impl_isByte.f c = some false ∧ spec_l02Byte.f c = some false := by
    intro c hc
    unfold impl_isByte.f impl_within.f spec_l02Byte.f
    by_cases h : c ≥ 0
    · have h2 : ¬ c ≤ 255 := by omega
      simp [h, h2]
    · simp [h]
  have sb : ∀ a : Gf.B, spec_l02Byte.f (un a) = some true := by
    intro a
    have := un_bd a
    unfold spec_l02Byte.f
    simp [this]
  have si : ∀ a : Gf.B, spec_FieldInv.f 60 (un a) = some (un (Gf.inv a)) := by
    intro a
    have e := spec_l02Pow_f 32 60 (by omega) a 254 (by omega) (by omega)
    rw [show ((254 : Nat) : Int) = 254 from rfl] at e
    unfold spec_FieldInv.f
    rw [sb]
    by_cases h0 : un a = 0
    · have := un_eq_zero.1 h0
      subst this
      rw [Gf.inv_zero]
      rfl
    · simp only [Option.bind_some, if_true]
      rw [if_neg h0, e]
      rfl
  by_cases ha : 0 ≤ a ∧ a ≤ 255
  · obtain ⟨x, rfl⟩ := ex_byte ha.1 ha.2
    by_cases hb : 0 ≤ b ∧ b ≤ 255
    · obtain ⟨y, rfl⟩ := ex_byte hb.1 hb.2
      simp [sb, si, spec_l02Mul_f, impl_FieldInv_un, impl_FieldMul_un]
    · have e0 : impl_FieldInv.f 61 b = some (un 0#8) := by unfold impl_FieldInv.f; rw [(zb b hb).1]; rfl
      simp [sb, (zb b hb).2, e0, impl_FieldMul_un, Gf.mul_zero]
      rfl
  · have em : ∀ c : Int, impl_FieldMul.f 61 a c = some 0 := by intro c; unfold impl_FieldMul.f; rw [(zb a ha).1]; rfl
    have ei : ∃ c, impl_FieldInv.f 61 b = some c := by
      by_cases hb : 0 ≤ b ∧ b ≤ 255
      · obtain ⟨y, rfl⟩ := ex_byte hb.1 hb.2
        exact ⟨_, impl_FieldInv_un 61 (by omega) y⟩
      · exact ⟨0, by unfold impl_FieldInv.f; rw [(zb b hb).1]; rfl⟩
    obtain ⟨c, ei⟩ := ei
    simp [(zb a ha).2, ei, em]

end Go.Proofs.Yteidgaeonffilaa.Pure
