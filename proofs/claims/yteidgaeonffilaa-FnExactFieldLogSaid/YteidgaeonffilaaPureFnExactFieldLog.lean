/-
  The law FnExactFieldLog, over plain values: program and reference give the same logarithm for every number. No conditions.
-/
import Derived.Test.YteidgaeonffilaaFieldAid
import Derived.Test.YteidgaeonffilaaPFnExactFieldLogx1
namespace Go.Proofs.Yteidgaeonffilaa.Pure
open Go.RowKit Go.Proofs.Yteidgaeonffilaa.PFnExactFieldLog Go.Proofs.YteidgaeonffilaaW.PrintWords Go.Proofs.YteidgaeonffilaaW.PrintLast
open Go.Proofs.Yteidgaeonffilaa.FieldAid
set_option linter.unusedVariables false
set_option linter.unusedSimpArgs false


theorem spec_l02Mul_l0 (k : Nat) : ∀ (a o : Gf.B) (n : Nat), n < 256 → n < 2 ^ k → spec_l02Mul.l0 (k + 1) (un a) (n : Int) (un o) = some (un (o ^^^ Gf.mul a (BitVec.ofNat 8 n))) := by
  induction k with
  | zero =>
    intro a o n _ h
    obtain rfl : n = 0 := by omega
    simp only [spec_l02Mul.l0]
    rw [if_neg (by omega), show BitVec.ofNat 8 0 = 0#8 from rfl, Gf.mul_zero, BitVec.xor_zero]
  | succ k ih =>
    intro a o n h8 h
    rw [spec_l02Mul.l0]
    by_cases h0 : n = 0
    · subst h0
      rw [if_neg (by omega), show BitVec.ofNat 8 0 = 0#8 from rfl, Gf.mul_zero, BitVec.xor_zero]
    · rw [if_pos (by omega), mul_next a o n h8]
      rw [← ih (Gf.xt a) (if n % 2 = 1 then o ^^^ a else o) (n / 2) (by omega) (by rw [Nat.pow_succ] at h; omega)]
      simp only [odd_tmod, half_tdiv n (by omega), w_2un, xor_un]
      by_cases hp : n % 2 = 1 <;> by_cases hx : un a * 2 > 255
      · rw [if_pos (by omega), if_pos hx, if_pos hp, xt_high a hx]
      · rw [if_pos (by omega), if_neg hx, if_pos hp, xt_low a hx]
      · rw [if_neg (by omega), if_pos hx, if_neg hp, xt_high a hx]
      · rw [if_neg (by omega), if_neg hx, if_neg hp, xt_low a hx]
theorem spec_l02Mul_f (k : Nat) (hk : 9 ≤ k) (a b : Gf.B) : spec_l02Mul.f k (un a) (un b) = some (un (Gf.mul a b)) := by
  obtain ⟨m, rfl⟩ : ∃ m, k = m + 1 := ⟨k - 1, by omega⟩
  have h := spec_l02Mul_l0 m a 0#8 b.toNat b.isLt (Nat.lt_of_lt_of_le b.isLt (Nat.pow_le_pow_right (by decide) (show 8 ≤ m by omega)))
  rw [ofNat_un, BitVec.zero_xor] at h
  exact h

theorem impl_mul_l0 (k : Nat) : ∀ (a o : Gf.B) (n : Nat), n < 256 → n < 2 ^ k → impl_mul.l0 (k + 1) (un a) (n : Int) (un o) = some (un (o ^^^ Gf.mul a (BitVec.ofNat 8 n))) := by
  induction k with
  | zero =>
    intro a o n _ h
    obtain rfl : n = 0 := by omega
    simp only [impl_mul.l0]
    rw [if_neg (by omega), show BitVec.ofNat 8 0 = 0#8 from rfl, Gf.mul_zero, BitVec.xor_zero]
  | succ k ih =>
    intro a o n h8 h
    rw [impl_mul.l0]
    by_cases h0 : n = 0
    · subst h0
      rw [if_neg (by omega), show BitVec.ofNat 8 0 = 0#8 from rfl, Gf.mul_zero, BitVec.xor_zero]
    · rw [if_pos (by omega), mul_next a o n h8]
      rw [← ih (Gf.xt a) (if n % 2 = 1 then o ^^^ a else o) (n / 2) (by omega) (by rw [Nat.pow_succ] at h; omega)]
      simp only [odd_and n (by omega), half_div, w_un2, xor_un]
      by_cases hp : n % 2 = 1 <;> by_cases hx : un a * 2 > 255
      · rw [if_pos (by omega), if_pos hx, if_pos hp, xt_high a hx]
      · rw [if_pos (by omega), if_neg hx, if_pos hp, xt_low a hx]
      · rw [if_neg (by omega), if_pos hx, if_neg hp, xt_high a hx]
      · rw [if_neg (by omega), if_neg hx, if_neg hp, xt_low a hx]
theorem impl_mul_f (k : Nat) (hk : 9 ≤ k) (a b : Gf.B) : impl_mul.f k (un a) (un b) = some (un (Gf.mul a b)) := by
  obtain ⟨m, rfl⟩ : ∃ m, k = m + 1 := ⟨k - 1, by omega⟩
  have h := impl_mul_l0 m a 0#8 b.toNat b.isLt (Nat.lt_of_lt_of_le b.isLt (Nat.pow_le_pow_right (by decide) (show 8 ≤ m by omega)))
  rw [ofNat_un, BitVec.zero_xor] at h
  exact h

theorem impl_pow_l0 (k : Nat) : ∀ (a o : Gf.B) (n : Nat), n < 2 ^ 60 → n < 2 ^ k → impl_pow.l0 (k + 10) (un a) (n : Int) (un o) = some (un (Gf.mul o (Gf.pw a n))) := by
  induction k with
  | zero =>
    intro a o n _ h
    obtain rfl : n = 0 := by omega
    rw [show 0 + 10 = 9 + 1 from rfl, impl_pow.l0, if_neg (by omega), Gf.pw, Gf.mul_one]
  | succ k ih =>
    intro a o n h8 h
    rw [show k + 1 + 10 = (k + 10) + 1 by omega, impl_pow.l0]
    by_cases h0 : n = 0
    · subst h0
      rw [if_neg (by omega), Gf.pw, Gf.mul_one]
    · rw [if_pos (by omega), pw_next a o n h0]
      rw [← ih (Gf.mul a a) (if n % 2 = 1 then Gf.mul o a else o) (n / 2) (by omega) (by rw [Nat.pow_succ] at h; omega)]
      simp only [odd_and n (by omega), half_div, impl_mul_f (k + 10) (by omega), Option.bind_some]
      by_cases hp : n % 2 = 1
      · rw [if_pos (by omega), if_pos hp]
      · rw [if_neg (by omega), if_neg hp]
theorem impl_pow_f (j k : Nat) (hk : j + 10 ≤ k) (a : Gf.B) (n : Nat) (h60 : n < 2 ^ 60) (h : n < 2 ^ j) : impl_pow.f k (un a) (n : Int) = some (un (Gf.pw a n)) := by
  obtain ⟨m, rfl⟩ : ∃ m, k = m + 10 := ⟨k - 10, by omega⟩
  have e := impl_pow_l0 m a 1#8 n h60 (Nat.lt_of_lt_of_le h (Nat.pow_le_pow_right (by decide) (show j ≤ m by omega)))
  rw [Gf.one_mul] at e
  exact e

theorem FnExactFieldLog : laws_FnExactFieldLog.Pure := by
  intro a _
  have key : ∀ (d i K : Nat), i + d = 255 → d + 60 ≤ K → ∃ r, spec_FieldLog.l0 K a (un (Gf.pw 2#8 i)) i = some r ∧ impl_FieldLog.l0 K a i = some r ∧
      ((∃ n : Nat, n < 255 ∧ un (Gf.pw 2#8 n) = a) ∨ r = -1) := by
    intro d
    induction d with
    | zero =>
      intro i K hi hK
      obtain ⟨K, rfl⟩ : ∃ m, K = m + 1 := ⟨K - 1, by omega⟩
      refine ⟨-1, ?_, ?_, Or.inr rfl⟩
      · rw [spec_FieldLog.l0, if_neg (by omega)]
      · rw [impl_FieldLog.l0, if_neg (by omega)]
    | succ d ih =>
      intro i K hi hK
      obtain ⟨K, rfl⟩ : ∃ m, K = m + 1 := ⟨K - 1, by omega⟩
      have e := impl_pow_f 32 K (by omega) 2#8 i (by omega) (by omega)
      rw [un_two] at e
      have em := spec_l02Mul_f K (by omega) (Gf.pw 2#8 i) 2#8
      rw [un_two] at em
      have hw : wrap64 ((i : Int) + 1) = ((i + 1 : Nat) : Int) := by unfold wrap64; omega
      have hlt : (i : Int) < 255 := by omega
      rw [spec_FieldLog.l0, impl_FieldLog.l0]
      simp only [hlt, if_true, e, em, hw, Option.bind_some]
      by_cases h : un (Gf.pw 2#8 i) = a
      · rw [if_pos h, if_pos h]
        exact ⟨_, rfl, rfl, Or.inl ⟨i, by omega, h⟩⟩
      · rw [if_neg h, if_neg h]
        exact ih (i + 1) K (by omega) (by omega)
  obtain ⟨r, e1, e2, hr⟩ := key 255 0 400 (by omega) (by omega)
  refine ⟨401, ?_⟩
  have e2' : impl_FieldLog.f 401 a = some r := impl_FieldLog.mono_l _ _ _ _ e2
  have e1' : spec_FieldLog.l0 400 a 1 0 = some r := e1
  unfold laws_FnExactFieldLog.f spec_FieldLog.f spec_l02Byte.f
  rw [e2']
  simp only [spec_FieldLog.j0, e1']
  have hz : a = 0 ∨ ¬ (0 ≤ a ∧ a ≤ 255) → r = -1 := by
    intro h
    rcases hr with ⟨n, _, hn⟩ | hr
    · exfalso
      have hb := un_bd (Gf.pw 2#8 n)
      rcases h with h | h
      · rw [h] at hn
        exact pw_ne 2#8 (by decide) n (un_eq_zero.1 hn)
      · rw [hn] at hb
        exact h hb
    · exact hr
  by_cases h1 : a ≥ 0
  · by_cases h2 : a ≤ 255
    · by_cases h0 : a = 0
      · rw [hz (Or.inl h0)]
        simp [h0]
      · simp [h0, h1, h2]
    · rw [hz (Or.inr (by omega))]
      simp [h1, h2]
  · rw [hz (Or.inr (by omega))]
    simp [h1]

end Go.Proofs.Yteidgaeonffilaa.Pure
