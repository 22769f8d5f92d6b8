/-
  The law FnField, over plain values: products of bytes do not ask for the order, go over sums, are taken back by quotients, and each byte but 0 is a power of 2. No conditions.
-/
import Derived.Test.YteidgaeonffilaaFieldAid
import Derived.Test.YteidgaeonffilaaPFnFieldx2
namespace Go.Proofs.Yteidgaeonffilaa.Pure
open Go.RowKit Go.Proofs.Yteidgaeonffilaa.PFnField Go.Proofs.YteidgaeonffilaaW.PrintWords Go.Proofs.YteidgaeonffilaaW.PrintLast
open Go.Proofs.Yteidgaeonffilaa.FieldAid
set_option linter.unusedVariables false
set_option linter.unusedSimpArgs false


theorem spec_l02Mul_l0 (k : Nat) : ∀ (a o : Gf.B) (n : Nat), n < 256 → n < 2 ^ k → spec_l02Mul.l0 (k + 1) (un a) (n : Int) (un o) = some (un (o ^^^ Gf.mul a (BitVec.ofNat 8 n))) := by
  induction k with
  | zero =>
    intro a o n _ h
    obtain rfl : n = 0 := by omega
    simp only [spec_l02Mul.l0]
    rw [if_neg (by omega), show BitVec.ofNat 8 0 = 0#8 from rfl, Gf.mul_zero, BitVec.xor_zero]
  | succ k ih =>
    intro a o n h8 h
    rw [spec_l02Mul.l0]
    by_cases h0 : n = 0
    · subst h0
      rw [if_neg (by omega), show BitVec.ofNat 8 0 = 0#8 from rfl, Gf.mul_zero, BitVec.xor_zero]
    · rw [if_pos (by omega), mul_next a o n h8]
      rw [← ih (Gf.xt a) (if n % 2 = 1 then o ^^^ a else o) (n / 2) (by omega) (by rw [Nat.pow_succ] at h; omega)]
      simp only [odd_tmod, half_tdiv n (by omega), w_2un, xor_un]
      by_cases hp : n % 2 = 1 <;> by_cases hx : un a * 2 > 255
      · rw [if_pos (by omega), if_pos hx, if_pos hp, xt_high a hx]
      · rw [if_pos (by omega), if_neg hx, if_pos hp, xt_low a hx]
      · rw [if_neg (by omega), if_pos hx, if_neg hp, xt_high a hx]
      · rw [if_neg (by omega), if_neg hx, if_neg hp, xt_low a hx]
theorem spec_l02Mul_f (k : Nat) (hk : 9 ≤ k) (a b : Gf.B) : spec_l02Mul.f k (un a) (un b) = some (un (Gf.mul a b)) := by
  obtain ⟨m, rfl⟩ : ∃ m, k = m + 1 := ⟨k - 1, by omega⟩
  have h := spec_l02Mul_l0 m a 0#8 b.toNat b.isLt (Nat.lt_of_lt_of_le b.isLt (Nat.pow_le_pow_right (by decide) (show 8 ≤ m by omega)))
  rw [ofNat_un, BitVec.zero_xor] at h
  exact h

theorem impl_mul_l0 (k : Nat) : ∀ (a o : Gf.B) (n : Nat), n < 256 → n < 2 ^ k → impl_mul.l0 (k + 1) (un a) (n : Int) (un o) = some (un (o ^^^ Gf.mul a (BitVec.ofNat 8 n))) := by
  induction k with
  | zero =>
    intro a o n _ h
    obtain rfl : n = 0 := by omega
    simp only [impl_mul.l0]
    rw [if_neg (by omega), show BitVec.ofNat 8 0 = 0#8 from rfl, Gf.mul_zero, BitVec.xor_zero]
  | succ k ih =>
    intro a o n h8 h
    rw [impl_mul.l0]
    by_cases h0 : n = 0
    · subst h0
      rw [if_neg (by omega), show BitVec.ofNat 8 0 = 0#8 from rfl, Gf.mul_zero, BitVec.xor_zero]
    · rw [if_pos (by omega), mul_next a o n h8]
      rw [← ih (Gf.xt a) (if n % 2 = 1 then o ^^^ a else o) (n / 2) (by omega) (by rw [Nat.pow_succ] at h; omega)]
      simp only [odd_and n (by omega), half_div, w_un2, xor_un]
      by_cases hp : n % 2 = 1 <;> by_cases hx : un a * 2 > 255
      · rw [if_pos (by omega), if_pos hx, if_pos hp, xt_high a hx]
      · rw [if_pos (by omega), if_neg hx, if_pos hp, xt_low a hx]
      · rw [if_neg (by omega), if_pos hx, if_neg hp, xt_high a hx]
      · rw [if_neg (by omega), if_neg hx, if_neg hp, xt_low a hx]
theorem impl_mul_f (k : Nat) (hk : 9 ≤ k) (a b : Gf.B) : impl_mul.f k (un a) (un b) = some (un (Gf.mul a b)) := by
  obtain ⟨m, rfl⟩ : ∃ m, k = m + 1 := ⟨k - 1, by omega⟩
  have h := impl_mul_l0 m a 0#8 b.toNat b.isLt (Nat.lt_of_lt_of_le b.isLt (Nat.pow_le_pow_right (by decide) (show 8 ≤ m by omega)))
  rw [ofNat_un, BitVec.zero_xor] at h
  exact h

theorem impl_pow_l0 (k : Nat) : ∀ (a o : Gf.B) (n : Nat), n < 2 ^ 60 → n < 2 ^ k → impl_pow.l0 (k + 10) (un a) (n : Int) (un o) = some (un (Gf.mul o (Gf.pw a n))) := by
  induction k with
  | zero =>
    intro a o n _ h
    obtain rfl : n = 0 := by omega
    rw [show 0 + 10 = 9 + 1 from rfl, impl_pow.l0, if_neg (by omega), Gf.pw, Gf.mul_one]
  | succ k ih =>
    intro a o n h8 h
    rw [show k + 1 + 10 = (k + 10) + 1 by omega, impl_pow.l0]
    by_cases h0 : n = 0
    · subst h0
      rw [if_neg (by omega), Gf.pw, Gf.mul_one]
    · rw [if_pos (by omega), pw_next a o n h0]
      rw [← ih (Gf.mul a a) (if n % 2 = 1 then Gf.mul o a else o) (n / 2) (by omega) (by rw [Nat.pow_succ] at h; omega)]
      simp only [odd_and n (by omega), half_div, impl_mul_f (k + 10) (by omega), Option.bind_some]
      by_cases hp : n % 2 = 1
      · rw [if_pos (by omega), if_pos hp]
      · rw [if_neg (by omega), if_neg hp]
theorem impl_pow_f (j k : Nat) (hk : j + 10 ≤ k) (a : Gf.B) (n : Nat) (h60 : n < 2 ^ 60) (h : n < 2 ^ j) : impl_pow.f k (un a) (n : Int) = some (un (Gf.pw a n)) := by
  obtain ⟨m, rfl⟩ : ∃ m, k = m + 10 := ⟨k - 10, by omega⟩
  have e := impl_pow_l0 m a 1#8 n h60 (Nat.lt_of_lt_of_le h (Nat.pow_le_pow_right (by decide) (show j ≤ m by omega)))
  rw [Gf.one_mul] at e
  exact e

theorem impl_isByte_un (a : Gf.B) : impl_isByte.f (un a) = some true := by
  have := un_bd a
  unfold impl_isByte.f impl_within.f
  simp [this]

theorem impl_FieldMul_un (k : Nat) (hk : 9 ≤ k) (a b : Gf.B) : impl_FieldMul.f k (un a) (un b) = some (un (Gf.mul a b)) := by
  unfold impl_FieldMul.f
  rw [impl_isByte_un, impl_isByte_un, impl_mul_f k hk]
  rfl

theorem impl_FieldInv_un (k : Nat) (hk : 50 ≤ k) (a : Gf.B) : impl_FieldInv.f k (un a) = some (un (Gf.inv a)) := by
  unfold impl_FieldInv.f impl_inv.f
  have e := impl_pow_f 32 k (by omega) a 254 (by omega) (by omega)
  rw [show ((254 : Nat) : Int) = 254 from rfl] at e
  rw [impl_isByte_un, e]
  rfl

theorem lwAt_un (l : List Int) (i : Int) (hi : 0 ≤ i) (hb : ∀ x ∈ l, (Lit.int .u8 x).wf = true) : ∃ v : Gf.B, laws_lwAt.f l i 256 = some (un v) := by
  unfold laws_lwAt.f
  rw [if_neg (by omega)]
  by_cases h0 : (l.length : Int) = 0
  · exact ⟨0#8, by rw [if_pos h0]; rfl⟩
  · rw [if_neg h0]
    have hp : 0 < (l.length : Int) := by omega
    have t1 := Int.tmod_nonneg (l.length : Int) hi
    have t2 := Int.tmod_lt_of_pos i hp
    rw [if_pos t1, if_pos t2, if_neg (by omega)]
    have hr : 0 ≤ rd l (Int.tmod i l.length) ∧ rd l (Int.tmod i l.length) ≤ 255 := by
      unfold rd
      rw [List.getD_eq_getElem?_getD, List.getElem?_eq_getElem (by omega), Option.getD_some]
      have := hb _ (List.getElem_mem (show (Int.tmod i l.length).toNat < l.length by omega))
      simp [Lit.wf, IntKind.min, IntKind.max, IntKind.signed, IntKind.bits] at this
      omega
    obtain ⟨v, hv⟩ := ex_byte hr.1 hr.2
    refine ⟨v, ?_⟩
    rw [hv]
    have := un_bd v
    rw [Aid.w64 (by omega) (by omega), Int.tmod_eq_emod_of_nonneg (by omega)]
    congr 1
    omega
theorem log_none_l (d : Nat) : ∀ (i K : Nat), i + d = 255 → d + 60 ≤ K → impl_FieldLog.l0 K 0 i = some (-1) := by
  induction d with
  | zero =>
    intro i K hi hK
    obtain ⟨K, rfl⟩ : ∃ m, K = m + 1 := ⟨K - 1, by omega⟩
    rw [impl_FieldLog.l0, if_neg (by omega)]
  | succ d ih =>
    intro i K hi hK
    obtain ⟨K, rfl⟩ : ∃ m, K = m + 1 := ⟨K - 1, by omega⟩
    have e := impl_pow_f 32 K (by omega) 2#8 i (by omega) (by omega)
    rw [un_two] at e
    have hw : wrap64 ((i : Int) + 1) = ((i + 1 : Nat) : Int) := by unfold wrap64; omega
    rw [impl_FieldLog.l0, if_pos (by omega), e, hw]
    simp only [Option.bind_some]
    rw [if_neg (fun h => pw_ne 2#8 (by decide) i (un_eq_zero.1 h))]
    exact ih (i + 1) K (by omega) (by omega)
theorem log_some_l (b : Gf.B) (d : Nat) : ∀ (i K : Nat), i + d = 255 → d + 60 ≤ K → (∃ m, i ≤ m ∧ m < 255 ∧ Gf.pw 2#8 m = b) → ∃ n : Nat, n < 255 ∧ Gf.pw 2#8 n = b ∧ impl_FieldLog.l0 K (un b) i = some (n : Int) := by
  induction d with
  | zero => intro i K hi hK ⟨m, h1, h2, _⟩; omega
  | succ d ih =>
    intro i K hi hK ⟨m, h1, h2, h3⟩
    obtain ⟨K, rfl⟩ : ∃ m, K = m + 1 := ⟨K - 1, by omega⟩
    have e := impl_pow_f 32 K (by omega) 2#8 i (by omega) (by omega)
    rw [un_two] at e
    have hw : wrap64 ((i : Int) + 1) = ((i + 1 : Nat) : Int) := by unfold wrap64; omega
    rw [impl_FieldLog.l0, if_pos (by omega), e, hw]
    simp only [Option.bind_some]
    by_cases h : Gf.pw 2#8 i = b
    · exact ⟨i, by omega, h, by rw [if_pos (by rw [h])]⟩
    · rw [if_neg (fun h' => h (un_inj h'))]
      refine ih (i + 1) K (by omega) (by omega) ⟨m, ?_, h2, h3⟩
      rcases Nat.lt_or_ge i m with hm | hm
      · omega
      · obtain rfl : i = m := by omega
        exact absurd h3 h
theorem log_zero (Q : Nat) (hQ : 400 ≤ Q) : impl_FieldLog.f Q 0 = some (-1) := log_none_l 255 0 Q (by omega) (by omega)
theorem log_some (Q : Nat) (hQ : 400 ≤ Q) (b : Gf.B) (hb : b ≠ 0#8) : ∃ n : Nat, n < 255 ∧ Gf.pw 2#8 n = b ∧ impl_FieldLog.f Q (un b) = some (n : Int) := by
  obtain ⟨m, hm, h⟩ := Gf.has_log b hb
  exact log_some_l b 255 0 Q (by omega) (by omega) ⟨m, by omega, hm, h⟩
theorem div_un (Q : Nat) (hQ : 400 ≤ Q) (a b : Gf.B) (hb : b ≠ 0#8) : impl_FieldDiv.f Q (un (Gf.mul a b)) (un b) = some (un a) := by
  unfold impl_FieldDiv.f
  rw [impl_FieldInv_un Q (by omega)]
  simp only [Option.bind_some, impl_FieldMul_un Q (by omega)]
  rw [Gf.mul_assoc, Gf.mul_inv b hb, Gf.mul_one]
theorem exp_un (Q : Nat) (hQ : 400 ≤ Q) (n : Nat) (hn : n < 255) : impl_FieldExp.f Q (n : Int) = some (un (Gf.pw 2#8 n)) := by
  unfold impl_FieldExp.f
  rw [if_neg (by omega), Int.tmod_eq_emod_of_nonneg (by omega), show (n : Int) % 255 = (n : Int) by omega]
  have e := impl_pow_f 32 Q (by omega) 2#8 n (by omega) (by omega)
  rw [un_two] at e
  rw [e]
  rfl
theorem pow_un (Q : Nat) (hQ : 400 ≤ Q) (b : Gf.B) (m : Nat) (hm : m ≤ 256) : impl_FieldPow.f Q (un b) (m : Int) = some (un (Gf.pw b m)) := by
  unfold impl_FieldPow.f impl_within.f
  by_cases h0 : (m : Int) = 0
  · obtain rfl : m = 0 := by omega
    rfl
  · have e := impl_pow_f 32 Q (by omega) b m (by omega) (by omega)
    rw [if_neg h0, impl_isByte_un]
    simp only [Option.bind_some, if_true]
    rw [if_pos (by omega)]
    simp only [Option.bind_some]
    rw [if_pos (by rw [decide_eq_true_eq]; omega), e]
    rfl
theorem spec_mul_un (Q : Nat) (hQ : 400 ≤ Q) (a b : Gf.B) : spec_FieldMul.f Q (un a) (un b) = some (un (Gf.mul a b)) := by
  have h1 := un_bd a
  have h2 := un_bd b
  unfold spec_FieldMul.f spec_l02Byte.f
  simp only [if_pos h1.1, if_pos h2.1, Option.bind_some, decide_eq_true h1.2, decide_eq_true h2.2, if_true]
  rw [spec_l02Mul_f Q (by omega)]
  rfl
theorem pow255 (Q : Nat) (hQ : 400 ≤ Q) (b : Gf.B) (hb : b ≠ 0#8) : impl_FieldPow.f Q (un b) 255 = some 1 := by
  have e := pow_un Q hQ b 255 (by omega)
  rw [Gf.pw255 b hb, un_one] at e
  exact e
theorem last_true (Q : Nat) (hQ : 400 ≤ Q) (a b c : Gf.B) : laws_FnField.j1 (Q + 1) (un a) (un b) (un c) (un (Gf.mul a b)) false = some true := by
  rw [laws_FnField.j1]
  simp only [Bool.false_eq_true, if_false]
  by_cases hb : b = 0#8
  · subst hb
    have i0 := impl_FieldInv_un Q (by omega) 0#8
    rw [un_zero, Gf.inv_zero, un_zero] at i0
    rw [un_zero, if_pos rfl, Gf.mul_zero, un_zero, if_pos rfl, log_zero Q hQ]
    simp only [Option.bind_some, if_true, i0]
    rfl
  · rw [if_neg (fun h => hb (un_eq_zero.1 h))]
    obtain ⟨n, hn, hp, el⟩ := log_some Q hQ b hb
    rw [el, impl_FieldInv_un Q (by omega)]
    simp only [Option.bind_some, impl_FieldMul_un Q (by omega), Gf.mul_inv b hb, un_one, if_true, div_un Q hQ a b hb]
    rw [if_pos (by omega), if_pos (by omega), exp_un Q hQ n hn, hp]
    simp only [Option.bind_some, if_true, pow255 Q hQ b hb]
    have hc := c.isLt
    have e0 := pow_un Q hQ b c.toNat (by omega)
    have e1 := pow_un Q hQ b (c.toNat + 1) (by omega)
    have ew : wrap64 (un c + 1) = ((c.toNat + 1 : Nat) : Int) := by unfold un wrap64; omega
    rw [ew, e1, show un c = (c.toNat : Int) from rfl, e0]
    simp only [Option.bind_some, impl_FieldMul_un Q (by omega)]
    rw [Gf.pw, beq_self_eq_true]

theorem FnField : laws_FnField.Pure := by
  intro l0 l1 hl0 _ hb0 hl1 _ hb1
  suffices main : ∀ Q : Nat, 400 ≤ Q → laws_FnField.f (Q + 2) l0 l1 = some true from ⟨_, main 400 (by omega)⟩
  intro Q hQ
  have big : laws_FnField.j0 (Q + 2) l0 l1 true = some true := by rw [laws_FnField.j0, if_pos rfl]
  unfold laws_FnField.f
  by_cases g0 : (l0.length : Int) > 1048576
  · rw [if_pos g0]
    exact big
  rw [if_neg g0]
  by_cases g1 : (l1.length : Int) > 1048576
  · rw [decide_eq_true g1]
    exact big
  rw [decide_eq_false g1]
  obtain ⟨a, ea⟩ := lwAt_un l0 0 (by omega) hb0
  obtain ⟨b, eb⟩ := lwAt_un l0 1 (by omega) hb0
  obtain ⟨c, ec⟩ := lwAt_un l1 0 (by omega) hb1
  have m11 : impl_FieldMul.f (Q + 1) (un a) 1 = some (un a) := by
    have := impl_FieldMul_un (Q + 1) (by omega) a 1#8
    rwa [Gf.mul_one, un_one] at this
  rw [laws_FnField.j0, ea, eb, ec]
  simp only [Option.bind_some, spec_mul_un (Q + 1) (by omega), impl_FieldMul_un (Q + 1) (by omega), m11, xor_un, Bool.false_eq_true, if_false]
  rw [if_pos trivial, if_pos (by rw [Gf.mul_comm]), if_pos (by rw [Gf.mul_assoc]), if_pos (by rw [Gf.mul_xor])]
  rw [show (un a != un a) = false by simp]
  exact last_true Q hQ a b c

end Go.Proofs.Yteidgaeonffilaa.Pure
