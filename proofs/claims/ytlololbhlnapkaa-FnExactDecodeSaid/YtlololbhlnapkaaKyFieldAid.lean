/-
  The field's bytes as the model's whole numbers: one step of a product. No conditions beyond each lemma's own.
-/
import Derived.Test.YtlololbhlnapkaaKyGf
import Derived.Test.YtlololbhlnapkaaKyAid
namespace Go.Proofs.Ytlololbhlnapkaa.FieldAid
open Go Go.RowKit Go.Proofs.Ytlololbhlnapkaa.Gf
set_option linter.unusedVariables false
set_option linter.unusedSimpArgs false
theorem i64_ofInt (a : Nat) (ha : a < 2 ^ 62) : (BitVec.ofInt 64 (a : Int)).toNat = a := by
  rw [BitVec.ofInt_natCast, BitVec.toNat_ofNat]; exact Nat.mod_eq_of_lt (by omega)
theorem i64_and (a b : Nat) (ha : a < 2 ^ 62) (hb : b < 2 ^ 62) : bits .and .i64 (a : Int) (b : Int) = ((a &&& b : Nat) : Int) := by
  have hx : a &&& b < 2 ^ 62 := Nat.and_lt_two_pow _ hb
  show IntKind.i64.wrap ((BitVec.ofInt 64 (a : Int) &&& BitVec.ofInt 64 (b : Int)).toNat : Int) = _
  rw [BitVec.toNat_and, i64_ofInt a ha, i64_ofInt b hb, IntKind.wrap_i64]
  omega
theorem i64_xor (a b : Nat) (ha : a < 2 ^ 62) (hb : b < 2 ^ 62) : bits .xor .i64 (a : Int) (b : Int) = ((a ^^^ b : Nat) : Int) := by
  have hx : a ^^^ b < 2 ^ 62 := Nat.xor_lt_two_pow ha hb
  show IntKind.i64.wrap ((BitVec.ofInt 64 (a : Int) ^^^ BitVec.ofInt 64 (b : Int)).toNat : Int) = _
  rw [BitVec.toNat_xor, i64_ofInt a ha, i64_ofInt b hb, IntKind.wrap_i64]
  omega
/-- a byte as a whole number -/
def un (a : B) : Int := (a.toNat : Int)
theorem un_bd (a : B) : 0 ≤ un a ∧ un a ≤ 255 := by unfold un; have := a.isLt; omega
theorem un_ofInt {x : Int} (h0 : 0 ≤ x) (h1 : x ≤ 255) : un (BitVec.ofNat 8 x.toNat) = x := by
  unfold un
  rw [BitVec.toNat_ofNat, Nat.mod_eq_of_lt (by omega)]
  omega
theorem un_inj {a b : B} (h : un a = un b) : a = b := by
  unfold un at h
  exact BitVec.eq_of_toNat_eq (by omega)
theorem un_eq_iff (a b : B) : un a = un b ↔ a = b := ⟨un_inj, fun h => by rw [h]⟩
theorem un_one : un 1#8 = 1 := rfl
theorem un_eq_zero {a : B} : un a = 0 ↔ a = 0#8 := un_eq_iff a 0#8
theorem xor_un (a b : B) : bits .xor .i64 (un a) (un b) = un (a ^^^ b) := by
  unfold un
  have := a.isLt
  have := b.isLt
  rw [i64_xor _ _ (by omega) (by omega), BitVec.toNat_xor]
theorem xt_all : ∀ n, n < 256 → (xt (BitVec.ofNat 8 n)).toNat = if 2 * n > 255 then (2 * n) ^^^ 285 else 2 * n := by decide +kernel
theorem xt_nat (a : B) : (xt a).toNat = if 2 * a.toNat > 255 then (2 * a.toNat) ^^^ 285 else 2 * a.toNat := by
  have := xt_all a.toNat a.isLt
  rwa [BitVec.ofNat_toNat, BitVec.setWidth_eq] at this
theorem xt_high (a : B) (h : un a * 2 > 255) : bits .xor .i64 (un a * 2) 285 = un (xt a) := by
  unfold un at *
  have := a.isLt
  rw [show (a.toNat : Int) * 2 = ((2 * a.toNat : Nat) : Int) by omega, show (285 : Int) = ((285 : Nat) : Int) from rfl, i64_xor _ _ (by omega) (by omega), xt_nat, if_pos (by omega)]
theorem xt_low (a : B) (h : ¬ un a * 2 > 255) : un a * 2 = un (xt a) := by
  unfold un at *
  rw [xt_nat, if_neg (by omega)]
  omega
theorem odd_and (n : Nat) (h : n < 2 ^ 62) : bits .and .i64 (n : Int) 1 = ((n % 2 : Nat) : Int) := by
  rw [show (1 : Int) = ((1 : Nat) : Int) from rfl, i64_and _ _ h (by decide), nat_mask1]
theorem odd_tmod (n : Nat) : Int.tmod (n : Int) 2 = ((n % 2 : Nat) : Int) := by
  rw [Int.tmod_eq_emod_of_nonneg (by omega)]
  omega
theorem half_tdiv (n : Nat) (h : n < 2 ^ 62) : wrap64 (Int.tdiv (n : Int) 2) = ((n / 2 : Nat) : Int) := by
  rw [Int.tdiv_eq_ediv_of_nonneg (by omega)]
  unfold wrap64
  omega
theorem half_div (n : Nat) : (n : Int) / 2 = ((n / 2 : Nat) : Int) := by omega
theorem w_un2 (a : B) : wrap64 (un a * 2) = un a * 2 := by
  have := un_bd a
  unfold wrap64
  omega
theorem w_2un (a : B) : wrap64 (2 * un a) = un a * 2 := by
  have := un_bd a
  unfold wrap64
  omega
/-- one round of a product, whatever the loop is -/
theorem mul_next (a o : B) (n : Nat) (h : n < 256) : o ^^^ mul a (BitVec.ofNat 8 n) = (if n % 2 = 1 then o ^^^ a else o) ^^^ mul (xt a) (BitVec.ofNat 8 (n / 2)) := by
  rw [mul_half a n h]
  by_cases hp : n % 2 = 1
  · rw [if_pos hp, if_pos hp]
    ac_rfl
  · rw [if_neg hp, if_neg hp]
    simp
theorem ofNat_un (a : B) : BitVec.ofNat 8 a.toNat = a := by rw [BitVec.ofNat_toNat, BitVec.setWidth_eq]
/-- one round of a power -/
theorem pw_next (a o : B) (n : Nat) (h : n ≠ 0) : mul o (pw a n) = mul (if n % 2 = 1 then mul o a else o) (pw (mul a a) (n / 2)) := by
  rw [pw_sq]
  by_cases hp : n % 2 = 1
  · rw [if_pos hp, mul_assoc]
    congr 1
    have e : pw a n = pw a (1 + 2 * (n / 2)) := by congr 1; omega
    rw [e, pw_add]
    simp [pw, one_mul]
  · rw [if_neg hp]
    congr 2
    omega
end Go.Proofs.Ytlololbhlnapkaa.FieldAid
