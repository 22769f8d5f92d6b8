/-
  The law FnExactDecode, over plain values: program and reference read any shards alike. No conditions beyond the statement's own.
-/
import Derived.Test.YtlololbhlnapkaaKyMc
import Derived.Test.YtlololbhlnapkaaKyTx
import Derived.Test.YtlololbhlnapkaaKyRd
import Derived.Test.YtlololbhlnapkaaKyCk
import Derived.Test.YtlololbhlnapkaaKyJn
import Derived.Test.YtlololbhlnapkaaKyXFnExactDecodex16
namespace Go.Proofs.Ytlololbhlnapkaa.Pure
open Go.RowKit Go.Proofs.Ytlololbhlnapkaa.XFnExactDecode Go.Proofs.Ytlololbhlnapkaa.Gf Go.Proofs.Ytlololbhlnapkaa.FieldAid Go.Proofs.Ytlololbhlnapkaa.Mp Go.Proofs.YtlololbhlnapkaaW.PrintWords Go.Proofs.YtlololbhlnapkaaW.PrintLast Go.Proofs.YtlololbhlnapkaaW.PrintMore
open Go.Proofs.Ytlololbhlnapkaa.Mc Go.Proofs.Ytlololbhlnapkaa.Tx Go.Proofs.Ytlololbhlnapkaa.Rd Go.Proofs.Ytlololbhlnapkaa.Rw Go.Proofs.Ytlololbhlnapkaa
set_option linter.unusedVariables false
set_option linter.unusedSimpArgs false
namespace FnExactDecode_
theorem rd_get (l : List Int) (i : Nat) (h : i < l.length) : rd l (i : Int) = l[i] := by
  unfold rd
  rw [Int.toNat_natCast, List.getD_eq_getElem?_getD, List.getElem?_eq_getElem h, Option.getD_some]
theorem rdL_get (ls : List (List Int)) (i : Nat) (h : i < ls.length) : rd_L6 ls (i : Int) = ls[i] := by
  unfold rd_L6
  rw [Int.toNat_natCast, List.getD_eq_getElem?_getD, List.getElem?_eq_getElem h, Option.getD_some]
theorem flat_step (ls : List (List Int)) (i : Nat) (h : i < ls.length) : (ls.drop i).flatten = ls[i] ++ (ls.drop (i + 1)).flatten := by
  rw [List.drop_eq_getElem_cons h, List.flatten_cons]
theorem concat_l1 (ls : List (List Int)) (hl : ls.length ≤ 1000000) (d : Nat) : ∀ (k i : Nat) (out : List Int), i + d = ls.length → out.length + (ls.drop i).flatten.length ≤ 1000000 → d + 1 ≤ k →
    slices_Concat_int64_int64.l1 k out ls (ls.length : Int) (i : Int) = some (out ++ (ls.drop i).flatten) := by
  induction d with
  | zero =>
    intro k i out hi ho hk
    obtain ⟨k, rfl⟩ : ∃ m, k = m + 1 := ⟨k - 1, by omega⟩
    rw [slices_Concat_int64_int64.l1, if_neg (by omega), List.drop_of_length_le (by omega)]
    simp
  | succ d ih =>
    intro k i out hi ho hk
    obtain ⟨k, rfl⟩ : ∃ m, k = m + 1 := ⟨k - 1, by omega⟩
    have hs := flat_step ls i (by omega)
    rw [hs, List.length_append] at ho
    rw [slices_Concat_int64_int64.l1, if_pos (by omega), if_pos (by omega), if_pos (by omega), rdL_get ls i (by omega), if_pos (by omega), show wrap64 ((i : Int) + 1) = ((i + 1 : Nat) : Int) by unfold wrap64; omega,
      ih k (i + 1) _ (by omega) (by rw [List.length_append]; omega) (by omega), hs, List.append_assoc]
theorem concat_l0 (ls : List (List Int)) (hl : ls.length ≤ 1000000) (hf : ls.flatten.length ≤ 1000000) (d : Nat) : ∀ (k i n : Nat), i + d = ls.length → n + (ls.drop i).flatten.length = ls.flatten.length → d + ls.length + 2 ≤ k →
    slices_Concat_int64_int64.l0 k ls (n : Int) ls (ls.length : Int) (i : Int) = some ls.flatten := by
  induction d with
  | zero =>
    intro k i n hi ho hk
    obtain ⟨k, rfl⟩ : ∃ m, k = m + 1 := ⟨k - 1, by omega⟩
    rw [slices_Concat_int64_int64.l0, if_neg (by omega)]
    unfold slices_Grow_int64_int64.f
    rw [if_pos (by omega), if_pos (by omega), Option.bind_some]
    have h := concat_l1 ls hl ls.length k 0 [] (by omega) (by simp only [List.drop_zero, List.length_nil]; omega) (by omega)
    rw [List.drop_zero, List.nil_append] at h
    exact h
  | succ d ih =>
    intro k i n hi ho hk
    obtain ⟨k, rfl⟩ : ∃ m, k = m + 1 := ⟨k - 1, by omega⟩
    have hs := flat_step ls i (by omega)
    rw [hs, List.length_append] at ho
    rw [slices_Concat_int64_int64.l0, if_pos (by omega), if_pos (by omega), if_pos (by omega), rdL_get ls i (by omega), show wrap64 ((n : Int) + (ls[i].length : Int)) = ((n + ls[i].length : Nat) : Int) by unfold wrap64; omega, if_neg (by omega),
      show wrap64 ((i : Int) + 1) = ((i + 1 : Nat) : Int) by unfold wrap64; omega]
    exact ih k (i + 1) _ (by omega) (by omega) (by omega)
theorem concat_eq (ls : List (List Int)) (hl : ls.length ≤ 1000000) (hf : ls.flatten.length ≤ 1000000) (k : Nat) (hk : 2 * ls.length + 2 ≤ k) : slices_Concat_int64_int64.f k ls = some ls.flatten := by
  unfold slices_Concat_int64_int64.f
  exact concat_l0 ls hl hf ls.length k 0 0 (by omega) (by rw [List.drop_zero]; omega) (by omega)
theorem matrixOf_eq (ls : List (List Int)) (h0 : 0 < ls.length) (hl : ls.length ≤ 1000000) (hf : ls.flatten.length ≤ 1000000) (k : Nat) (hk : 2 * ls.length + 2 ≤ k) : impl_matrixOf.f k ls = some ((ls.length : Int), (ls[0].length : Int), ls.flatten) := by
  unfold impl_matrixOf.f impl_size_int64_144.f impl_size_int64_67.f
  rw [Option.bind_some, if_pos (by omega), Option.bind_some, concat_eq ls hl hf k hk, Option.bind_some, show (0 : Int) = ((0 : Nat) : Int) from rfl, rdL_get ls 0 h0]
theorem spec_l02Mul_l0 (k : Nat) : ∀ (a o : Gf.B) (n : Nat), n < 256 → n < 2 ^ k → spec_l02Mul.l0 (k + 1) (un a) (n : Int) (un o) = some (un (o ^^^ Gf.mul a (BitVec.ofNat 8 n))) := by
  induction k with
  | zero =>
    intro a o n _ h
    obtain rfl : n = 0 := by omega
    simp only [spec_l02Mul.l0]
    rw [if_neg (by omega), show BitVec.ofNat 8 0 = 0#8 from rfl, Gf.mul_zero, BitVec.xor_zero]
  | succ k ih =>
    intro a o n h8 h
    rw [spec_l02Mul.l0]
    by_cases h0 : n = 0
    · subst h0
      rw [if_neg (by omega), show BitVec.ofNat 8 0 = 0#8 from rfl, Gf.mul_zero, BitVec.xor_zero]
    · rw [if_pos (by omega), mul_next a o n h8]
      rw [← ih (Gf.xt a) (if n % 2 = 1 then o ^^^ a else o) (n / 2) (by omega) (by rw [Nat.pow_succ] at h; omega)]
      simp only [odd_tmod, half_tdiv n (by omega), w_2un, xor_un]
      by_cases hp : n % 2 = 1 <;> by_cases hx : un a * 2 > 255
      · rw [if_pos (by omega), if_pos hx, if_pos hp, xt_high a hx]
      · rw [if_pos (by omega), if_neg hx, if_pos hp, xt_low a hx]
      · rw [if_neg (by omega), if_pos hx, if_neg hp, xt_high a hx]
      · rw [if_neg (by omega), if_neg hx, if_neg hp, xt_low a hx]
theorem spec_l02Mul_f (k : Nat) (hk : 9 ≤ k) (a b : Gf.B) : spec_l02Mul.f k (un a) (un b) = some (un (Gf.mul a b)) := by
  obtain ⟨m, rfl⟩ : ∃ m, k = m + 1 := ⟨k - 1, by omega⟩
  have h := spec_l02Mul_l0 m a 0#8 b.toNat b.isLt (Nat.lt_of_lt_of_le b.isLt (Nat.pow_le_pow_right (by decide) (show 8 ≤ m by omega)))
  rw [ofNat_un, BitVec.zero_xor] at h
  exact h
theorem impl_mul_l0 (k : Nat) : ∀ (a o : Gf.B) (n : Nat), n < 256 → n < 2 ^ k → impl_mul.l0 (k + 1) (un a) (n : Int) (un o) = some (un (o ^^^ Gf.mul a (BitVec.ofNat 8 n))) := by
  induction k with
  | zero =>
    intro a o n _ h
    obtain rfl : n = 0 := by omega
    simp only [impl_mul.l0]
    rw [if_neg (by omega), show BitVec.ofNat 8 0 = 0#8 from rfl, Gf.mul_zero, BitVec.xor_zero]
  | succ k ih =>
    intro a o n h8 h
    rw [impl_mul.l0]
    by_cases h0 : n = 0
    · subst h0
      rw [if_neg (by omega), show BitVec.ofNat 8 0 = 0#8 from rfl, Gf.mul_zero, BitVec.xor_zero]
    · rw [if_pos (by omega), mul_next a o n h8]
      rw [← ih (Gf.xt a) (if n % 2 = 1 then o ^^^ a else o) (n / 2) (by omega) (by rw [Nat.pow_succ] at h; omega)]
      simp only [odd_and n (by omega), half_div, w_un2, xor_un]
      by_cases hp : n % 2 = 1 <;> by_cases hx : un a * 2 > 255
      · rw [if_pos (by omega), if_pos hx, if_pos hp, xt_high a hx]
      · rw [if_pos (by omega), if_neg hx, if_pos hp, xt_low a hx]
      · rw [if_neg (by omega), if_pos hx, if_neg hp, xt_high a hx]
      · rw [if_neg (by omega), if_neg hx, if_neg hp, xt_low a hx]
theorem impl_mul_f (k : Nat) (hk : 9 ≤ k) (a b : Gf.B) : impl_mul.f k (un a) (un b) = some (un (Gf.mul a b)) := by
  obtain ⟨m, rfl⟩ : ∃ m, k = m + 1 := ⟨k - 1, by omega⟩
  have h := impl_mul_l0 m a 0#8 b.toNat b.isLt (Nat.lt_of_lt_of_le b.isLt (Nat.pow_le_pow_right (by decide) (show 8 ≤ m by omega)))
  rw [ofNat_un, BitVec.zero_xor] at h
  exact h
theorem spec_l02Pow_l0 (k : Nat) : ∀ (a o : Gf.B) (n : Nat), n < 2 ^ 60 → n < 2 ^ k → spec_l02Pow.l0 (k + 10) (un a) (n : Int) (un o) = some (un (Gf.mul o (Gf.pw a n))) := by
  induction k with
  | zero =>
    intro a o n _ h
    obtain rfl : n = 0 := by omega
    rw [show 0 + 10 = 9 + 1 from rfl, spec_l02Pow.l0, if_neg (by omega), Gf.pw, Gf.mul_one]
  | succ k ih =>
    intro a o n h8 h
    rw [show k + 1 + 10 = (k + 10) + 1 by omega, spec_l02Pow.l0]
    by_cases h0 : n = 0
    · subst h0
      rw [if_neg (by omega), Gf.pw, Gf.mul_one]
    · rw [if_pos (by omega), pw_next a o n h0]
      rw [← ih (Gf.mul a a) (if n % 2 = 1 then Gf.mul o a else o) (n / 2) (by omega) (by rw [Nat.pow_succ] at h; omega)]
      simp only [odd_tmod, half_tdiv n (by omega), spec_l02Mul_f (k + 10) (by omega), Option.bind_some]
      by_cases hp : n % 2 = 1
      · rw [if_pos (by omega), if_pos hp]
      · rw [if_neg (by omega), if_neg hp]
theorem spec_l02Pow_f (j k : Nat) (hk : j + 10 ≤ k) (a : Gf.B) (n : Nat) (h60 : n < 2 ^ 60) (h : n < 2 ^ j) : spec_l02Pow.f k (un a) (n : Int) = some (un (Gf.pw a n)) := by
  obtain ⟨m, rfl⟩ : ∃ m, k = m + 10 := ⟨k - 10, by omega⟩
  have e := spec_l02Pow_l0 m a 1#8 n h60 (Nat.lt_of_lt_of_le h (Nat.pow_le_pow_right (by decide) (show j ≤ m by omega)))
  rw [Gf.one_mul] at e
  exact e
theorem impl_pow_l0 (k : Nat) : ∀ (a o : Gf.B) (n : Nat), n < 2 ^ 60 → n < 2 ^ k → impl_pow.l0 (k + 10) (un a) (n : Int) (un o) = some (un (Gf.mul o (Gf.pw a n))) := by
  induction k with
  | zero =>
    intro a o n _ h
    obtain rfl : n = 0 := by omega
    rw [show 0 + 10 = 9 + 1 from rfl, impl_pow.l0, if_neg (by omega), Gf.pw, Gf.mul_one]
  | succ k ih =>
    intro a o n h8 h
    rw [show k + 1 + 10 = (k + 10) + 1 by omega, impl_pow.l0]
    by_cases h0 : n = 0
    · subst h0
      rw [if_neg (by omega), Gf.pw, Gf.mul_one]
    · rw [if_pos (by omega), pw_next a o n h0]
      rw [← ih (Gf.mul a a) (if n % 2 = 1 then Gf.mul o a else o) (n / 2) (by omega) (by rw [Nat.pow_succ] at h; omega)]
      simp only [odd_and n (by omega), half_div, impl_mul_f (k + 10) (by omega), Option.bind_some]
      by_cases hp : n % 2 = 1
      · rw [if_pos (by omega), if_pos hp]
      · rw [if_neg (by omega), if_neg hp]
theorem impl_pow_f (j k : Nat) (hk : j + 10 ≤ k) (a : Gf.B) (n : Nat) (h60 : n < 2 ^ 60) (h : n < 2 ^ j) : impl_pow.f k (un a) (n : Int) = some (un (Gf.pw a n)) := by
  obtain ⟨m, rfl⟩ : ∃ m, k = m + 10 := ⟨k - 10, by omega⟩
  have e := impl_pow_l0 m a 1#8 n h60 (Nat.lt_of_lt_of_le h (Nat.pow_le_pow_right (by decide) (show j ≤ m by omega)))
  rw [Gf.one_mul] at e
  exact e
theorem impl_inv_f (k : Nat) (hk : 18 ≤ k) (a : Gf.B) : impl_inv.f k (un a) = some (un (Gf.inv a)) := by
  unfold impl_inv.f
  rw [show (254 : Int) = ((254 : Nat) : Int) from rfl, impl_pow_f 8 k (by omega) a 254 (by omega) (by omega), Option.bind_some]
  rfl
theorem spec_inv_f (k : Nat) (hk : 18 ≤ k) (a : Gf.B) : spec_FieldInv.f k (un a) = some (un (Gf.inv a)) := by
  have hb := un_bd a
  unfold spec_FieldInv.f spec_l02Byte.f
  rw [if_pos hb.1, Option.bind_some, decide_eq_true hb.2, if_pos rfl]
  by_cases h : un a = 0
  · rw [if_pos h]
    rw [un_eq_zero] at h
    rw [h, Gf.inv_zero]
    rfl
  · rw [if_neg h, show (254 : Int) = ((254 : Nat) : Int) from rfl, spec_l02Pow_f 8 k (by omega) a 254 (by omega) (by omega), Option.bind_some]
    rfl
theorem unit_l0 (k : Nat) (hk : k ≤ 16) (d : Nat) : ∀ (K i : Nat), i + d = k → d + 1 ≤ K →
    spec_l03Unit.l0 K (k : Int) (i : Int) (k : Int) (k : Int) (grid (fun a b => if a = b ∧ a < i then 1 else 0) k (k * k)) = some ((k : Int), (k : Int), grid (fun a b => if a = b then 1 else 0) k (k * k)) := by
  have hkk := side_le hk hk
  induction d with
  | zero =>
    intro K i hi hK
    obtain ⟨K, rfl⟩ : ∃ m, K = m + 1 := ⟨K - 1, by omega⟩
    rw [spec_l03Unit.l0, if_neg (by omega)]
    congr 3
    by_cases h0 : k = 0
    · subst h0
      rfl
    · refine grid_congr (by omega) (fun a b hb hab => ?_)
      have ha : a < k := by
        refine Nat.lt_of_not_le (fun hc => ?_)
        have := Nat.mul_le_mul_right k hc
        omega
      by_cases e : a = b
      · rw [if_pos ⟨e, by omega⟩, if_pos e]
      · rw [if_neg (fun h => e h.1), if_neg e]
  | succ d ih =>
    intro K i hi hK
    obtain ⟨K, rfl⟩ : ∃ m, K = m + 1 := ⟨K - 1, by omega⟩
    have hs := step_le k (show i < k by omega)
    rw [spec_l03Unit.l0, if_pos (by omega), w_mul i k (by omega), ← Int.natCast_add, w_nat (i * k + i) (by omega), if_pos (by omega), if_pos (by rw [grid_len]; omega), w_succ i (by omega), Int.toNat_natCast,
      grid_set (h' := fun a b => if a = b ∧ a < i + 1 then 1 else 0) (by omega) (if_pos ⟨rfl, by omega⟩) (fun a b hb hab => ?_)]
    · exact ih K (i + 1) (by omega) (by omega)
    · by_cases e : a = b
      · by_cases e2 : a < i
        · rw [if_pos ⟨e, by omega⟩, if_pos ⟨e, e2⟩]
        · rw [if_neg (fun h => hab ⟨by omega, by omega⟩), if_neg (fun h => e2 h.2)]
      · rw [if_neg (fun h => e h.1), if_neg (fun h => e h.1)]
theorem unit_eq (k : Nat) (hk : k ≤ 16) (K : Nat) (hK : k + 1 ≤ K) : spec_l03Unit.f K (k : Int) = some ((k : Int), (k : Int), grid (fun a b => if a = b then 1 else 0) k (k * k)) := by
  have hkk := side_le hk hk
  unfold spec_l03Unit.f
  rw [w_mul k k (by omega), if_pos (by omega), Int.toNat_natCast, if_pos (by omega), grid_zeros k]
  have h := unit_l0 k hk k K 0 (by omega) hK
  have e : (fun a b : Nat => if a = b ∧ a < 0 then (1 : Int) else 0) = fun _ _ => 0 := by
    funext a b
    rw [if_neg (fun h => by omega)]
  rw [e] at h
  exact h
theorem spec_cauchy_l1 (k m i : Nat) (h1 : 1 ≤ k) (hk : k ≤ 8) (hm : m ≤ 6) (hi : i < m) (K : Nat) (hK : 18 ≤ K) (d : Nat) : ∀ (j : Nat), j + d = k →
    spec_Cauchy.l1 (K + d + 1) (k : Int) (m : Int) (i : Int) (j : Int) ((k + m : Nat) : Int) (k : Int) (grid (cauchyC k) k ((k + i) * k + j)) = spec_Cauchy.l0 K (k : Int) (m : Int) ((i + 1 : Nat) : Int) ((k + m : Nat) : Int) (k : Int) (grid (cauchyC k) k ((k + (i + 1)) * k)) := by
  induction d with
  | zero =>
    intro j hj
    obtain rfl : j = k := by omega
    rw [spec_Cauchy.l1, if_neg (by omega), w_succ i (by omega), show (j + (i + 1)) * j = (j + i) * j + j by rw [← Nat.succ_mul]; rfl]
  | succ d ih =>
    intro j hj
    have hs : (k + i) * k ≤ 14 * 8 := Nat.mul_le_mul (by omega) hk
    rw [spec_Cauchy.l1, if_pos (by omega), ← Int.natCast_add, w_nat (k + i) (by omega), xor_nat _ _ (by omega) (by omega), spec_inv_f (K + (d + 1)) (by omega), Option.bind_some, if_pos (by rw [grid_len]; omega), w_succ j (by omega),
      show un (Gf.inv (BitVec.ofNat 8 (k + i) ^^^ BitVec.ofNat 8 j)) = cauchyC k (k + i) j by unfold cauchyC cauchyB; rw [if_neg (by omega)], grid_succ (cauchyC k) (by omega)]
    exact ih (j + 1) (by omega)
theorem spec_cauchy_l0 (k m : Nat) (h1 : 1 ≤ k) (hk : k ≤ 8) (hm : m ≤ 6) (d : Nat) : ∀ (K i : Nat), 18 ≤ K → i + d = m →
    spec_Cauchy.l0 (K + d * (k + 2) + 1) (k : Int) (m : Int) (i : Int) ((k + m : Nat) : Int) (k : Int) (grid (cauchyC k) k ((k + i) * k)) = some (((k + m : Nat) : Int), (k : Int), cauchyL k m, 0) := by
  induction d with
  | zero =>
    intro K i hK hi
    obtain rfl : i = m := by omega
    rw [Nat.zero_mul, Nat.add_zero, spec_Cauchy.l0, if_neg (by omega)]
    rfl
  | succ d ih =>
    intro K i hK hi
    have h := spec_cauchy_l1 k m i h1 hk hm (by omega) (K + d * (k + 2) + 1) (by omega) k 0 (by omega)
    rw [show K + (d + 1) * (k + 2) + 1 = (K + d * (k + 2) + 1 + k + 1) + 1 by rw [Nat.succ_mul]; omega, spec_Cauchy.l0, if_pos (by omega)]
    refine Eq.trans ?_ (ih K (i + 1) hK (by omega))
    exact h
/-- What Cauchy answers. -/
def codeOk (a b : Int) : Bool := decide (1 ≤ a ∧ a ≤ 8 ∧ 0 ≤ b ∧ b ≤ 6)
def resCauchy (a b : Int) : Int × Int × List Int × Int := if codeOk a b = true then (a + b, a, cauchyL a.toNat b.toNat, 0) else (0, 0, [], 1)
theorem codeOk_out {a b : Int} (h : codeOk a b = true) : ∃ k m : Nat, a = (k : Int) ∧ b = (m : Int) ∧ 1 ≤ k ∧ k ≤ 8 ∧ m ≤ 6 := by
  have h' := of_decide_eq_true (show decide (1 ≤ a ∧ a ≤ 8 ∧ 0 ≤ b ∧ b ≤ 6) = true from h)
  obtain ⟨k, rfl⟩ := Int.eq_ofNat_of_zero_le (show 0 ≤ a by omega)
  obtain ⟨m, rfl⟩ := Int.eq_ofNat_of_zero_le (show 0 ≤ b by omega)
  exact ⟨k, m, rfl, rfl, by omega, by omega, by omega⟩
theorem spec_codeRight (a b : Int) : spec_CodeRight.f a b = some (codeOk a b) := by
  unfold spec_CodeRight.f codeOk
  by_cases h1 : a ≥ 1
  · rw [if_pos h1]
    by_cases h2 : a ≤ 8
    · rw [if_pos h2]
      by_cases h3 : b ≥ 0
      · rw [if_pos h3]
        exact congrArg some (decide_eq_decide.2 ⟨fun h => ⟨h1, h2, h3, h⟩, fun h => h.2.2.2⟩)
      · rw [if_neg h3, decide_eq_false (fun h => h3 h.2.2.1)]
    · rw [if_neg h2, decide_eq_false (fun h => h2 h.2.1)]
  · rw [if_neg h1, decide_eq_false (fun h => h1 h.1)]
theorem spec_cauchy (a b : Int) (h : codeOk a b = true) (K : Nat) (hK : 200 ≤ K) : spec_Cauchy.f K a b = some (resCauchy a b) := by
  unfold spec_Cauchy.f resCauchy
  rw [spec_codeRight, Option.bind_some, if_pos h, if_pos h]
  obtain ⟨k, m, rfl, rfl, k1, k2, m2⟩ := codeOk_out h
  have hc : m * (k + 2) ≤ 6 * 10 := Nat.mul_le_mul m2 (by omega)
  rw [unit_eq k (by omega) K (by omega), Option.bind_some, ← Int.natCast_add, w_nat (k + m) (by omega), Int.toNat_natCast, Int.toNat_natCast,
    grid_congr (h' := cauchyC k) (by omega) (fun x y hy hxy => ?_)]
  · have h := spec_cauchy_l0 k m k1 k2 m2 m (K - (m * (k + 2) + 1)) 0 (by omega) (by omega)
    rw [show K - (m * (k + 2) + 1) + m * (k + 2) + 1 = K by omega] at h
    exact h
  · refine (cauchyC_unit (Nat.lt_of_not_le (fun hc => ?_)) y).symm
    have := Nat.mul_le_mul_right k hc
    omega
theorem unit_row (k i : Nat) (hk : k ≤ 8) (hi : i < k) : impl_unit.f (i : Int) (k : Int) = some (line (cauchyC k i) k) := by
  unfold impl_unit.f
  rw [if_pos (by omega), Int.toNat_natCast, if_pos (by omega), Option.bind_some, if_pos (by omega), if_pos (by rw [List.length_replicate]; omega), Int.toNat_natCast, line_zeros]
  refine congrArg some (line_set (f' := cauchyC k i) ?_ (fun b hb => ?_))
  · rw [cauchyC_unit hi, if_pos rfl]
  · rw [cauchyC_unit hi, if_neg (fun h => hb h.symm)]
theorem impl_cauchy_l2 (k m i : Nat) (h1 : 1 ≤ k) (hk : k ≤ 8) (hm : m ≤ 6) (hi : i < m) (K : Nat) (hK : 18 ≤ K) (d : Nat) : ∀ (j : Nat), j + d = k →
    impl_cauchy.l2 (K + d + 1) (k : Int) (rowsH (cauchyC k) k (k + i)) (i : Int) (line (cauchyC k (k + i)) j) (m : Int) (i : Int) (k : Int) (j : Int) = impl_cauchy.l1 K (k : Int) (rowsH (cauchyC k) k (k + (i + 1))) (m : Int) ((i + 1 : Nat) : Int) := by
  induction d with
  | zero =>
    intro j hj
    obtain rfl : j = k := by omega
    rw [impl_cauchy.l2, if_neg (by omega), if_pos (by rw [rowsH_len]; omega), w_succ i (by omega), rowsH_succ]
    rfl
  | succ d ih =>
    intro j hj
    rw [impl_cauchy.l2, if_pos (by omega), ← Int.natCast_add, w_nat (k + i) (by omega), xor_nat _ _ (by omega) (by omega), impl_inv_f (K + (d + 1)) (by omega), Option.bind_some, if_pos (by rw [line_len]; omega), w_succ j (by omega),
      show un (Gf.inv (BitVec.ofNat 8 (k + i) ^^^ BitVec.ofNat 8 j)) = cauchyC k (k + i) j by unfold cauchyC cauchyB; rw [if_neg (by omega)], line_succ]
    exact ih (j + 1) (by omega)
theorem impl_cauchy_l1 (k m : Nat) (h1 : 1 ≤ k) (hk : k ≤ 8) (hm : m ≤ 6) (d : Nat) : ∀ (K i : Nat), 50 ≤ K → i + d = m →
    impl_cauchy.l1 (K + d * (k + 2) + 1) (k : Int) (rowsH (cauchyC k) k (k + i)) (m : Int) (i : Int) = some (((k + m : Nat) : Int), (k : Int), cauchyL k m) := by
  induction d with
  | zero =>
    intro K i hK hi
    obtain rfl : i = m := by omega
    have hs : (k + i) * k ≤ 14 * 8 := Nat.mul_le_mul (by omega) hk
    have e0 : (rowsH (cauchyC k) k (k + i))[0]? = some (line (cauchyC k 0) k) := rowsH_get _ (by omega)
    have e1 := (List.getElem?_eq_some_iff.1 e0).2
    have hL := rowsH_len (cauchyC k) k (k + i)
    rw [Nat.zero_mul, Nat.add_zero, impl_cauchy.l1, if_neg (by omega), matrixOf_eq (rowsH (cauchyC k) k (k + i)) (by omega) (by omega) (by rw [rowsH_flat, grid_len]; omega) _ (by omega), Option.bind_some, e1, line_len, rowsH_flat, hL]
    rfl
  | succ d ih =>
    intro K i hK hi
    have h := impl_cauchy_l2 k m i h1 hk hm (by omega) (K + d * (k + 2) + 1) (by omega) k 0 (by omega)
    rw [show K + (d + 1) * (k + 2) + 1 = (K + d * (k + 2) + 1 + k + 1) + 1 by rw [Nat.succ_mul]; omega, impl_cauchy.l1, if_pos (by omega)]
    refine Eq.trans ?_ (ih K (i + 1) hK (by omega))
    exact h
theorem impl_cauchy_l0 (k m : Nat) (hk : k ≤ 8) (hm : m ≤ 6) (K : Nat) (d : Nat) : ∀ (i : Nat), i + d = k →
    impl_cauchy.l0 (K + d + 1) (k : Int) (m : Int) (rowsH (cauchyC k) k i) (k : Int) (i : Int) = impl_cauchy.l1 K (k : Int) (rowsH (cauchyC k) k k) (m : Int) 0 := by
  induction d with
  | zero =>
    intro i hi
    obtain rfl : i = k := by omega
    rw [impl_cauchy.l0, if_neg (by omega)]
  | succ d ih =>
    intro i hi
    rw [impl_cauchy.l0, if_pos (by omega), unit_row k i hk (by omega), Option.bind_some, if_pos (by rw [rowsH_len]; omega), w_succ i (by omega), rowsH_succ]
    exact ih (i + 1) (by omega)
theorem impl_cauchy_f (k m : Nat) (h1 : 1 ≤ k) (hk : k ≤ 8) (hm : m ≤ 6) (K : Nat) (hK : 200 ≤ K) : impl_cauchy.f K (k : Int) (m : Int) = some (((k + m : Nat) : Int), (k : Int), cauchyL k m) := by
  have hc : m * (k + 2) ≤ 6 * 10 := Nat.mul_le_mul hm (by omega)
  have h := impl_cauchy_l0 k m hk hm (K - (k + 1)) k 0 (by omega)
  have h' := impl_cauchy_l1 k m h1 hk hm m (K - (k + 1) - (m * (k + 2) + 1)) 0 (by omega) (by omega)
  rw [show K - (k + 1) + k + 1 = K by omega] at h
  rw [show K - (k + 1) - (m * (k + 2) + 1) + m * (k + 2) + 1 = K - (k + 1) by omega] at h'
  exact h.trans h'
theorem impl_codeRight (a b : Int) : impl_CodeRight.f a b = some (codeOk a b) := by
  unfold impl_CodeRight.f impl_within.f codeOk
  by_cases h1 : a ≥ 1
  · rw [if_pos h1, Option.bind_some]
    by_cases h2 : a ≤ 8
    · rw [decide_eq_true h2, if_pos rfl]
      by_cases h3 : b ≥ 0
      · rw [if_pos h3, Option.bind_some]
        exact congrArg some (decide_eq_decide.2 ⟨fun h => ⟨h1, h2, h3, h⟩, fun h => h.2.2.2⟩)
      · rw [if_neg h3, Option.bind_some, decide_eq_false (fun h => h3 h.2.2.1)]
    · rw [decide_eq_false h2, if_neg (by simp), decide_eq_false (fun h => h2 h.2.1)]
  · rw [if_neg h1, Option.bind_some, if_neg (by simp), decide_eq_false (fun h => h1 h.1)]
def byteB (x : Int) : Bool := decide (0 ≤ x) && decide (x ≤ 255)
def okM (a b : Int) (l : List Int) : Bool := decide (1 ≤ a ∧ a ≤ 16 ∧ 1 ≤ b ∧ b ≤ 16 ∧ (l.length : Int) = a * b) && l.all byteB
theorem side_mul {a b : Int} (h1 : 1 ≤ a) (h2 : a ≤ 16) (h3 : 1 ≤ b) (h4 : b ≤ 16) : 1 ≤ a * b ∧ a * b ≤ 256 := by
  constructor
  · have := Int.mul_le_mul h1 h3 (by omega) (by omega)
    omega
  · have := Int.mul_le_mul h2 h4 (by omega) (by omega)
    omega
theorem okM_out {a b : Int} {l : List Int} (h : okM a b l = true) : ∃ r c : Nat, a = (r : Int) ∧ b = (c : Int) ∧ 1 ≤ r ∧ r ≤ 16 ∧ 1 ≤ c ∧ c ≤ 16 ∧ l.length = r * c ∧ Bytes l := by
  unfold okM at h
  rw [Bool.and_eq_true, decide_eq_true_iff, List.all_eq_true] at h
  obtain ⟨⟨h1, h2, h3, h4, h5⟩, h6⟩ := h
  obtain ⟨r, rfl⟩ := Int.eq_ofNat_of_zero_le (show 0 ≤ a by omega)
  obtain ⟨c, rfl⟩ := Int.eq_ofNat_of_zero_le (show 0 ≤ b by omega)
  refine ⟨r, c, rfl, rfl, by omega, by omega, by omega, by omega, ?_, fun x hx => ?_⟩
  · rw [← Int.natCast_mul] at h5
    exact Int.ofNat_inj.1 h5
  · have := h6 x hx
    unfold byteB at this
    rw [Bool.and_eq_true, decide_eq_true_iff, decide_eq_true_iff] at this
    exact this
theorem okM_same (a b : Int) (l : List Int) : okM a b l = Pure.FnExactMatrixRight_.okM a b l := rfl
theorem spec_byte (x : Int) : spec_l02Byte.f x = some (byteB x) := by
  unfold spec_l02Byte.f byteB
  by_cases h : x ≥ 0
  · have h' : 0 ≤ x := h
    simp [h']
  · have h' : ¬ 0 ≤ x := h
    simp [h']
theorem spec_right_l0 (a b : Int) (l : List Int) (hl : l.length ≤ 1000000000) (hb : l.all byteB = true) (d : Nat) : ∀ (k i : Nat), i + d = l.length → d + 1 ≤ k → spec_MatrixRight.l0 k (i : Int) a b l = some true := by
  induction d with
  | zero =>
    intro k i hi hk
    obtain ⟨k, rfl⟩ : ∃ m, k = m + 1 := ⟨k - 1, by omega⟩
    rw [spec_MatrixRight.l0, if_neg (by omega)]
  | succ d ih =>
    intro k i hi hk
    obtain ⟨k, rfl⟩ : ∃ m, k = m + 1 := ⟨k - 1, by omega⟩
    rw [spec_MatrixRight.l0, if_pos (by omega), if_pos (by omega), rd_get l i (by omega), spec_byte]
    simp only [Option.bind_some]
    rw [if_pos (List.all_eq_true.1 hb _ (List.getElem_mem _)), show wrap64 ((i : Int) + 1) = ((i + 1 : Nat) : Int) by unfold wrap64; omega]
    exact ih k (i + 1) (by omega) (by omega)
theorem spec_right (a b : Int) (l : List Int) (h : okM a b l = true) (hl : l.length ≤ 1000000000) (k : Nat) (hk : l.length + 2 ≤ k) : spec_MatrixRight.f k a b l = some true := by
  obtain ⟨k, rfl⟩ : ∃ m, k = m + 1 := ⟨k - 1, by omega⟩
  unfold okM at h
  rw [Bool.and_eq_true, decide_eq_true_iff] at h
  obtain ⟨⟨h1, h2, h3, h4, h5⟩, h6⟩ := h
  have hm := side_mul h1 h2 h3 h4
  unfold spec_MatrixRight.f
  rw [if_neg (by omega), if_neg (by omega), if_neg (by omega), if_neg (by omega), show wrap64 (a * b) = a * b by unfold wrap64; omega, spec_MatrixRight.j0, if_neg (by simp [h5])]
  exact spec_right_l0 a b l hl h6 l.length k 0 (by omega) (by omega)
def rowOk (r : Nat) (x : Int) : Bool := decide (0 ≤ x ∧ x < (r : Int))
def rowsOf (l : List Int) (c : Nat) (rows : List Int) : List (List Int) := rows.map fun x => rowL l c x.toNat
theorem flat_le (ls : List (List Int)) (c : Nat) (h : ∀ x ∈ ls, x.length = c) : ls.flatten.length = ls.length * c := by
  induction ls with
  | nil => simp
  | cons a t ih =>
    rw [List.flatten_cons, List.length_append, ih (fun x hx => h x (List.mem_cons_of_mem _ hx)), h a List.mem_cons_self, List.length_cons, Nat.succ_mul]
    omega
theorem rows_len {l : List Int} {r c : Nat} (hl : l.length = r * c) {rows : List Int} (h : rows.all (rowOk r) = true) : ∀ x ∈ rowsOf l c rows, x.length = c := by
  intro x hx
  unfold rowsOf at hx
  obtain ⟨y, hy, rfl⟩ := List.mem_map.1 hx
  have := List.all_eq_true.1 h y hy
  unfold rowOk at this
  have := of_decide_eq_true this
  exact rowL_len hl (by omega)
theorem spec_pick_l0 (r c : Nat) (l rows : List Int) (hr : r ≤ 16) (hc : c ≤ 16) (hl : l.length = r * c) (hn : rows.length ≤ 16) (hok : rows.all (rowOk r) = true) (d : Nat) : ∀ (k i : Nat) (out : List Int), i + d = rows.length → out.length ≤ i * c → d + 1 ≤ k →
    spec_MatrixPick.l0 k rows (i : Int) (r : Int) (c : Int) l (rows.length : Int) (c : Int) out = some ((rows.length : Int), (c : Int), out ++ (rowsOf l c (rows.drop i)).flatten, 0) := by
  have hrc := side_le hr hc
  induction d with
  | zero =>
    intro k i out hi ho hk
    obtain ⟨k, rfl⟩ : ∃ m, k = m + 1 := ⟨k - 1, by omega⟩
    rw [spec_MatrixPick.l0, if_neg (by omega), List.drop_of_length_le (by omega)]
    simp [rowsOf]
  | succ d ih =>
    intro k i out hi ho hk
    obtain ⟨k, rfl⟩ : ∃ m, k = m + 1 := ⟨k - 1, by omega⟩
    have hd : rows.drop i = rows[i]'(by omega) :: rows.drop (i + 1) := List.drop_eq_getElem_cons (by omega)
    have hx := List.all_eq_true.1 hok (rows[i]'(by omega)) (List.getElem_mem _)
    rw [spec_MatrixPick.l0, if_pos (by omega), if_pos (by omega), rd_get rows i (by omega), hd]
    revert hx
    generalize rows[i]'(by omega) = x
    intro hx
    have hx' := of_decide_eq_true (show decide (0 ≤ x ∧ x < (r : Int)) = true from hx)
    rw [if_neg (by omega), if_neg (by omega)]
    obtain ⟨y, rfl⟩ := Int.eq_ofNat_of_zero_le (show 0 ≤ x by omega)
    have hy : y < r := by omega
    have hyc := step_le c hy
    have hic : i * c ≤ 16 * 16 := Nat.mul_le_mul (by omega) hc
    have hsm : (y + 1) * c = y * c + c := Nat.succ_mul y c
    have e : (l.take (((y + 1) * c : Nat) : Int).toNat).drop ((y * c : Nat) : Int).toNat = rowL l c y := by rw [Int.toNat_natCast, Int.toNat_natCast, Nat.succ_mul]; rfl
    rw [w_succ y (by omega), w_mul y c (by omega), w_mul (y + 1) c (by omega), e, if_pos (by omega), if_pos (by omega), if_pos (by omega), rowL_len hl hy, if_pos (by omega), w_succ i (by omega),
      ih k (i + 1) _ (by omega) (by rw [List.length_append, rowL_len hl hy, Nat.succ_mul]; omega) (by omega), show rowsOf l c ((y : Int) :: rows.drop (i + 1)) = rowL l c y :: rowsOf l c (rows.drop (i + 1)) from rfl, List.flatten_cons, List.append_assoc]
theorem pick_l0 (r c : Nat) (l rows : List Int) (hr : r ≤ 16) (hc : c ≤ 16) (hl : l.length = r * c) (hn : rows.length ≤ 16) (hok : rows.all (rowOk r) = true) (K : Nat) (d : Nat) : ∀ (i : Nat), i + d = rows.length →
    impl_Matrix_pick.l0 (K + d + 1) (rowsOf l c (rows.take i)) rows (rows.length : Int) (i : Int) (r : Int) (c : Int) l = (impl_matrixOf.f K (rowsOf l c rows)).bind fun b => some (b.1, b.2.1, b.2.2) := by
  have hrc := side_le hr hc
  induction d with
  | zero =>
    intro i hi
    rw [impl_Matrix_pick.l0, if_neg (by omega), List.take_of_length_le (by omega)]
  | succ d ih =>
    intro i hi
    have hx := List.all_eq_true.1 hok (rows[i]'(by omega)) (List.getElem_mem _)
    have ht : rows.take (i + 1) = rows.take i ++ [rows[i]'(by omega)] := by rw [List.take_add_one, List.getElem?_eq_getElem (by omega)]; rfl
    have ih := ih (i + 1) (by omega)
    rw [ht] at ih
    rw [impl_Matrix_pick.l0, if_pos (by omega), if_pos (by omega), if_pos (by omega), rd_get rows i (by omega)]
    revert ih hx
    generalize rows[i]'(by omega) = x
    intro hx ih
    have hx' := of_decide_eq_true (show decide (0 ≤ x ∧ x < (r : Int)) = true from hx)
    obtain ⟨y, rfl⟩ := Int.eq_ofNat_of_zero_le hx'.1
    have hy : y < r := by omega
    have hyc := step_le c hy
    have hsm : (y + 1) * c = y * c + c := Nat.succ_mul y c
    have e : (l.take (((y + 1) * c : Nat) : Int).toNat).drop ((y * c : Nat) : Int).toNat = rowL l c y := by rw [Int.toNat_natCast, Int.toNat_natCast, Nat.succ_mul]; rfl
    rw [w_succ y (by omega), w_mul y c (by omega), w_mul (y + 1) c (by omega), e, if_pos (by omega), if_pos (by omega), if_pos (by omega), if_pos (by unfold rowsOf; rw [List.length_map, List.length_take]; omega), w_succ i (by omega), ← ih]
    unfold rowsOf
    rw [List.map_append]
    rfl
theorem pick_eq (r c : Nat) (l rows : List Int) (hr : r ≤ 16) (hc : c ≤ 16) (hl : l.length = r * c) (h1 : 1 ≤ rows.length) (hn : rows.length ≤ 16) (hok : rows.all (rowOk r) = true) (k : Nat) (hk : 100 ≤ k) :
    impl_Matrix_pick.f k (r : Int) (c : Int) l rows = some ((rows.length : Int), (c : Int), (rowsOf l c rows).flatten) := by
  have hL : (rowsOf l c rows).length = rows.length := List.length_map _
  have hF := flat_le (rowsOf l c rows) c (rows_len hl hok)
  have hFl : rows.length * c ≤ 16 * 16 := Nat.mul_le_mul hn hc
  rw [hL] at hF
  have h0 : (rowsOf l c rows)[0].length = c := rows_len hl hok _ (List.getElem_mem _)
  have h := pick_l0 r c l rows hr hc hl hn hok (k - (rows.length + 1)) rows.length 0 (by omega)
  rw [show k - (rows.length + 1) + rows.length + 1 = k by omega, matrixOf_eq (rowsOf l c rows) (by omega) (by omega) (by omega) _ (by omega), Option.bind_some, h0] at h
  refine h.trans ?_
  rw [hL]
/-- What MatrixPick answers. -/
def resPick (a b : Int) (l rows : List Int) : Int × Int × List Int × Int := if rows.length > 400 then (0, 0, [], 2) else if okM a b l = true ∧ 1 ≤ rows.length ∧ rows.length ≤ 16 ∧ rows.all (rowOk a.toNat) = true then ((rows.length : Int), b, (rowsOf l b.toNat rows).flatten, 0) else (0, 0, [], 1)
theorem spec_pick (a b : Int) (l rows : List Int) (hl : l.length ≤ 1000000000) (h1 : okM a b l = true) (h2 : 1 ≤ rows.length) (h3 : rows.length ≤ 16) (h4 : rows.all (rowOk a.toNat) = true) (k : Nat) (hk : l.length + 200 ≤ k) : spec_MatrixPick.f k a b l rows = some (resPick a b l rows) := by
  obtain ⟨k, rfl⟩ : ∃ m, k = m + 1 := ⟨k - 1, by omega⟩
  unfold spec_MatrixPick.f resPick
  rw [if_neg (by omega), if_neg (by omega), spec_right a b l h1 hl (k + 1) (by omega), Option.bind_some, if_pos rfl, if_neg (by omega), spec_MatrixPick.j0, decide_eq_false (show ¬ ((rows.length : Int) > 16) by omega), if_neg (by simp)]
  obtain ⟨r, c, rfl, rfl, r1, r2, c1, c2, e1, by1⟩ := okM_out h1
  rw [Int.toNat_natCast] at h4
  have h := spec_pick_l0 r c l rows r2 c2 e1 h3 h4 rows.length k 0 [] (by omega) (by simp) (by omega)
  rw [List.drop_zero, List.nil_append] at h
  refine h.trans ?_
  rw [Int.toNat_natCast, Int.toNat_natCast, if_pos ⟨h1, h2, h3, h4⟩]
def gridB (g : Rd.H) (d n : Nat) : List Int := grid (fun i j => un (g i j)) d (n * d)
theorem gridB_len (g : Rd.H) (d n : Nat) : (gridB g d n).length = n * d := grid_len _ _ _
theorem gridB_congr {g g' : Rd.H} {d n : Nat} (hd : 0 < d) (e : ∀ i j, i < n → j < d → g i j = g' i j) : gridB g d n = gridB g' d n := by
  refine grid_congr hd (fun a b hb hab => ?_)
  have ha : a < n := Nat.lt_of_not_le (fun hc => by
    have := Nat.mul_le_mul_right d hc
    omega)
  rw [e a b ha hb]
theorem rd_gridB (g : Rd.H) {d n i j : Nat} (hi : i < n) (hj : j < d) : rd (gridB g d n) ((i * d + j : Nat) : Int) = un (g i j) := by
  have := step_le d hi
  exact rd_grid _ hj (by omega)
theorem w_place {n d i j : Nat} (hn : n ≤ 16) (hd : d ≤ 16) (hi : i < n) (hj : j < d) : wrap64 (wrap64 ((i : Int) * (d : Int)) + (j : Int)) = ((i * d + j : Nat) : Int) ∧ i * d + j < n * d := by
  have h1 := step_le d hi
  have h2 := side_le hn hd
  refine ⟨?_, by omega⟩
  rw [w_mul i d (by omega), ← Int.natCast_add, w_nat _ (by omega)]
def swpT (g : Rd.H) (r p t : Nat) : Rd.H := fun i j => if j < t then g (swp r p i) j else g i j
theorem swap_l0 (g : Rd.H) {n d r p : Nat} (hn : n ≤ 16) (hd : d ≤ 16) (hr : r < n) (hp : p < n) (m : Nat) : ∀ (K j : Nat), j + m = d → m + 1 ≤ K →
    spec_l03Swap.l0 K (p : Int) (r : Int) (j : Int) (n : Int) (d : Int) (gridB (swpT g r p j) d n) = some (gridB (swpH g r p) d n) := by
  induction m with
  | zero =>
    intro K j hj hK
    obtain ⟨K, rfl⟩ : ∃ q, K = q + 1 := ⟨K - 1, by omega⟩
    rw [spec_l03Swap.l0, if_neg (by omega)]
    congr 1
    by_cases h0 : d = 0
    · subst h0
      rfl
    · refine gridB_congr (by omega) (fun a b ha hb => ?_)
      unfold swpT swpH
      rw [if_pos (by omega)]
  | succ m ih =>
    intro K j hj hK
    obtain ⟨K, rfl⟩ : ∃ q, K = q + 1 := ⟨K - 1, by omega⟩
    have w1 := Aside0.mk (w_place hn hd hp (show j < d by omega)).1
    have l1 := (w_place hn hd hp (show j < d by omega)).2
    have w2 := Aside0.mk (w_place hn hd hr (show j < d by omega)).1
    have l2 := (w_place hn hd hr (show j < d by omega)).2
    have v1 : swpT g r p j r j = g r j := by unfold swpT; rw [if_neg (by omega)]
    have v2 : swpT g r p j p j = g p j := by unfold swpT; rw [if_neg (by omega)]
    rw [spec_l03Swap.l0, if_pos (by omega), w1.out, w2.out, if_pos (by omega), if_pos (by rw [gridB_len]; omega), if_pos (by omega), if_pos (by rw [gridB_len]; omega), rd_gridB _ hr (by omega), rd_gridB _ hp (by omega), v1, v2, Int.toNat_natCast, Int.toNat_natCast, w_succ j (by omega)]
    have e : ((gridB (swpT g r p j) d n).set (p * d + j) (un (g r j))).set (r * d + j) (un (g p j)) = gridB (swpT g r p (j + 1)) d n := by
      unfold gridB
      rw [grid_set (h' := fun i jj => if i = p ∧ jj = j then un (g r j) else un (swpT g r p j i jj)) (by omega) (if_pos ⟨rfl, rfl⟩) (fun a b hb hab => if_neg hab),
        grid_set (h' := fun i jj => un (swpT g r p (j + 1) i jj)) (by omega) (by unfold swpT swp; rw [if_pos (by omega), if_pos rfl]) (fun a b hb hab => ?_)]
      by_cases hap : a = p ∧ b = j
      · rw [if_pos hap, hap.1, hap.2]
        unfold swpT swp
        rw [if_pos (by omega)]
        by_cases hpr : p = r
        · rw [if_pos hpr, hpr]
        · rw [if_neg hpr, if_pos rfl]
      · rw [if_neg hap]
        unfold swpT
        by_cases h1 : b < j
        · rw [if_pos (by omega), if_pos h1]
        · rw [if_neg h1]
          by_cases h2 : b = j
          · rw [if_pos (by omega)]
            unfold swp
            rw [if_neg (fun h => hab ⟨h, h2⟩), if_neg (fun h => hap ⟨h, h2⟩)]
          · rw [if_neg (by omega)]
    rw [e]
    exact ih K (j + 1) (by omega) (by omega)
theorem swap_eq (g : Rd.H) {n d r p : Nat} (hn : n ≤ 16) (hd : d ≤ 16) (hr : r < n) (hp : p < n) (K : Nat) (hK : 20 ≤ K) : spec_l03Swap.f K (n : Int) (d : Int) (gridB g d n) (p : Int) (r : Int) = some (gridB (swpH g r p) d n) := by
  have h := swap_l0 g hn hd hr hp d K 0 (by omega) (by omega)
  have e : swpT g r p 0 = g := by
    funext i j
    unfold swpT
    rw [if_neg (by omega)]
  rw [e] at h
  exact h
def addT (g : Rd.H) (a b : Nat) (x : Gf.B) (t : Nat) : Rd.H := fun i j => if i = a ∧ j < t then g i j ^^^ Gf.mul (g b j) x else g i j
def addH (g : Rd.H) (a b : Nat) (x : Gf.B) : Rd.H := fun i j => if i = a then g i j ^^^ Gf.mul (g b j) x else g i j
theorem add_l0 (g : Rd.H) {n d a b : Nat} (x : Gf.B) (hn : n ≤ 16) (hd : d ≤ 16) (ha : a < n) (hb : b < n) (m : Nat) : ∀ (K j : Nat), j + m = d → m + 10 ≤ K →
    spec_l03Add.l0 K (a : Int) (b : Int) (un x) (j : Int) (n : Int) (d : Int) (gridB (addT g a b x j) d n) = some (gridB (addH g a b x) d n) := by
  induction m with
  | zero =>
    intro K j hj hK
    obtain ⟨K, rfl⟩ : ∃ q, K = q + 1 := ⟨K - 1, by omega⟩
    rw [spec_l03Add.l0, if_neg (by omega)]
    congr 1
    by_cases h0 : d = 0
    · subst h0
      rfl
    · refine gridB_congr (by omega) (fun i k hi hk => ?_)
      unfold addT addH
      by_cases e : i = a
      · rw [if_pos ⟨e, by omega⟩, if_pos e]
      · rw [if_neg (fun h => e h.1), if_neg e]
  | succ m ih =>
    intro K j hj hK
    obtain ⟨K, rfl⟩ : ∃ q, K = q + 1 := ⟨K - 1, by omega⟩
    have w1 := Aside0.mk (w_place hn hd ha (show j < d by omega)).1
    have l1 := (w_place hn hd ha (show j < d by omega)).2
    have w2 := Aside0.mk (w_place hn hd hb (show j < d by omega)).1
    have l2 := (w_place hn hd hb (show j < d by omega)).2
    have v1 : addT g a b x j a j = g a j := by unfold addT; rw [if_neg (fun h => by omega)]
    have v2 : addT g a b x j b j = g b j := by unfold addT; rw [if_neg (fun h => by omega)]
    rw [spec_l03Add.l0, if_pos (by omega), w1.out, w2.out, if_pos (by omega), if_pos (by rw [gridB_len]; omega), if_pos (by omega), if_pos (by rw [gridB_len]; omega), rd_gridB _ hb (by omega), rd_gridB _ ha (by omega), v1, v2, spec_l02Mul_f K (by omega), Option.bind_some, xor_un, Int.toNat_natCast, w_succ j (by omega)]
    have e : (gridB (addT g a b x j) d n).set (a * d + j) (un (g a j ^^^ Gf.mul (g b j) x)) = gridB (addT g a b x (j + 1)) d n := by
      unfold gridB
      rw [grid_set (h' := fun i jj => un (addT g a b x (j + 1) i jj)) (by omega) (by unfold addT; rw [if_pos ⟨rfl, by omega⟩]) (fun i k hk hik => ?_)]
      unfold addT
      by_cases e : i = a
      · by_cases h1 : k < j
        · rw [if_pos ⟨e, by omega⟩, if_pos ⟨e, h1⟩]
        · rw [if_neg (fun h => hik ⟨e, by omega⟩), if_neg (fun h => h1 h.2)]
      · rw [if_neg (fun h => e h.1), if_neg (fun h => e h.1)]
    rw [e]
    exact ih K (j + 1) (by omega) (by omega)
theorem add_eq' (g : Rd.H) {n d a b : Nat} (x : Gf.B) (hn : n ≤ 16) (hd : d ≤ 16) (ha : a < n) (hb : b < n) (K : Nat) (hK : 30 ≤ K) : spec_l03Add.f K (n : Int) (d : Int) (gridB g d n) (a : Int) (b : Int) (un x) = some (gridB (addH g a b x) d n) := by
  have h := add_l0 g x hn hd ha hb d K 0 (by omega) (by omega)
  have e : addT g a b x 0 = g := by
    funext i j
    unfold addT
    rw [if_neg (fun h => by omega)]
  rw [e] at h
  exact h
/-- The part of the columns from c on. -/
def sh (c : Nat) (h : Rd.H) : Rd.H := fun i j => h i (c + j)
theorem scl_add (g : Rd.H) (r : Nat) (x : Gf.B) : addH g r r (x ^^^ 1#8) = sclH g r x := by
  funext i j
  unfold addH sclH
  by_cases e : i = r
  · rw [if_pos e, if_pos e, Gf.mul_xor, Gf.mul_one, e, BitVec.xor_comm (Gf.mul (g r j) x) (g r j), ← BitVec.xor_assoc, BitVec.xor_self, BitVec.zero_xor]
  · rw [if_neg e, if_neg e]
theorem elm_add (g : Rd.H) {r c t : Nat} (e : t ≠ r) : addH (elmT g r c t) t r (elmT g r c t t c) = elmT g r c (t + 1) := by
  funext i j
  unfold addH
  by_cases h : i = t
  · rw [if_pos h, h, elmT_step g e]
  · rw [if_neg h, elmT_other g h]
theorem elm_add_sh (k : Nat) (g : Rd.H) {r c t : Nat} (e : t ≠ r) : addH (sh k (elmT g r c t)) t r (elmT g r c t t c) = sh k (elmT g r c (t + 1)) := by
  funext i j
  unfold addH sh
  by_cases h : i = t
  · rw [if_pos h, h, elmT_step g e]
  · rw [if_neg h, elmT_other g h]
section
variable {n c b : Nat} (hn : n ≤ 16) (hc : c ≤ 16) (hb : b ≤ 16) (c1 : 0 < c) (b1 : 0 < b)
include hn hc hb c1 b1
theorem steps_l2 (B : Nat) (hB : 100 ≤ B) (R : Int × List Int × List Int) (g : Rd.H) {cc r : Nat} (hcc : cc < c) (hr : r < n)
    (cont : ∀ K, B ≤ K → spec_l03Steps.l0 K ((r + 1 : Nat) : Int) ((cc + 1 : Nat) : Int) (n : Int) (c : Int) (gridB (elmH g r cc) c n) (n : Int) (b : Int) (gridB (sh c (elmH g r cc)) b n) = some R) (m : Nat) :
    ∀ (K t : Nat), t + m = n → B + m + 1 ≤ K → spec_l03Steps.l2 K (r : Int) (cc : Int) (t : Int) (n : Int) (c : Int) (gridB (elmT g r cc t) c n) (n : Int) (b : Int) (gridB (sh c (elmT g r cc t)) b n) = some R := by
  induction m with
  | zero =>
    intro K t ht hK
    obtain ⟨K, rfl⟩ : ∃ q, K = q + 1 := ⟨K - 1, by omega⟩
    obtain rfl : t = n := by omega
    rw [spec_l03Steps.l2, if_neg (by omega), w_succ r (by omega), w_succ cc (by omega), gridB_congr (g := elmT g r cc t) (g' := elmH g r cc) c1 (fun i j hi hj => elmT_end g r cc hi), gridB_congr (g := sh c (elmT g r cc t)) (g' := sh c (elmH g r cc)) b1 (fun i j hi hj => elmT_end g r cc hi)]
    exact cont K (by omega)
  | succ m ih =>
    intro K t ht hK
    obtain ⟨K, rfl⟩ : ∃ q, K = q + 1 := ⟨K - 1, by omega⟩
    have w1 := Aside0.mk (w_place hn hc (show t < n by omega) hcc).1
    have l1 := (w_place hn hc (show t < n by omega) hcc).2
    rw [spec_l03Steps.l2, if_pos (by omega), w_succ t (by omega)]
    by_cases e : t = r
    · rw [if_pos (by omega), ← elmT_same g e]
      exact ih K (t + 1) (by omega) (by omega)
    · rw [if_neg (by omega), w1.out, if_pos (by omega), if_pos (by rw [gridB_len]; omega), rd_gridB _ (by omega) hcc, add_eq' _ _ hn hc (by omega) hr K (by omega), Option.bind_some, add_eq' _ _ hn hb (by omega) hr K (by omega), Option.bind_some, elm_add g e, elm_add_sh c g e]
      exact ih K (t + 1) (by omega) (by omega)
theorem steps_j3 (B : Nat) (hB : 100 ≤ B) (R : Int × List Int × List Int) (h : Rd.H) {cc r p : Nat} (hcc : cc < c) (hr : r < n) (hp : p < n)
    (cont : ∀ K, B ≤ K → spec_l03Steps.l0 K ((r + 1 : Nat) : Int) ((cc + 1 : Nat) : Int) (n : Int) (c : Int) (gridB (stpH h cc r p) c n) (n : Int) (b : Int) (gridB (sh c (stpH h cc r p)) b n) = some R) (K : Nat) (hK : B + n + 2 ≤ K) :
    spec_l03Steps.j3 K (r : Int) (cc : Int) (p : Int) (n : Int) (c : Int) (gridB h c n) (n : Int) (b : Int) (gridB (sh c h) b n) = some R := by
  obtain ⟨K, rfl⟩ : ∃ q, K = q + 1 := ⟨K - 1, by omega⟩
  have w1 := Aside0.mk (w_place hn hc hr hcc).1
  have l1 := (w_place hn hc hr hcc).2
  have e1 : swpH h r p r cc = h p cc := by unfold swpH swp; rw [if_pos rfl]
  have e2 : swpH (sh c h) r p = sh c (swpH h r p) := rfl
  have e3 : ∀ x, sclH (sh c (swpH h r p)) r x = sh c (sclH (swpH h r p) r x) := fun x => rfl
  rw [spec_l03Steps.j3, if_neg (by omega), swap_eq h hn hc hr hp K (by omega), Option.bind_some, swap_eq (sh c h) hn hb hr hp K (by omega), Option.bind_some, w1.out, if_pos (by omega), if_pos (by rw [gridB_len]; omega), rd_gridB _ hr hcc, e1, spec_inv_f K (by omega), Option.bind_some, ← un_one, xor_un,
    add_eq' _ _ hn hc hr hr K (by omega), Option.bind_some, add_eq' _ _ hn hb hr hr K (by omega), Option.bind_some, scl_add, scl_add, e2, e3]
  have h2 := steps_l2 hn hc hb c1 b1 B hB R (sclH (swpH h r p) r (Gf.inv (h p cc))) hcc hr cont n K 0 (by omega) (by omega)
  rw [elmT_zero] at h2
  exact h2
omit hb b1 in
theorem steps_l1 (B : Nat) (R : Int × List Int × List Int) (h : Rd.H) {cc r : Nat} (hcc : cc < c) (hr : r < n) (m : Nat) :
    ∀ (K i : Nat), i + m = n → B + m + 1 ≤ K → (∀ K', B ≤ K' → spec_l03Steps.j3 K' (r : Int) (cc : Int) (((piv h cc m i).getD n : Nat) : Int) (n : Int) (c : Int) (gridB h c n) (n : Int) (b : Int) (gridB (sh c h) b n) = some R) →
    spec_l03Steps.l1 K (r : Int) (cc : Int) (i : Int) (n : Int) (c : Int) (gridB h c n) (n : Int) (b : Int) (gridB (sh c h) b n) = some R := by
  induction m with
  | zero =>
    intro K i hi hK cont
    obtain ⟨K, rfl⟩ : ∃ q, K = q + 1 := ⟨K - 1, by omega⟩
    obtain rfl : i = n := by omega
    rw [spec_l03Steps.l1, if_neg (by omega)]
    exact cont K (by omega)
  | succ m ih =>
    intro K i hi hK cont
    obtain ⟨K, rfl⟩ : ∃ q, K = q + 1 := ⟨K - 1, by omega⟩
    have w1 := Aside0.mk (w_place hn hc (show i < n by omega) hcc).1
    have l1 := (w_place hn hc (show i < n by omega) hcc).2
    rw [spec_l03Steps.l1, if_pos (by omega), w1.out, if_pos (by omega), if_pos (by rw [gridB_len]; omega), rd_gridB _ (by omega) hcc]
    unfold piv at cont
    by_cases h0 : h i cc = 0#8
    · rw [if_pos (by rw [h0]; rfl), w_succ i (by omega)]
      rw [if_pos h0] at cont
      exact ih K (i + 1) (by omega) (by omega) cont
    · rw [if_neg (fun e => h0 (un_eq_zero.1 e))]
      rw [if_neg h0] at cont
      exact cont K (by omega)
/-- What the reference's steps come to. -/
def stepsR (n c b : Nat) (x : Rd.H × Nat) : Int × List Int × List Int := ((x.2 : Nat), gridB x.1 c n, gridB (sh c x.1) b n)
omit hn hc hb c1 b1 in
theorem steps_out (h : Rd.H) (r cc : Nat) (K : Nat) (hK : 2 ≤ K) (he : ¬ (cc < c ∧ r < n)) : spec_l03Steps.l0 K (r : Int) (cc : Int) (n : Int) (c : Int) (gridB h c n) (n : Int) (b : Int) (gridB (sh c h) b n) = some (stepsR n c b (h, r)) := by
  obtain ⟨K, rfl⟩ : ∃ q, K = q + 2 := ⟨K - 2, by omega⟩
  rw [spec_l03Steps.l0]
  by_cases h1 : (cc : Int) < (c : Int)
  · rw [if_pos h1, decide_eq_false (by omega), spec_l03Steps.j1, if_neg (by simp)]
    rfl
  · rw [if_neg h1, spec_l03Steps.j1, if_neg (by simp)]
    rfl
theorem steps_l0 (m : Nat) : ∀ (K cc r : Nat) (h : Rd.H), cc + m = c → r < n → 200 + m * 60 ≤ K →
    spec_l03Steps.l0 K (r : Int) (cc : Int) (n : Int) (c : Int) (gridB h c n) (n : Int) (b : Int) (gridB (sh c h) b n) = some (stepsR n c b (red n m cc r h)) := by
  induction m with
  | zero =>
    intro K cc r h hcc hr hK
    exact steps_out h r cc K (by omega) (by omega)
  | succ m ih =>
    intro K cc r h hcc hr hK
    obtain ⟨K, rfl⟩ : ∃ q, K = q + 2 := ⟨K - 2, by omega⟩
    rw [spec_l03Steps.l0, if_pos (by omega), decide_eq_true (by omega), spec_l03Steps.j1, if_pos rfl]
    refine steps_l1 hn hc c1 (150 + m * 60 + 70) _ h (by omega) hr (n - r) K r (by omega) (by omega) (fun K' hK' => ?_)
    cases e : piv h cc (n - r) r with
    | none =>
      obtain ⟨K', rfl⟩ : ∃ q, K' = q + 1 := ⟨K' - 1, by omega⟩
      rw [red_none e, Option.getD_none, spec_l03Steps.j3, if_pos rfl, w_succ cc (by omega)]
      exact ih K' (cc + 1) r h (by omega) hr (by omega)
    | some p =>
      have hp := piv_some e
      rw [Option.getD_some]
      refine steps_j3 hn hc hb c1 b1 (200 + m * 60) (by omega) _ h (by omega) hr (by omega) (fun K'' hK'' => ?_) K' (by omega)
      by_cases hl : r + 1 = n
      · rw [red_last e hl]
        exact steps_out _ _ _ K'' (by omega) (by omega)
      · rw [red_some e hl]
        exact ih K'' (cc + 1) (r + 1) _ (by omega) (by omega) (by omega)
theorem steps_eq (K : Nat) (hK : 1200 ≤ K) (n1 : 0 < n) (h : Rd.H) : spec_l03Steps.f K (n : Int) (c : Int) (gridB h c n) (n : Int) (b : Int) (gridB (sh c h) b n) = some (stepsR n c b (red n c 0 0 h)) := by
  unfold spec_l03Steps.f
  exact steps_l0 hn hc hb c1 b1 c K 0 0 h (by omega) n1 (by omega)
end
/-- A matrix of bytes, told by its cells. -/
def cellH (l : List Int) (c : Nat) : Rd.H := fun i j => cell l (i * c + j)
theorem as_grid {l : List Int} {n c : Nat} (hb : Bytes l) (hl : l.length = n * c) (hc : 0 < c) : l = gridB (cellH l c) c n := by
  apply List.ext_getElem?
  intro t
  unfold gridB
  by_cases ht : t < n * c
  · rw [grid_get _ ht]
    have h := rd_cell hb (show t < l.length by omega)
    unfold rd at h
    rw [Int.toNat_natCast, List.getD_eq_getElem?_getD, List.getElem?_eq_getElem (by omega), Option.getD_some] at h
    rw [List.getElem?_eq_getElem (by omega), h]
    unfold cellH
    rw [Nat.mul_comm (t / c) c, Nat.div_add_mod]
  · rw [List.getElem?_eq_none (by omega), List.getElem?_eq_none (by rw [grid_len]; omega)]
theorem copy_eq (a b : Int) (l : List Int) (hl : l.length ≤ 1000000000) : spec_l03Copy.f a b l = some (a, b, l) := by
  unfold spec_l03Copy.f
  rw [Option.bind_some, List.length_nil, if_pos (by omega), List.nil_append]
/-- What MatrixInv answers. -/
def resInv (a b : Int) (l : List Int) : Int × Int × List Int × Int := if okM a b l = true ∧ a = b then (if (red a.toNat a.toNat 0 0 (h0_inv l a.toNat a.toNat)).2 < a.toNat then (0, 0, [], 8) else (a, a, gridB (sh a.toNat (red a.toNat a.toNat 0 0 (h0_inv l a.toNat a.toNat)).1) a.toNat a.toNat, 0)) else (0, 0, [], 1)
theorem spec_inv (a : Int) (l : List Int) (hl : l.length ≤ 1000000000) (h : okM a a l = true) (hr0 : ¬ (red a.toNat a.toNat 0 0 (h0_inv l a.toNat a.toNat)).2 < a.toNat) (k : Nat) (hk : l.length + 2000 ≤ k) : spec_MatrixInv.f k a a l = some (resInv a a l) := by
  unfold spec_MatrixInv.f resInv
  rw [spec_right a a l h hl k (by omega), Option.bind_some, if_pos rfl]
  obtain ⟨k, rfl⟩ : ∃ m, k = m + 1 := ⟨k - 1, by omega⟩
  rw [spec_MatrixInv.j0, if_neg (by simp), if_pos ⟨h, rfl⟩]
  obtain ⟨n, n', hn, hn', n1, n2, c1, c2, e, hb⟩ := okM_out h
  obtain rfl : n = n' := by omega
  subst hn
  rw [Int.toNat_natCast] at hr0
  rw [Int.toNat_natCast, unit_eq n n2 k (by omega), Option.bind_some, copy_eq _ _ l hl, Option.bind_some]
  have e1 := as_grid hb e (by omega)
  have g1 : gridB (h0_inv l n n) n n = l := by
    rw [gridB_congr (g' := cellH l n) (by omega) (fun i j hi hj => by unfold h0_inv; rw [if_pos hj]; rfl)]
    exact e1.symm
  have g2 : gridB (sh n (h0_inv l n n)) n n = grid (fun a b => if a = b then 1 else 0) n (n * n) := by
    refine grid_congr (by omega) (fun i j hj hij => ?_)
    show un (h0_inv l n n i (n + j)) = _
    unfold h0_inv
    rw [if_neg (by omega), Nat.add_sub_cancel_left]
    by_cases e : j = i
    · rw [if_pos e, if_pos e.symm]
      rfl
    · rw [if_neg e, if_neg (fun h => e h.symm)]
      rfl
  have hs := steps_eq n2 n2 n2 (by omega) (by omega) k (by omega) (by omega) (h0_inv l n n)
  rw [g1, g2] at hs
  rw [hs, Option.bind_some]
  unfold stepsR
  rw [if_neg hr0, if_neg (show ¬ ((((red n n 0 0 (h0_inv l n n)).2 : Nat)) : Int) < (n : Int) by omega)]
theorem comb_l2 (h : Tx.H) (ts : List ByteArray) (l0 : List Int) (rows row : List Int) (k n s i j : Nat) (out : List ByteArray) (R : Option (List ByteArray)) (hs : s ≤ 1000000) (hj : j < ts.length) (hjk : j < 1000) (hsz : s ≤ (txt ts j).size) (b : Int) (hb : b = un (h i j)) (a1 a2 a3 a4 : Int) (B : Nat) (hB : 20 ≤ B)
    (cont : ∀ K, B ≤ K → impl_combined.l1 K ts out (lineT h ts s i (j + 1)) a1 a2 row a3 ((j + 1 : Nat) : Int) a4 (k : Int) rows = R) (m : Nat) :
    ∀ (K q : Nat), q + m = s → B + m + 1 ≤ K → impl_combined.l2 K ts out (lineM h ts s i j q) (j : Int) b a1 a2 row a3 (j : Int) (s : Int) (q : Int) a4 (k : Int) rows = R := by
  induction m with
  | zero =>
    intro K q hq hK
    obtain ⟨K, rfl⟩ : ∃ x, K = x + 1 := ⟨K - 1, by omega⟩
    obtain rfl : q = s := by omega
    rw [impl_combined.l2, if_neg (by omega), lineM_end, w_succ j (by omega)]
    exact cont K (by omega)
  | succ m ih =>
    intro K q hq hK
    obtain ⟨K, rfl⟩ : ∃ x, K = x + 1 := ⟨K - 1, by omega⟩
    rw [impl_combined.l2, if_pos (by omega), if_pos (by omega), if_pos (by rw [lineM_len]; omega), if_pos (by omega), if_pos (by omega), rdOf_get hj, if_pos (by omega), hb, w_tb, impl_mul_f K (by omega), Option.bind_some, mod_un, rd_lineM h ts (by omega), xor8, Int.toNat_natCast, w_succ q (by omega), ← sumT_succ, lineM_set, ← hb]
    exact ih K (q + 1) (by omega) (by omega)
theorem comb_l1 (h : Tx.H) (ts : List ByteArray) (rows : List Int) (k n s i : Nat) (out : List ByteArray) (R : Option (List ByteArray)) (hs : s ≤ 1000000) (hk : k ≤ ts.length) (hk2 : k ≤ 16) (hsz : ∀ j, j < k → s ≤ (txt ts j).size) (ho : out.length ≤ 1000) (hi : i ≤ 1000) (a1 a4 : Int) (B : Nat) (hB : 20 ≤ B)
    (cont : ∀ K, B ≤ K → impl_combined.l0 K ts (out ++ [strOfNums (lineT h ts s i k)]) a1 ((i + 1 : Nat) : Int) a4 (k : Int) rows = R) (m : Nat) :
    ∀ (K j : Nat), j + m = k → B + m * (s + 2) + 1 ≤ K → impl_combined.l1 K ts out (lineT h ts s i j) a1 (i : Int) (line (fun j => un (h i j)) k) (k : Int) (j : Int) a4 (k : Int) rows = R := by
  induction m with
  | zero =>
    intro K j hj hK
    obtain ⟨K, rfl⟩ : ∃ x, K = x + 1 := ⟨K - 1, by omega⟩
    obtain rfl : j = k := by omega
    rw [impl_combined.l1, if_neg (by omega), if_pos (by omega), w_succ i (by omega)]
    exact cont K (by omega)
  | succ m ih =>
    intro K j hj hK
    rw [Nat.succ_mul] at hK
    obtain ⟨K, rfl⟩ : ∃ x, K = x + 1 := ⟨K - 1, by omega⟩
    rw [impl_combined.l1, if_pos (by omega), if_pos (by omega), if_pos (by rw [line_len]; omega), rd_line _ (by omega)]
    by_cases h0 : h i j = 0#8
    · rw [if_pos (un_eq_zero.2 h0), w_succ j (by omega), ← lineT_skip h0]
      exact ih K (j + 1) (by omega) (by omega)
    · rw [if_neg (fun e => h0 (un_eq_zero.1 e)), lineT_len, ← lineM_zero]
      exact comb_l2 h ts rows rows _ k n s i j out R hs (by omega) (by omega) (hsz j (by omega)) _ rfl a1 (i : Int) (k : Int) a4 (B + m * (s + 2) + 1) (by omega) (fun K' hK' => ih K' (j + 1) (by omega) (by omega)) s K 0 (by omega) (by omega)
theorem comb_l0 (h : Tx.H) (ts : List ByteArray) (k n s : Nat) (hs : s ≤ 1000000) (hk0 : 0 < k) (hk : k ≤ ts.length) (hk2 : k ≤ 16) (hn : n ≤ 16) (h0 : (txt ts 0).size = s) (hsz : ∀ j, j < k → s ≤ (txt ts j).size) (m : Nat) :
    ∀ (K i : Nat), i + m = n → 20 + m * (k * (s + 2) + 2) + 1 ≤ K → impl_combined.l0 K ts (timesT h ts s k i) (n : Int) (i : Int) (n : Int) (k : Int) (gridT h k n) = some (timesT h ts s k n) := by
  induction m with
  | zero =>
    intro K i hi hK
    obtain ⟨K, rfl⟩ : ∃ x, K = x + 1 := ⟨K - 1, by omega⟩
    obtain rfl : i = n := by omega
    rw [impl_combined.l0, if_neg (by omega)]
  | succ m ih =>
    intro K i hi hK
    rw [Nat.succ_mul] at hK
    obtain ⟨K, rfl⟩ : ∃ x, K = x + 1 := ⟨K - 1, by omega⟩
    have hst := step_le k (show i < n by omega)
    have hnk := side_le hn hk2
    have hsm : (i + 1) * k = i * k + k := Nat.succ_mul i k
    have e0 : rdOf ByteArray.empty ts 0 = txt ts 0 := rdOf_get (j := 0) (by omega)
    have e1 := cut_gridT h (c := k) (show i < n by omega)
    rw [impl_combined.l0, if_pos (by omega), if_pos (by omega), e0, h0, if_pos (by omega), Int.toNat_natCast, if_pos (by omega), w_succ i (by omega), w_mul i k (by omega), w_mul (i + 1) k (by omega), hsm, if_pos (by omega), if_pos (by omega), if_pos (by rw [gridT_len]; omega), Int.toNat_natCast, Int.toNat_natCast, e1, line_len, lineT_zero h ts s i]
    exact comb_l1 h ts (gridT h k n) k n s i (timesT h ts s k i) _ hs hk hk2 hsz (by rw [timesT_len]; omega) (by omega) (n : Int) (n : Int) (20 + m * (k * (s + 2) + 2) + 1) (by omega) (fun K' hK' => by rw [timesT_succ]; exact ih K' (i + 1) (by omega) (by omega)) k K 0 (by omega) (by omega)
theorem comb_eq (h : Tx.H) (ts : List ByteArray) (k n s : Nat) (hs : s ≤ 1000000) (hk0 : 0 < k) (hk : k ≤ ts.length) (hk2 : k ≤ 16) (hn : n ≤ 16) (h0 : (txt ts 0).size = s) (hsz : ∀ j, j < k → s ≤ (txt ts j).size) (K : Nat) (hK : 20 + n * (k * (s + 2) + 2) + 1 ≤ K) :
    impl_combined.f K (n : Int) (k : Int) (gridT h k n) ts = some (timesT h ts s k n) := by
  unfold impl_combined.f
  exact comb_l0 h ts k n s hs hk0 hk hk2 hn h0 hsz n K 0 (by omega) hK
theorem times_l2 (h : Tx.H) (ts : List ByteArray) (rows : List Int) (k n s i j : Nat) (out : List ByteArray) (R : Option (List ByteArray)) (hs : s ≤ 1000000) (hj : j < ts.length) (hjk : j < 1000) (hsz : s ≤ (txt ts j).size) (hne : h i j ≠ 0#8) (a4 : Int) (B : Nat) (hB : 20 ≤ B)
    (cont : ∀ K, B ≤ K → spec_l04Times.l1 K ts out (i : Int) (lineT h ts s i (j + 1)) ((j + 1 : Nat) : Int) a4 (k : Int) rows = R) (m : Nat) :
    ∀ (K q : Nat), q + m = s → B + m + 1 ≤ K → spec_l04Times.l2 K ts out (i : Int) (lineM h ts s i j q) (j : Int) (un (h i j)) (q : Int) a4 (k : Int) rows = R := by
  induction m with
  | zero =>
    intro K q hq hK
    obtain ⟨K, rfl⟩ : ∃ x, K = x + 1 := ⟨K - 1, by omega⟩
    obtain rfl : q = s := by omega
    rw [spec_l04Times.l2, if_neg (by rw [lineM_len]; omega), lineM_end, w_succ j (by omega)]
    exact cont K (by omega)
  | succ m ih =>
    intro K q hq hK
    obtain ⟨K, rfl⟩ : ∃ x, K = x + 1 := ⟨K - 1, by omega⟩
    rw [spec_l04Times.l2, if_pos (by rw [lineM_len]; omega), if_neg (fun e => hne (un_eq_zero.1 e)), if_pos (by omega), if_pos (by omega), if_pos (by omega), rdOf_get hj, if_pos (by omega), w_tb, spec_l02Mul_f K (by omega), Option.bind_some, mod_un, rd_lineM h ts (by omega), xor8, Int.toNat_natCast, w_succ q (by omega), Gf.mul_comm, ← sumT_succ, lineM_set]
    exact ih K (q + 1) (by omega) (by omega)
theorem times_l2z (h : Tx.H) (ts : List ByteArray) (rows : List Int) (k n s i j : Nat) (out : List ByteArray) (R : Option (List ByteArray)) (hjk : j < 1000) (h0 : h i j = 0#8) (a4 : Int) (B : Nat)
    (cont : ∀ K, B ≤ K → spec_l04Times.l1 K ts out (i : Int) (lineT h ts s i (j + 1)) ((j + 1 : Nat) : Int) a4 (k : Int) rows = R) (K : Nat) (hK : B + 1 ≤ K) : spec_l04Times.l2 K ts out (i : Int) (lineM h ts s i j 0) (j : Int) (un (h i j)) (0 : Int) a4 (k : Int) rows = R := by
  obtain ⟨K, rfl⟩ : ∃ x, K = x + 1 := ⟨K - 1, by omega⟩
  rw [lineM_zero, ← lineT_skip h0, spec_l04Times.l2, if_pos (un_eq_zero.2 h0), w_succ j (by omega)]
  by_cases hc : (0 : Int) < ((lineT h ts s i (j + 1)).length : Int)
  · rw [if_pos hc]
    exact cont K (by omega)
  · rw [if_neg hc]
    exact cont K (by omega)
theorem times_l1 (h : Tx.H) (ts : List ByteArray) (k n s i : Nat) (out : List ByteArray) (R : Option (List ByteArray)) (hs : s ≤ 1000000) (hk : k ≤ ts.length) (hk2 : k ≤ 16) (hn : n ≤ 16) (hin : i < n) (hsz : ∀ j, j < k → s ≤ (txt ts j).size) (ho : out.length ≤ 1000) (a4 : Int) (B : Nat) (hB : 20 ≤ B)
    (cont : ∀ K, B ≤ K → spec_l04Times.l0 K ts (out ++ [strOfNums (lineT h ts s i k)]) ((i + 1 : Nat) : Int) a4 (k : Int) (gridT h k n) = R) (m : Nat) :
    ∀ (K j : Nat), j + m = k → B + m * (s + 2) + 1 ≤ K → spec_l04Times.l1 K ts out (i : Int) (lineT h ts s i j) (j : Int) a4 (k : Int) (gridT h k n) = R := by
  induction m with
  | zero =>
    intro K j hj hK
    obtain ⟨K, rfl⟩ : ∃ x, K = x + 1 := ⟨K - 1, by omega⟩
    obtain rfl : j = k := by omega
    rw [spec_l04Times.l1, if_neg (by omega), if_pos (by omega), w_succ i (by omega)]
    exact cont K (by omega)
  | succ m ih =>
    intro K j hj hK
    rw [Nat.succ_mul] at hK
    obtain ⟨K, rfl⟩ : ∃ x, K = x + 1 := ⟨K - 1, by omega⟩
    have hst := step_le k hin
    have hnk := side_le hn hk2
    rw [spec_l04Times.l1, if_pos (by omega), w_mul i k (by omega), ← Int.natCast_add, w_nat (i * k + j) (by omega), if_pos (by omega), if_pos (by rw [gridT_len]; omega), rd_gridT h hin (by omega), ← lineM_zero]
    by_cases h0 : h i j = 0#8
    · exact times_l2z h ts _ k n s i j out R (by omega) h0 a4 (B + m * (s + 2) + 1) (fun K' hK' => ih K' (j + 1) (by omega) (by omega)) K (by omega)
    · exact times_l2 h ts _ k n s i j out R hs (by omega) (by omega) (hsz j (by omega)) h0 a4 (B + m * (s + 2) + 1) (by omega) (fun K' hK' => ih K' (j + 1) (by omega) (by omega)) s K 0 (by omega) (by omega)
theorem times_l0 (h : Tx.H) (ts : List ByteArray) (k n s : Nat) (hs : s ≤ 1000000) (hk0 : 0 < k) (hk : k ≤ ts.length) (hk2 : k ≤ 16) (hn : n ≤ 16) (h0 : (txt ts 0).size = s) (hsz : ∀ j, j < k → s ≤ (txt ts j).size) (m : Nat) :
    ∀ (K i : Nat), i + m = n → 20 + m * (k * (s + 2) + 2) + 1 ≤ K → spec_l04Times.l0 K ts (timesT h ts s k i) (i : Int) (n : Int) (k : Int) (gridT h k n) = some (timesT h ts s k n) := by
  induction m with
  | zero =>
    intro K i hi hK
    obtain ⟨K, rfl⟩ : ∃ x, K = x + 1 := ⟨K - 1, by omega⟩
    obtain rfl : i = n := by omega
    rw [spec_l04Times.l0, if_neg (by omega)]
  | succ m ih =>
    intro K i hi hK
    rw [Nat.succ_mul] at hK
    obtain ⟨K, rfl⟩ : ∃ x, K = x + 1 := ⟨K - 1, by omega⟩
    have e0 : rdOf ByteArray.empty ts 0 = txt ts 0 := rdOf_get (j := 0) (by omega)
    rw [spec_l04Times.l0, if_pos (by omega), if_pos (by omega), e0, h0, if_pos (by omega), Int.toNat_natCast, if_pos (by omega), lineT_zero h ts s i]
    exact times_l1 h ts k n s i (timesT h ts s k i) _ hs hk hk2 hn (by omega) hsz (by rw [timesT_len]; omega) (n : Int) (20 + m * (k * (s + 2) + 2) + 1) (by omega) (fun K' hK' => by rw [timesT_succ]; exact ih K' (i + 1) (by omega) (by omega)) k K 0 (by omega) (by omega)
theorem times_eq (h : Tx.H) (ts : List ByteArray) (k n s : Nat) (hs : s ≤ 1000000) (hk0 : 0 < k) (hk : k ≤ ts.length) (hk2 : k ≤ 16) (hn : n ≤ 16) (h0 : (txt ts 0).size = s) (hsz : ∀ j, j < k → s ≤ (txt ts j).size) (K : Nat) (hK : 20 + n * (k * (s + 2) + 2) + 1 ≤ K) :
    spec_l04Times.f K (n : Int) (k : Int) (gridT h k n) ts = some (timesT h ts s k n) := by
  unfold spec_l04Times.f
  exact times_l0 h ts k n s hs hk0 hk hk2 hn h0 hsz n K 0 (by omega) hK
def natL (rs : List Nat) : List Int := rs.map (fun r : Nat => (r : Int))
theorem natL_len (rs : List Nat) : (natL rs).length = rs.length := List.length_map _
theorem natL_add (rs : List Nat) (i : Nat) : natL rs ++ [(i : Int)] = natL (rs ++ [i]) := by unfold natL; rw [List.map_append, List.map_singleton]
def shd (ss : List S112) (i : Nat) : S112 := rd_T112 ss (i : Int)
/-- The first k shards that are there, by their places. -/
def goT (ss : List S112) (k : Nat) : Nat → Nat → List Nat → List Nat
  | 0, _, rs => rs
  | d + 1, i, rs => goT ss k d (i + 1) (if (shd ss i).f0 = true ∧ rs.length < k then rs ++ [i] else rs)
def txtsT (ss : List S112) (rs : List Nat) : List ByteArray := rs.map fun r => (shd ss r).f1
theorem goT_full (ss : List S112) (k : Nat) : ∀ (d i : Nat) (rs : List Nat), k ≤ rs.length → goT ss k d i rs = rs := by
  intro d
  induction d with
  | zero => intro i rs _; rfl
  | succ d ih =>
    intro i rs h
    unfold goT
    rw [if_neg (fun e => by omega)]
    exact ih (i + 1) rs h
theorem goT_ok (ss : List S112) (k : Nat) : ∀ (d i : Nat) (rs : List Nat), rs.length ≤ k → rs.Nodup → (∀ r ∈ rs, r < i ∧ (shd ss r).f0 = true) →
    (goT ss k d i rs).length ≤ k ∧ (goT ss k d i rs).Nodup ∧ ∀ r ∈ goT ss k d i rs, r < i + d ∧ (shd ss r).f0 = true := by
  intro d
  induction d with
  | zero => intro i rs h1 h2 h3; exact ⟨h1, h2, h3⟩
  | succ d ih =>
    intro i rs h1 h2 h3
    unfold goT
    by_cases h : (shd ss i).f0 = true ∧ rs.length < k
    · rw [if_pos h]
      have := ih (i + 1) (rs ++ [i]) (by simp; omega) (by
        rw [List.nodup_append]
        refine ⟨h2, by simp, ?_⟩
        intro a ha b hb
        have := (h3 a ha).1
        rw [List.mem_singleton] at hb
        omega) (by
        intro r hr
        rcases List.mem_append.1 hr with hr | hr
        · exact ⟨by have := (h3 r hr).1; omega, (h3 r hr).2⟩
        · rw [List.mem_singleton] at hr
          subst hr
          exact ⟨by omega, h.1⟩)
      rw [show i + 1 + d = i + (d + 1) by omega] at this
      exact this
    · rw [if_neg h]
      have := ih (i + 1) rs h1 h2 (fun r hr => ⟨by have := (h3 r hr).1; omega, (h3 r hr).2⟩)
      rw [show i + 1 + d = i + (d + 1) by omega] at this
      exact this
theorem txtsT_len (ss : List S112) (rs : List Nat) : (txtsT ss rs).length = rs.length := List.length_map _
theorem txtsT_add (ss : List S112) (rs : List Nat) (i : Nat) : txtsT ss rs ++ [(rd_T112 ss (i : Int)).f1] = txtsT ss (rs ++ [i]) := by unfold txtsT; rw [List.map_append, List.map_singleton]; rfl
theorem spec_go (ss : List S112) (k m : Nat) (hn : ss.length = k + m) (hs : k + m ≤ 14) (R : Option (List ByteArray × Bool)) (B : Nat) (d : Nat) : ∀ (K i : Nat) (rs : List Nat), i + d = k + m → rs.length ≤ k → B + 2 * d + 2 ≤ K →
    (∀ K' i' : Nat, B ≤ K' → spec_l04Data.j1 (K' + 1) (k : Int) (m : Int) ss (natL (goT ss k d i rs)) (txtsT ss (goT ss k d i rs)) (i' : Int) false = R) →
    spec_l04Data.l0 K (k : Int) (m : Int) ss (natL rs) (txtsT ss rs) (i : Int) = R := by
  induction d with
  | zero =>
    intro K i rs hi hr hK cont
    obtain ⟨K, rfl⟩ : ∃ q, K = q + 2 := ⟨K - 2, by omega⟩
    rw [spec_l04Data.l0, ← Int.natCast_add, w_nat (k + m) (by omega), if_neg (by omega)]
    exact cont K i (by omega)
  | succ d ih =>
    intro K i rs hi hr hK cont
    obtain ⟨K, rfl⟩ : ∃ q, K = q + 2 := ⟨K - 2, by omega⟩
    rw [spec_l04Data.l0, ← Int.natCast_add, w_nat (k + m) (by omega), if_pos (by omega), natL_len]
    by_cases h : rs.length < k
    · rw [decide_eq_true (show (rs.length : Int) < (k : Int) by omega), spec_l04Data.j1, if_pos rfl, if_pos (by omega), if_pos (by omega), w_succ i (by omega)]
      unfold goT shd at cont
      by_cases h2 : (rd_T112 ss (i : Int)).f0 = true
      · have c1 : (natL rs).length < 17592186044416 := by rw [natL_len]; omega
        have c2 : (txtsT ss rs).length < 8796093022208 := by rw [txtsT_len]; omega
        rw [if_pos ⟨h2, h⟩] at cont
        rw [if_pos h2, if_pos c1, if_pos c2, natL_add, txtsT_add]
        exact ih K (i + 1) (rs ++ [i]) (by omega) (by simp; omega) (by omega) cont
      · rw [if_neg (fun e => h2 e.1)] at cont
        rw [if_neg h2]
        exact ih K (i + 1) rs (by omega) hr (by omega) cont
    · rw [decide_eq_false (show ¬ (rs.length : Int) < (k : Int) by omega)]
      rw [goT_full ss k (d + 1) i rs (by omega)] at cont
      exact cont K i (by omega)
theorem impl_go (ss : List S112) (k m : Nat) (hn : ss.length = k + m) (hs : k + m ≤ 14) (R : Option (List ByteArray × Bool)) (B : Nat) (d : Nat) : ∀ (K i : Nat) (rs : List Nat), i + d = k + m → rs.length ≤ k → B + d + 2 ≤ K →
    (∀ K' : Nat, B ≤ K' → impl_remade.l0 (K' + 1) (k : Int) (m : Int) (natL (goT ss k d i rs)) (txtsT ss (goT ss k d i rs)) ss (ss.length : Int) (ss.length : Int) = R) →
    impl_remade.l0 K (k : Int) (m : Int) (natL rs) (txtsT ss rs) ss (ss.length : Int) (i : Int) = R := by
  induction d with
  | zero =>
    intro K i rs hi hr hK cont
    obtain ⟨K, rfl⟩ : ∃ q, K = q + 1 := ⟨K - 1, by omega⟩
    obtain rfl : i = ss.length := by omega
    exact cont K (by omega)
  | succ d ih =>
    intro K i rs hi hr hK cont
    obtain ⟨K, rfl⟩ : ∃ q, K = q + 1 := ⟨K - 1, by omega⟩
    unfold goT shd at cont
    rw [impl_remade.l0, if_pos (by omega), if_pos (by omega), if_pos (by omega), w_succ i (by omega)]
    by_cases h2 : (rd_T112 ss (i : Int)).f0 = true
    · rw [if_pos h2]
      unfold impl_size_int64_67.f
      rw [Option.bind_some, natL_len]
      by_cases h : rs.length < k
      · rw [if_pos ⟨h2, h⟩] at cont
        rw [if_pos (by omega), Option.bind_some, if_pos (by simp; omega), Option.bind_some, if_pos (by rw [txtsT_len]; simp; omega), natL_add, txtsT_add]
        exact ih K (i + 1) (rs ++ [i]) (by omega) (by simp; omega) (by omega) cont
      · rw [if_neg (fun e => h e.2)] at cont
        rw [if_neg (by omega)]
        exact ih K (i + 1) rs (by omega) hr (by omega) cont
    · rw [if_neg (fun e => h2 e.1)] at cont
      rw [if_neg h2]
      exact ih K (i + 1) rs (by omega) hr (by omega) cont
def wrongT (ss : List S112) (s : Nat) : Nat → Nat → Bool
  | 0, _ => false
  | d + 1, i => ((shd ss i).f0 && ((shd ss i).f1.size != s)) || wrongT ss s d (i + 1)
theorem hw_eq (ss : List S112) (s i : Nat) : impl_hasWrong_1.f (rd_T112 ss (i : Int)).f0 (rd_T112 ss (i : Int)).f1 (s : Int) = some ((shd ss i).f0 && ((shd ss i).f1.size != s)) := by
  unfold impl_hasWrong_1.f impl_long.f shd
  by_cases h : (rd_T112 ss (i : Int)).f0 = true
  · rw [if_pos h, Option.bind_some, h, Bool.true_and]
    congr 1
    by_cases e : ((rd_T112 ss (i : Int)).f1).size = s
    · rw [e]
      simp
    · rw [bne_iff_ne.2 e, bne_iff_ne.2 (by omega)]
  · rw [if_neg h, Bool.eq_false_iff.2 h, Bool.false_and]
theorem index_wrong (ss : List S112) (hn : ss.length ≤ 1000) (s : Nat) (d : Nat) : ∀ (K i : Nat), i + d = ss.length → d + 1 ≤ K → ∃ v : Int, impl_Shard_110.l0 K ss (s : Int) (ss.length : Int) (i : Int) = some v ∧ decide (v ≥ 0) = wrongT ss s d i := by
  induction d with
  | zero =>
    intro K i hi hK
    obtain ⟨K, rfl⟩ : ∃ q, K = q + 1 := ⟨K - 1, by omega⟩
    exact ⟨-1, by rw [impl_Shard_110.l0, if_neg (by omega)], rfl⟩
  | succ d ih =>
    intro K i hi hK
    obtain ⟨K, rfl⟩ : ∃ q, K = q + 1 := ⟨K - 1, by omega⟩
    obtain ⟨v, e1, e2⟩ := ih K (i + 1) (by omega) (by omega)
    rw [impl_Shard_110.l0, if_pos (by omega), if_pos (by omega), if_pos (by omega), hw_eq, Option.bind_some, w_succ i (by omega)]
    unfold wrongT
    cases hb : ((shd ss i).f0 && ((shd ss i).f1.size != s))
    · exact ⟨v, by rw [if_neg (by simp)]; exact e1, by rw [e2, Bool.false_or]⟩
    · exact ⟨(i : Int), if_pos rfl, by rw [decide_eq_true (by omega), Bool.true_or]⟩
theorem hasWrong_eq (ss : List S112) (hn : ss.length ≤ 1000) (s : Nat) (K : Nat) (hK : 2000 ≤ K) : impl_hasWrong.f K ss (s : Int) = some (wrongT ss s ss.length 0) := by
  unfold impl_hasWrong.f impl_Shard_138.f impl_Shard_110.f
  obtain ⟨v, e1, e2⟩ := index_wrong ss hn s ss.length K 0 (by omega) (by omega)
  rw [show (0 : Int) = ((0 : Nat) : Int) from rfl, e1, Option.bind_some, Option.bind_some]
  exact congrArg some e2
theorem okM_in {l : List Int} {r c : Nat} (r1 : 1 ≤ r) (r2 : r ≤ 16) (c1 : 1 ≤ c) (c2 : c ≤ 16) (hl : l.length = r * c) (hb : Bytes l) : okM (r : Int) (c : Int) l = true := by
  unfold okM
  rw [Bool.and_eq_true, decide_eq_true_iff, List.all_eq_true]
  refine ⟨⟨by omega, by omega, by omega, by omega, by rw [hl, Int.natCast_mul]⟩, fun x hx => ?_⟩
  unfold byteB
  rw [Bool.and_eq_true, decide_eq_true_iff, decide_eq_true_iff]
  exact hb x hx
def pickH (k : Nat) (rs : List Nat) : Rd.H := fun i j => cauchyB k (rs.getD i 0) j
theorem picked_eq {k m : Nat} {rs : List Nat} (hlt : ∀ r ∈ rs, r < k + m) : (rowsOf (cauchyL k m) k (natL rs)).flatten = grid (fun i j => un (pickH k rs i j)) k (rs.length * k) := by
  rw [← rowsH_flat]
  congr 1
  apply List.ext_getElem?
  intro t
  unfold rowsOf natL
  rw [List.map_map]
  by_cases ht : t < rs.length
  · rw [List.getElem?_map, List.getElem?_eq_getElem ht, rowsH_get _ ht]
    show some (rowL (cauchyL k m) k ((rs[t] : Nat) : Int).toNat) = _
    rw [Int.toNat_natCast]
    unfold cauchyL
    rw [rowL_grid _ (hlt _ (List.getElem_mem ht))]
    congr 2
    funext j
    unfold pickH
    rw [List.getD_eq_getElem?_getD, List.getElem?_eq_getElem ht, Option.getD_some]
    rfl
  · rw [List.getElem?_eq_none (by simpa using ht), List.getElem?_eq_none (by rw [rowsH_len]; omega)]
theorem cell_grid (g : Rd.H) {n d i j : Nat} (hi : i < n) (hj : j < d) : cell (grid (fun i j => un (g i j)) d (n * d)) (i * d + j) = g i j := by
  have hst := step_le d hi
  unfold cell
  rw [List.getD_eq_getElem?_getD, grid_at _ hj (by omega), Option.getD_some]
  unfold un
  rw [Int.toNat_natCast]
  exact ofNat_un _
theorem picked_bytes (k : Nat) (rs : List Nat) (n : Nat) : Bytes (grid (fun i j => un (pickH k rs i j)) k n) := grid_bytes (fun _ _ => un_bd _) _ _
theorem rank_picked {k : Nat} (k1 : 1 ≤ k) (k2 : k ≤ 8) (rs : List Nat) (hl : rs.length = k) (hn : rs.Nodup) (hb : ∀ r ∈ rs, r < 16) (h : Rd.H) (hh : ∀ i j, i < k → j < k → h i j = cell (grid (fun i j => un (pickH k rs i j)) k (k * k)) (i * k + j)) :
    (red k k 0 0 h).2 = k := by
  have h1 := Ck.cauchy_full k1 (show k < 256 by omega) rs hl hn (fun r hr => by have := hb r hr; omega)
  have h2 := (red_cols (n := k) (c := k) k 0 0 h (pickH k rs) (fun i j hi hj => by rw [hh i j hi hj, cell_grid _ hi hj]) (by omega) (by omega)).2
  rw [h2]
  exact h1
def pickG (k : Nat) (rs : List Nat) : List Int := grid (fun i j => un (pickH k rs i j)) k (k * k)
/-- The inverse's cells. -/
def hI (k : Nat) (rs : List Nat) : Rd.H := shH k (red k k 0 0 (h0_inv (pickG k rs) k k)).1
theorem inv_full {k : Nat} (k1 : 1 ≤ k) (k2 : k ≤ 8) (rs : List Nat) (hl : rs.length = k) (hn : rs.Nodup) (hb : ∀ r ∈ rs, r < 16) : (red k k 0 0 (h0_inv (pickG k rs) k k)).2 = k :=
  rank_picked k1 k2 rs hl hn hb _ (fun i j hi hj => by unfold h0_inv; rw [if_pos hj]; rfl)
theorem impl_back {k : Nat} (k1 : 1 ≤ k) (k2 : k ≤ 8) (rs : List Nat) (hl : rs.length = k) (hn : rs.Nodup) (hb : ∀ r ∈ rs, r < 16) : impl_Matrix_inverse.f (k : Int) (k : Int) (pickG k rs) = some ((k : Int), (k : Int), gridT (hI k rs) k k, true) := by
  have hr' : ¬ (red k k 0 0 (h0_inv (pickG k rs) k k)).2 < k := by rw [inv_full k1 k2 rs hl hn hb]; omega
  unfold impl_Matrix_inverse.f
  rw [← okM_same, if_pos ⟨okM_in k1 (by omega) k1 (by omega) (grid_len _ _ _) (picked_bytes k rs _), rfl⟩, Int.toNat_natCast, if_neg hr']
  rfl
theorem data_get (h : Rd.H) (ts : List ByteArray) (s k : Nat) {n j : Nat} (hj : j < n) : (txt (timesT h ts s k n) j).size = s := by
  unfold txt
  rw [List.getD_eq_getElem?_getD, timesT_get h ts s k hj, Option.getD_some, strOfNums_size, lineT_len]
theorem impl_end (ss : List S112) (k m : Nat) (k1 : 1 ≤ k) (k2 : k ≤ 8) (m2 : m ≤ 6) (rs : List Nat) (hl : rs.length = k) (hn : rs.Nodup) (hb : ∀ r ∈ rs, r < k + m) (s : Nat) (hs : s ≤ 20000) (hsz : ∀ r ∈ rs, ((shd ss r).f1).size = s) (K : Nat) (hK : 5000000 ≤ K) (n : Int) :
    impl_remade.l0 (K + 1) (k : Int) (m : Int) (natL rs) (txtsT ss rs) ss n n = some (timesT (cauchyB k) (timesT (hI k rs) (txtsT ss rs) s k k) s k (k + m), true) := by
  have hall : (natL rs).all (rowOk (k + m)) = true := by
    rw [List.all_eq_true]
    intro z hz
    unfold natL at hz
    obtain ⟨r, hr, rfl⟩ := List.mem_map.1 hz
    have := hb r hr
    exact decide_eq_true (by omega)
  have hp := pick_eq (k + m) k (cauchyL k m) (natL rs) (by omega) (by omega) (cauchy_len k m) (by rw [natL_len]; omega) (by rw [natL_len]; omega) hall K (by omega)
  rw [natL_len, hl, picked_eq hb, hl] at hp
  have ht : ∀ j, j < k → (txt (txtsT ss rs) j).size = s := by
    intro j hj
    unfold txt txtsT
    rw [List.getD_eq_getElem?_getD, List.getElem?_map, List.getElem?_eq_getElem (by omega)]
    exact hsz _ (List.getElem_mem _)
  have b1 : k * (s + 2) ≤ 8 * 20002 := Nat.mul_le_mul k2 (by omega)
  have b2 : k * (k * (s + 2) + 2) ≤ 8 * (8 * 20002 + 2) := Nat.mul_le_mul k2 (by omega)
  have b3 : (k + m) * (k * (s + 2) + 2) ≤ 14 * (8 * 20002 + 2) := Nat.mul_le_mul (by omega) (by omega)
  have c1 := comb_eq (hI k rs) (txtsT ss rs) k k s (by omega) (by omega) (by rw [txtsT_len]; omega) (by omega) (by omega) (ht 0 (by omega)) (fun j h => by rw [ht j h]; exact Nat.le_refl _) K (by omega)
  have c2 := comb_eq (cauchyB k) (timesT (hI k rs) (txtsT ss rs) s k k) k (k + m) s (by omega) (by omega) (by rw [timesT_len]; exact Nat.le_refl _) (by omega) (by omega) (data_get _ _ _ _ (by omega)) (fun j h => by rw [data_get _ _ _ _ h]; exact Nat.le_refl _) K (by omega)
  rw [impl_remade.l0, if_neg (by omega)]
  unfold impl_size_int64_67.f
  rw [Option.bind_some, natL_len, if_neg (by omega), impl_cauchy_f k m k1 k2 m2 K (by omega), Option.bind_some]
  simp only []
  rw [hp, Option.bind_some]
  simp only []
  rw [show grid (fun i j => un (pickH k rs i j)) k (k * k) = pickG k rs from rfl, impl_back k1 k2 rs hl hn (fun r hr => by have := hb r hr; omega), Option.bind_some]
  simp only []
  rw [c1, Option.bind_some]
  exact (congrArg (fun o => o.bind fun t => some (t, true)) c2).trans rfl
theorem spec_end (ss : List S112) (k m : Nat) (k1 : 1 ≤ k) (k2 : k ≤ 8) (m2 : m ≤ 6) (rs : List Nat) (hl : rs.length = k) (hn : rs.Nodup) (hb : ∀ r ∈ rs, r < k + m) (s : Nat) (hs : s ≤ 20000) (hsz : ∀ r ∈ rs, ((shd ss r).f1).size = s) (K : Nat) (hK : 5000000 ≤ K) (n : Int) :
    spec_l04Data.j1 (K + 1) (k : Int) (m : Int) ss (natL rs) (txtsT ss rs) n false = some (timesT (hI k rs) (txtsT ss rs) s k k, true) := by
  have hall : (natL rs).all (rowOk (k + m)) = true := by
    rw [List.all_eq_true]
    intro z hz
    unfold natL at hz
    obtain ⟨r, hr, rfl⟩ := List.mem_map.1 hz
    have := hb r hr
    exact decide_eq_true (by omega)
  have hkk : (k + m) * k ≤ 14 * 8 := Nat.mul_le_mul (by omega) k2
  have hkk2 : k * k ≤ 8 * 8 := Nat.mul_le_mul k2 k2
  have hcl := cauchy_len k m
  have hokc : okM ((k + m : Nat) : Int) (k : Int) (cauchyL k m) = true := okM_in (by omega) (by omega) k1 (by omega) hcl (cauchy_bytes k m)
  have hres : resPick ((k + m : Nat) : Int) (k : Int) (cauchyL k m) (natL rs) = ((k : Int), (k : Int), pickG k rs, 0) := by
    unfold resPick
    rw [natL_len, hl, if_neg (by omega), Int.toNat_natCast, Int.toNat_natCast, if_pos ⟨hokc, by omega, by omega, hall⟩, picked_eq hb, hl]
    rfl
  have hlp : (pickG k rs).length = k * k := grid_len _ _ _
  have hokp : okM (k : Int) (k : Int) (pickG k rs) = true := okM_in k1 (by omega) k1 (by omega) hlp (picked_bytes k rs _)
  have hr' : ¬ (red k k 0 0 (h0_inv (pickG k rs) k k)).2 < k := by rw [inv_full k1 k2 rs hl hn (fun r hr => by have := hb r hr; omega)]; omega
  have hinv : resInv (k : Int) (k : Int) (pickG k rs) = ((k : Int), (k : Int), gridT (hI k rs) k k, 0) := by
    unfold resInv
    rw [if_pos ⟨hokp, rfl⟩, Int.toNat_natCast, if_neg hr']
    rfl
  have ht : ∀ j, j < k → (txt (txtsT ss rs) j).size = s := by
    intro j hj
    unfold txt txtsT
    rw [List.getD_eq_getElem?_getD, List.getElem?_map, List.getElem?_eq_getElem (by omega)]
    exact hsz _ (List.getElem_mem _)
  have b1 : k * (s + 2) ≤ 8 * 20002 := Nat.mul_le_mul k2 (by omega)
  have b2 : k * (k * (s + 2) + 2) ≤ 8 * (8 * 20002 + 2) := Nat.mul_le_mul k2 (by omega)
  have c1 := times_eq (hI k rs) (txtsT ss rs) k k s (by omega) (by omega) (by rw [txtsT_len]; omega) (by omega) (by omega) (ht 0 (by omega)) (fun j h => by rw [ht j h]; exact Nat.le_refl _) K (by omega)
  have hc : resCauchy (k : Int) (m : Int) = (((k + m : Nat) : Int), (k : Int), cauchyL k m, 0) := by
    unfold resCauchy
    rw [if_pos (show codeOk (k : Int) (m : Int) = true from decide_eq_true (by omega)), Int.toNat_natCast, Int.toNat_natCast, Int.natCast_add]
  rw [spec_l04Data.j1, if_neg (by simp), natL_len, if_neg (by omega), spec_cauchy _ _ (show codeOk (k : Int) (m : Int) = true from decide_eq_true (by omega)) K (by omega), Option.bind_some, hc]
  simp only []
  rw [spec_pick _ _ (cauchyL k m) (natL rs) (by omega) hokc (by rw [natL_len]; omega) (by rw [natL_len]; omega) (by rw [Int.toNat_natCast]; exact hall) K (by omega), Option.bind_some, hres]
  simp only []
  rw [spec_inv _ (pickG k rs) (by omega) hokp (by rw [Int.toNat_natCast]; exact hr') K (by omega), Option.bind_some, hinv]
  simp only []
  rw [c1, Option.bind_some]
theorem wrong_false (ss : List S112) (s : Nat) : ∀ (d i : Nat), wrongT ss s d i = false → ∀ r, i ≤ r → r < i + d → (shd ss r).f0 = true → ((shd ss r).f1).size = s := by
  intro d
  induction d with
  | zero => intro i _ r h1 h2; omega
  | succ d ih =>
    intro i h r h1 h2 h3
    unfold wrongT at h
    rw [Bool.or_eq_false_iff] at h
    by_cases e : r = i
    · subst e
      have h4 := h.1
      rw [h3, Bool.true_and, bne_eq_false_iff_eq] at h4
      exact h4
    · exact ih (i + 1) h.2 r (by omega) (by omega) h3
/-- The shards that are there, all of one size. -/
def Sized (ss : List S112) (s : Nat) : Prop := s ≤ 20000 ∧ ∀ r, r < ss.length → (shd ss r).f0 = true → ((shd ss r).f1).size = s
def goA (k m : Nat) (ss : List S112) : List Nat := goT ss k (k + m) 0 []
def sizeA (k m : Nat) (ss : List S112) : Nat := (txt (txtsT ss (goA k m ss)) 0).size
def dataA (k m : Nat) (ss : List S112) : List ByteArray := timesT (hI k (goA k m ss)) (txtsT ss (goA k m ss)) (sizeA k m ss) k k
def allA (k m : Nat) (ss : List S112) : List ByteArray := timesT (cauchyB k) (dataA k m ss) (sizeA k m ss) k (k + m)
theorem goA_ok (k m : Nat) (ss : List S112) : (goA k m ss).length ≤ k ∧ (goA k m ss).Nodup ∧ ∀ r ∈ goA k m ss, r < k + m ∧ (shd ss r).f0 = true := by
  have h := goT_ok ss k (k + m) 0 [] (Nat.zero_le _) List.nodup_nil (fun r hr => absurd hr (by simp))
  rw [Nat.zero_add] at h
  exact h
theorem goA_sized {k m : Nat} {ss : List S112} {s : Nat} (hn : ss.length = k + m) (hz : Sized ss s) : ∀ r ∈ goA k m ss, ((shd ss r).f1).size = s := fun r hr => by
  have h := (goA_ok k m ss).2.2 r hr
  exact hz.2 r (by omega) h.2
theorem sizeA_eq {k m : Nat} {ss : List S112} {s : Nat} (hn : ss.length = k + m) (hz : Sized ss s) (k1 : 1 ≤ k) (hl : (goA k m ss).length = k) : sizeA k m ss = s := by
  unfold sizeA txt txtsT
  rw [List.getD_eq_getElem?_getD, List.getElem?_map, List.getElem?_eq_getElem (by omega)]
  exact goA_sized hn hz _ (List.getElem_mem _)
theorem spec_data (ss : List S112) (k m : Nat) (k1 : 1 ≤ k) (k2 : k ≤ 8) (m2 : m ≤ 6) (hn : ss.length = k + m) (s : Nat) (hz : Sized ss s) (K : Nat) (hK : 5000100 ≤ K) :
    spec_l04Data.f K (k : Int) (m : Int) ss = some (if (goA k m ss).length < k then ([], false) else (dataA k m ss, true)) := by
  obtain ⟨g1, g2, g3⟩ := goA_ok k m ss
  unfold spec_l04Data.f
  refine spec_go ss k m hn (by omega) _ 5000000 (k + m) K 0 [] (by omega) (by simp) (by omega) (fun K' i' hK' => ?_)
  show spec_l04Data.j1 (K' + 1) (k : Int) (m : Int) ss (natL (goA k m ss)) (txtsT ss (goA k m ss)) (i' : Int) false = _
  by_cases hl : (goA k m ss).length < k
  · rw [spec_l04Data.j1, if_neg (by simp), natL_len, if_pos (by omega), if_pos hl]
  · rw [if_neg hl, spec_end ss k m k1 k2 m2 _ (by omega) g2 (fun r hr => (g3 r hr).1) s hz.1 (goA_sized hn hz) K' hK' _]
    unfold dataA
    rw [sizeA_eq hn hz k1 (by omega)]
theorem impl_data (ss : List S112) (k m : Nat) (k1 : 1 ≤ k) (k2 : k ≤ 8) (m2 : m ≤ 6) (hn : ss.length = k + m) (s : Nat) (hz : Sized ss s) (K : Nat) (hK : 5000100 ≤ K) :
    impl_remade.f K (k : Int) (m : Int) ss = some (if (goA k m ss).length < k then ([], false) else (allA k m ss, true)) := by
  obtain ⟨g1, g2, g3⟩ := goA_ok k m ss
  unfold impl_remade.f
  refine impl_go ss k m hn (by omega) _ 5000000 (k + m) K 0 [] (by omega) (by simp) (by omega) (fun K' hK' => ?_)
  show impl_remade.l0 (K' + 1) (k : Int) (m : Int) (natL (goA k m ss)) (txtsT ss (goA k m ss)) ss (ss.length : Int) (ss.length : Int) = _
  by_cases hl : (goA k m ss).length < k
  · rw [impl_remade.l0, if_neg (by omega)]
    unfold impl_size_int64_67.f
    rw [Option.bind_some, natL_len, if_pos (by omega), if_pos hl]
  · rw [if_neg hl, impl_end ss k m k1 k2 m2 _ (by omega) g2 (fun r hr => (g3 r hr).1) s hz.1 (goA_sized hn hz) K' hK' _]
    unfold allA dataA
    rw [sizeA_eq hn hz k1 (by omega)]
theorem allA_len (k m : Nat) (ss : List S112) : (allA k m ss).length = k + m := timesT_len _ _ _ _ _
def shT (x : S111) : S112 := ⟨x.f0, x.f1⟩
theorem rd111_get (l : List S111) (i : Nat) (h : i < l.length) : rd_T111 l (i : Int) = l[i] := by
  unfold rd_T111
  rw [Int.toNat_natCast, List.getD_eq_getElem?_getD, List.getElem?_eq_getElem h, Option.getD_some]
theorem szSh_l0 (l : List S111) (hl : l.length ≤ 1000000000) (d : Nat) : ∀ (k i : Nat) (x : Int), i + d = l.length → d + 1 ≤ k → ∃ v, laws_szShardS.l0 k l x (i : Int) = some v := by
  induction d with
  | zero =>
    intro k i x hi hk
    obtain ⟨k, rfl⟩ : ∃ m, k = m + 1 := ⟨k - 1, by omega⟩
    exact ⟨x, by rw [laws_szShardS.l0, if_neg (by omega)]⟩
  | succ d ih =>
    intro k i x hi hk
    obtain ⟨k, rfl⟩ : ∃ m, k = m + 1 := ⟨k - 1, by omega⟩
    rw [laws_szShardS.l0, if_pos (by omega), if_pos (by omega), w_succ i (by omega)]
    unfold laws_szShard.f
    by_cases h : wrap64 (x - (((rd_T111 l (i : Int)).f1).size : Int)) < 0
    · rw [if_pos h, Option.bind_some]
      exact ⟨-1, if_pos (by omega)⟩
    · rw [if_neg h, Option.bind_some, if_neg h]
      exact ih k (i + 1) _ (by omega) (by omega)
theorem szShards (l : List S111) (hl : l.length ≤ maxLen) (k : Nat) (hk : 1048576 + 1 ≤ k) : ∃ v, laws_szShardS.f k l 1048576 = some v ∧ (v < 0 ∨ l.length ≤ 1048576) := by
  unfold maxLen at hl
  unfold laws_szShardS.f
  rw [show wrap64 (1048576 - (l.length : Int)) = 1048576 - (l.length : Int) by unfold wrap64; omega]
  by_cases h : (1048576 : Int) - (l.length : Int) < 0
  · rw [if_pos h]
    exact ⟨-1, rfl, .inl (by omega)⟩
  · rw [if_neg h]
    obtain ⟨v, hv⟩ := szSh_l0 l (by omega) l.length k 0 (1048576 - (l.length : Int)) (by omega) (by omega)
    exact ⟨v, hv, .inr (by omega)⟩
theorem toSh_l0 (l : List S111) (hl : l.length ≤ 1000000000) (d : Nat) : ∀ (k i : Nat) (m : List S112), i + d = l.length → m.length = l.length → (∀ j, j < i → m[j]? = (l.map shT)[j]?) → d + 1 ≤ k → laws_toShardS.l0 k l m (i : Int) = some (l.map shT) := by
  induction d with
  | zero =>
    intro k i m hi hm hj hk
    obtain ⟨k, rfl⟩ : ∃ m, k = m + 1 := ⟨k - 1, by omega⟩
    rw [laws_toShardS.l0, if_neg (by omega)]
    congr 1
    apply List.ext_getElem?
    intro j
    by_cases h : j < i
    · exact hj j h
    · rw [List.getElem?_eq_none (by omega), List.getElem?_eq_none (by rw [List.length_map]; omega)]
  | succ d ih =>
    intro k i m hi hm hj hk
    obtain ⟨k, rfl⟩ : ∃ m, k = m + 1 := ⟨k - 1, by omega⟩
    unfold laws_toShardS.l0 laws_toShard.f
    rw [if_pos (by omega), if_pos (by omega), Option.bind_some, if_pos (by omega), rd111_get l i (by omega), Int.toNat_natCast, w_succ i (by omega)]
    refine ih k (i + 1) _ (by omega) (by rw [List.length_set]; exact hm) ?_ (by omega)
    intro j hji
    by_cases h : j = i
    · subst h
      rw [List.getElem?_set_self (by omega), List.getElem?_map, List.getElem?_eq_getElem (by omega)]
      rfl
    · rw [List.getElem?_set_ne (by omega)]
      exact hj j (by omega)
theorem toShards (l : List S111) (hl : l.length ≤ 1000000000) (k : Nat) (hk : l.length + 1 ≤ k) : laws_toShardS.f k l = some (l.map shT) := by
  unfold laws_toShardS.f
  rw [if_pos (by omega), if_pos (by omega), Int.toNat_natCast]
  exact toSh_l0 l hl l.length k 0 _ (by omega) (by simp) (fun j hj => absurd hj (by omega)) hk
theorem eqSh_l0 (l : List S112) (hl : l.length ≤ 1000000000) (d : Nat) : ∀ (k i : Nat), i + d = l.length → d + 1 ≤ k → laws_eqShardS.l0 k l l (i : Int) = some true := by
  induction d with
  | zero =>
    intro k i hi hk
    obtain ⟨k, rfl⟩ : ∃ m, k = m + 1 := ⟨k - 1, by omega⟩
    rw [laws_eqShardS.l0, if_neg (by omega)]
  | succ d ih =>
    intro k i hi hk
    obtain ⟨k, rfl⟩ : ∃ m, k = m + 1 := ⟨k - 1, by omega⟩
    unfold laws_eqShardS.l0 laws_eqShard.f
    rw [if_pos (by omega), if_pos (by omega), if_pos (by omega), if_neg (by simp), if_pos rfl, Option.bind_some, if_pos rfl, w_succ i (by omega)]
    exact ih k (i + 1) (by omega) (by omega)
theorem eqShards_ (l : List S112) (hl : l.length ≤ 1000000000) (k : Nat) (hk : l.length + 1 ≤ k) : laws_eqShardS.f k l l = some true := by
  unfold laws_eqShardS.f
  rw [if_pos rfl]
  exact eqSh_l0 l hl l.length k 0 (by omega) hk
theorem extract_piece (z : ByteArray) (a b : Nat) : z.extract a b = strOfNums (((bytesOf z).take b).drop a) := by
  unfold bytesOf
  rw [← List.map_take, ← List.map_drop, Go.Lib.Lz.strOfNums_map]
  apply ByteArray.ext
  rw [ByteArray.data_extract]
  apply Array.ext'
  rw [Array.toList_extract, List.extract_eq_take_drop, List.drop_take]
def sizeOf_ (L k : Nat) : Nat := (L + k - 1) / k
theorem sizeOf_bd {L k : Nat} (k1 : 1 ≤ k) : L ≤ sizeOf_ L k * k ∧ sizeOf_ L k * k ≤ L + k - 1 ∧ sizeOf_ L k ≤ L + k - 1 := by
  have h1 := Nat.div_mul_le_self (L + k - 1) k
  have h2 := Nat.lt_div_mul_add (a := L + k - 1) (b := k) (by omega)
  have h3 := Nat.div_le_self (L + k - 1) k
  unfold sizeOf_
  omega
theorem tdiv_size {L k : Nat} (k1 : 1 ≤ k) (k2 : k ≤ 8) (hL : L ≤ 20000) : wrap64 (Int.tdiv (wrap64 ((wrap64 ((L : Int) + (k : Int))) - 1)) (k : Int)) = (sizeOf_ L k : Int) := by
  have h3 := (sizeOf_bd (L := L) k1).2.2
  have e1 : wrap64 ((wrap64 ((L : Int) + (k : Int))) - 1) = ((L + k - 1 : Nat) : Int) := by
    unfold wrap64
    omega
  rw [e1, ← Int.ofNat_tdiv]
  exact w_nat _ (by unfold sizeOf_ at h3; omega)
theorem spec_size {L k : Nat} (k1 : 1 ≤ k) (k2 : k ≤ 8) (hL : L ≤ 20000) : spec_ShardSize.f (k : Int) (L : Int) = some (sizeOf_ L k : Int) := by
  unfold spec_ShardSize.f spec_l04Size.f
  rw [spec_codeRight, Option.bind_some, if_pos (show codeOk (k : Int) 0 = true from decide_eq_true (by omega)), if_pos (by omega), Option.bind_some, if_pos (decide_eq_true (by omega)), if_neg (by omega), tdiv_size k1 k2 hL]
theorem impl_size {L k : Nat} (k1 : 1 ≤ k) (k2 : k ≤ 8) (hL : L ≤ 20000) : impl_ShardSize.f (k : Int) (L : Int) = some (sizeOf_ L k : Int) := by
  unfold impl_ShardSize.f impl_within.f
  rw [if_pos (by omega), Option.bind_some, if_pos (decide_eq_true (by omega)), if_pos (by omega), Option.bind_some, if_pos (decide_eq_true (by omega)), if_neg (by omega), tdiv_size k1 k2 hL]
theorem bytesOf_back (t : ByteArray) : strOfNums (bytesOf t) = t := by
  unfold bytesOf
  rw [Go.Lib.Lz.strOfNums_map]
theorem bt_get (t : ByteArray) (p : Nat) (hp : p < (bytesOf t).length) : bt t (p : Int) = (bytesOf t)[p] := by
  have h := rd_bytesOf t (p : Int)
  unfold rd at h
  rw [Int.toNat_natCast, List.getD_eq_getElem?_getD, List.getElem?_eq_getElem hp, Option.getD_some] at h
  exact h.symm
theorem sizeOf_le {L k : Nat} (k1 : 1 ≤ k) (k2 : k ≤ 8) (hL : L ≤ 20000) : sizeOf_ L k ≤ 20000 := by
  obtain ⟨h1, h2, h3⟩ := sizeOf_bd (L := L) k1
  refine Nat.le_of_not_lt (fun h => ?_)
  have h4 : 20001 * k ≤ sizeOf_ L k * k := Nat.mul_le_mul_right k h
  omega
/-- A shard that is there and has not the size s. -/
theorem spec_size_l0 (ss : List S112) (hn : ss.length ≤ 1000) (k L : Nat) (k1 : 1 ≤ k) (k2 : k ≤ 8) (hL : L ≤ 20000) (b : Int) (R : Option (ByteArray × Int)) (B : Nat) (d : Nat) :
    ∀ (K i : Nat), i + d = ss.length → B + d + 1 ≤ K → (wrongT ss (sizeOf_ L k) d i = false → ∀ K' : Nat, B ≤ K' → spec_Decode.l0 (K' + 1) (k : Int) b (L : Int) ss (ss.length : Int) = R) → spec_Decode.l0 K (k : Int) b (L : Int) ss (i : Int) = if wrongT ss (sizeOf_ L k) d i = true then some (⟨#[]⟩, 2) else R := by
  induction d with
  | zero =>
    intro K i hi hK cont
    obtain ⟨K, rfl⟩ : ∃ q, K = q + 1 := ⟨K - 1, by omega⟩
    obtain rfl : i = ss.length := by omega
    exact cont rfl K (by omega)
  | succ d ih =>
    intro K i hi hK cont
    obtain ⟨K, rfl⟩ : ∃ q, K = q + 1 := ⟨K - 1, by omega⟩
    rw [spec_Decode.l0, if_pos (by omega), if_pos (by omega)]
    unfold wrongT shd at cont ⊢
    by_cases h2 : (rd_T112 ss (i : Int)).f0 = true
    · rw [h2, Bool.true_and] at cont
      rw [if_pos h2, spec_size k1 k2 hL, Option.bind_some, h2, Bool.true_and]
      by_cases h4 : ((rd_T112 ss (i : Int)).f1).size = sizeOf_ L k
      · rw [if_pos (by rw [h4]), w_succ i (by omega), ih K (i + 1) (by omega) (by omega) (fun h => cont (by rw [h, h4]; simp)), h4]
        simp
      · rw [if_neg (by omega), if_pos (by rw [bne_iff_ne.2 h4, Bool.true_or])]
    · rw [Bool.eq_false_iff.2 h2, Bool.false_and, Bool.false_or] at cont
      rw [if_neg h2, w_succ i (by omega), ih K (i + 1) (by omega) (by omega) cont, Bool.eq_false_iff.2 h2, Bool.false_and, Bool.false_or]
theorem wrong_sized {ss : List S112} {s : Nat} (hs : s ≤ 20000) (h : wrongT ss s ss.length 0 = false) : Sized ss s := ⟨hs, fun r hr => wrong_false ss s ss.length 0 h r (Nat.zero_le _) (by omega)⟩
/-- The texts from i on (d of them), one behind the other, behind xs. -/
theorem join_l1 (L : Int) (ts : List ByteArray) (s : Nat) (hs : s ≤ 20000) (hn : ts.length ≤ 8) (hsz : ∀ j, j < ts.length → (txt ts j).size = s) (d : Nat) : ∀ (K i : Nat) (xs : List Int), i + d = ts.length → xs.length ≤ i * 20000 → d + 1 ≤ K →
    spec_Decode.l1 K L ts xs (i : Int) = if 0 ≤ L then (if L ≤ ((xs ++ ((ts.drop i).map bytesOf).flatten).length : Int) then some (strOfNums ((xs ++ ((ts.drop i).map bytesOf).flatten).take L.toNat), 0) else none) else none := by
  induction d with
  | zero =>
    intro K i xs hi hx hK
    obtain ⟨K, rfl⟩ : ∃ q, K = q + 1 := ⟨K - 1, by omega⟩
    rw [spec_Decode.l1, if_neg (by omega), List.drop_of_length_le (by omega), List.map_nil, List.flatten_nil, List.append_nil]
  | succ d ih =>
    intro K i xs hi hx hK
    obtain ⟨K, rfl⟩ : ∃ q, K = q + 1 := ⟨K - 1, by omega⟩
    have h8 : i * 20000 ≤ 8 * 20000 := Nat.mul_le_mul (by omega) (Nat.le_refl _)
    have hz := hsz i (by omega)
    have hd : ts.drop i = txt ts i :: ts.drop (i + 1) := by
      rw [List.drop_eq_getElem_cons (show i < ts.length by omega)]
      unfold txt
      rw [List.getD_eq_getElem?_getD, List.getElem?_eq_getElem (by omega), Option.getD_some]
    rw [spec_Decode.l1, if_pos (by omega), if_pos (by omega), rdOf_get (by omega), hz, if_pos (by omega), w_succ i (by omega),
      ih K (i + 1) _ (by omega) (by rw [List.length_append, bytesOf_length, hz, Nat.succ_mul]; omega) (by omega), hd, List.map_cons, List.flatten_cons, List.append_assoc]
theorem flat_bytes (l : List ByteArray) : bytesOf (Jn.flatT l) = (l.map bytesOf).flatten := by
  unfold Jn.flatT bytesOf
  show ((l.map (·.data.toList)).flatten.toArray.toList).map _ = _
  rw [List.toList_toArray, List.map_flatten, List.map_map]
  rfl
theorem flat_len (l : List ByteArray) (s : Nat) (h : ∀ j, j < l.length → (txt l j).size = s) : (Jn.flatT l).size = l.length * s := by
  rw [← bytesOf_length, flat_bytes]
  have : ∀ x ∈ l, x.size = s := fun x hx => by
    obtain ⟨i, hi, rfl⟩ := List.getElem_of_mem hx
    have := h i hi
    unfold txt at this
    rw [List.getD_eq_getElem?_getD, List.getElem?_eq_getElem hi, Option.getD_some] at this
    exact this
  clear h
  induction l with
  | nil => simp
  | cons a t ih =>
    rw [List.map_cons, List.flatten_cons, List.length_append, bytesOf_length, this a (List.mem_cons_self ..), ih (fun x hx => this x (List.mem_cons_of_mem _ hx)), List.length_cons, Nat.succ_mul, Nat.add_comm]
/-- The first k texts of all are the data themselves. -/
theorem take_all (ts : List ByteArray) (s k m : Nat) (hl : ts.length = k) (hsz : ∀ j, j < k → (txt ts j).size = s) : (timesT (cauchyB k) ts s k (k + m)).take k = ts := by
  apply List.ext_getElem?
  intro i
  by_cases hi : i < k
  · rw [List.getElem?_take_of_lt hi, timesT_get _ _ _ _ (show i < k + m by omega), List.getElem?_eq_getElem (by omega)]
    congr 1
    have ht : txt ts i = ts[i]'(by omega) := by
      unfold txt
      rw [List.getD_eq_getElem?_getD, List.getElem?_eq_getElem (by omega), Option.getD_some]
    have hz := hsz i hi
    rw [← ht]
    have e : lineT (cauchyB k) ts s i k = bytesOf (txt ts i) := by
      apply List.ext_getElem?
      intro p
      unfold lineT
      by_cases hp : p < s
      · rw [line_get _ hp]
        have hs : sumT (cauchyB k) ts i p k = tb (txt ts i) p := by
          unfold sumT
          rw [Ck.S_one hi (fun j hj hne => by
            unfold cauchyB
            rw [if_pos hi, if_neg (fun e => hne e.symm), Gf.zero_mul])]
          unfold cauchyB
          rw [if_pos hi, if_pos rfl, Gf.one_mul]
        rw [hs, ← un_tb, List.getElem?_eq_getElem (show p < (bytesOf (txt ts i)).length by rw [bytesOf_length]; omega)]
        congr 1
        exact bt_get (txt ts i) p _
      · rw [List.getElem?_eq_none (by rw [line_len]; omega), List.getElem?_eq_none (by rw [bytesOf_length]; omega)]
    rw [e]
    exact bytesOf_back (txt ts i)
  · rw [List.getElem?_eq_none (by rw [List.length_take, timesT_len]; omega), List.getElem?_eq_none (by omega)]
/-- What Decode answers. -/
def resDecode (a b L : Int) (ss : List S112) : ByteArray × Int :=
  if ss.length > 400 then (⟨#[]⟩, 2) else if codeOk a b = true ∧ (0 ≤ L ∧ L ≤ 20000) ∧ (ss.length : Int) = a + b then
    (if wrongT ss (sizeOf_ L.toNat a.toNat) ss.length 0 = true then (⟨#[]⟩, 2) else if (goA a.toNat b.toNat ss).length < a.toNat then (⟨#[]⟩, 10)
     else ((Jn.flatT (dataA a.toNat b.toNat ss)).extract 0 L.toNat, 0)) else (⟨#[]⟩, 1)
theorem dataA_len (k m : Nat) (ss : List S112) : (dataA k m ss).length = k := timesT_len _ _ _ _ _
theorem dataA_size {k m : Nat} {ss : List S112} {s : Nat} (he : sizeA k m ss = s) : ∀ j, j < k → (txt (dataA k m ss) j).size = s := fun j hj => by
  unfold dataA
  rw [data_get _ _ _ _ hj, he]
theorem spec_dtail (ss : List S112) (k m L : Nat) (k1 : 1 ≤ k) (k2 : k ≤ 8) (m2 : m ≤ 6) (hL : L ≤ 20000) (hn : ss.length = k + m) (hz : Sized ss (sizeOf_ L k)) (K : Nat) (hK : 5000100 ≤ K) :
    spec_Decode.l0 (K + 1) (k : Int) (m : Int) (L : Int) ss (ss.length : Int) = some (if (goA k m ss).length < k then (⟨#[]⟩, 10) else ((Jn.flatT (dataA k m ss)).extract 0 L, 0)) := by
  rw [spec_Decode.l0, if_neg (by omega), spec_data ss k m k1 k2 m2 hn _ hz K hK, Option.bind_some]
  by_cases hl : (goA k m ss).length < k
  · rw [if_pos hl, if_pos hl, if_neg (by simp)]
  · have g := (goA_ok k m ss).1
    have he := sizeA_eq hn hz k1 (by omega)
    have hd := dataA_len k m ss
    have hs := dataA_size he
    have hf := flat_len (dataA k m ss) _ (fun j hj => hs j (by omega))
    have hb := sizeOf_bd (L := L) k1
    have hc : k * sizeOf_ L k = sizeOf_ L k * k := Nat.mul_comm _ _
    rw [if_neg hl, if_neg hl, if_pos rfl]
    have h := join_l1 (L : Int) (dataA k m ss) (sizeOf_ L k) hz.1 (by omega) (fun j hj => hs j (by omega)) k K 0 [] (by omega) (by simp) (by omega)
    rw [List.nil_append, List.drop_zero, ← flat_bytes, bytesOf_length, hf, hd, if_pos (by omega), if_pos (by omega), Int.toNat_natCast] at h
    refine Eq.trans h ?_
    rw [extract_piece]
    rfl
theorem impl_dtail (ss : List S112) (k m L : Nat) (k1 : 1 ≤ k) (k2 : k ≤ 8) (m2 : m ≤ 6) (hL : L ≤ 20000) (hn : ss.length = k + m) (K : Nat) (hK : 5000200 ≤ K) :
    impl_Decode.j0 K (k : Int) (m : Int) (L : Int) ss false = some (if wrongT ss (sizeOf_ L k) ss.length 0 = true then (⟨#[]⟩, 2) else if (goA k m ss).length < k then (⟨#[]⟩, 10) else ((Jn.flatT (dataA k m ss)).extract 0 L, 0)) := by
  obtain ⟨K, rfl⟩ : ∃ q, K = q + 1 := ⟨K - 1, by omega⟩
  have hb := sizeOf_bd (L := L) k1
  rw [impl_Decode.j0, if_neg (by simp), impl_size k1 k2 hL, Option.bind_some, hasWrong_eq ss (by omega) _ K (by omega), Option.bind_some]
  by_cases hw : wrongT ss (sizeOf_ L k) ss.length 0 = true
  · rw [if_pos hw, if_pos hw]
  · rw [Bool.not_eq_true] at hw
    have hz : Sized ss (sizeOf_ L k) := wrong_sized (sizeOf_le k1 k2 hL) hw
    rw [hw, if_neg (by simp), if_neg (by simp), impl_data ss k m k1 k2 m2 hn _ hz K (by omega), Option.bind_some]
    by_cases hl : (goA k m ss).length < k
    · rw [if_pos hl, if_pos hl, if_neg (by simp)]
    · have g := (goA_ok k m ss).1
      have he := sizeA_eq hn hz k1 (by omega)
      have hd := dataA_len k m ss
      have hs := dataA_size he
      have hf := flat_len (dataA k m ss) _ (fun j hj => hs j (by omega))
      have hc : k * sizeOf_ L k = sizeOf_ L k * k := Nat.mul_comm _ _
      have ht : (allA k m ss).take k = dataA k m ss := by
        unfold allA
        exact take_all (dataA k m ss) (sizeA k m ss) k m hd (fun j hj => dataA_size rfl j hj)
      rw [if_neg hl, if_neg hl, if_pos rfl, if_pos (by omega), if_pos (by rw [allA_len]; omega), Int.toNat_natCast, ht]
      unfold strings_Join.f
      rw [if_pos rfl, if_pos (by omega), if_pos (by rw [hf, hd]; omega), Option.bind_some, if_pos (by omega), if_pos (by rw [hf, hd]; omega), Int.toNat_natCast]
theorem spec_decode (a b L : Int) (ss : List S112) (hs : ss.length ≤ 1000000000) (K : Nat) (hK : 6000000 ≤ K) : spec_Decode.f K a b L ss = some (resDecode a b L ss) := by
  unfold spec_Decode.f resDecode spec_l04Size.f
  by_cases h0 : ss.length > 400
  · rw [if_pos (by omega), if_pos h0]
  rw [if_neg (by omega), if_neg h0, spec_codeRight, Option.bind_some]
  obtain ⟨K, rfl⟩ : ∃ q, K = q + 1 := ⟨K - 1, by omega⟩
  by_cases h1 : codeOk a b = true
  · obtain ⟨k, m, rfl, rfl, k1, k2, m2⟩ := codeOk_out h1
    rw [if_pos h1]
    by_cases hL : 0 ≤ L ∧ L ≤ 20000
    · obtain ⟨l, rfl⟩ := Int.eq_ofNat_of_zero_le hL.1
      rw [if_pos (show (l : Int) ≥ 0 from hL.1), Option.bind_some, if_pos (decide_eq_true hL.2), spec_Decode.j0, ← Int.natCast_add, w_nat (k + m) (by omega)]
      by_cases h2 : ss.length = k + m
      · rw [if_neg (by rw [h2]; simp), if_pos ⟨h1, hL, by omega⟩, Int.toNat_natCast, Int.toNat_natCast, Int.toNat_natCast]
        have h := spec_size_l0 ss (by omega) k l k1 k2 (by omega) (m : Int) (some (if (goA k m ss).length < k then (⟨#[]⟩, 10) else ((Jn.flatT (dataA k m ss)).extract 0 l, 0))) 5000100 ss.length K 0 (by omega) (by omega) (fun hw K' hK' => spec_dtail ss k m l k1 k2 m2 (by omega) h2 (wrong_sized (sizeOf_le k1 k2 (by omega)) hw) K' hK')
        refine Eq.trans h ?_
        split <;> rfl
      · rw [if_pos (by rw [bne_iff_ne]; omega), if_neg (fun h => h2 (by omega))]
    · rw [if_neg (show ¬ (codeOk (k : Int) (m : Int) = true ∧ (0 ≤ L ∧ L ≤ 20000) ∧ (ss.length : Int) = (k : Int) + (m : Int)) from fun h => hL h.2.1)]
      by_cases g : L ≥ 0
      · rw [if_pos g, Option.bind_some, if_neg (by rw [decide_eq_true_iff]; omega), spec_Decode.j0, if_pos rfl]
      · rw [if_neg g, Option.bind_some, if_neg (by simp), spec_Decode.j0, if_pos rfl]
  · rw [if_neg h1, spec_Decode.j0, if_pos rfl, if_neg (fun h => h1 h.1)]
theorem impl_decode (a b L : Int) (ss : List S112) (hs : ss.length ≤ 1000000000) (K : Nat) (hK : 6000000 ≤ K) : impl_Decode.f K a b L ss = some (resDecode a b L ss) := by
  unfold impl_Decode.f resDecode impl_Shard_108.f impl_within.f
  rw [Option.bind_some]
  by_cases h0 : ss.length > 400
  · rw [decide_eq_true (by omega), if_pos rfl, if_pos h0]
  rw [decide_eq_false (by omega), if_neg (by simp), if_neg h0, impl_codeRight, Option.bind_some]
  by_cases h1 : codeOk a b = true
  · obtain ⟨k, m, rfl, rfl, k1, k2, m2⟩ := codeOk_out h1
    rw [if_pos h1]
    by_cases hL : 0 ≤ L ∧ L ≤ 20000
    · obtain ⟨l, rfl⟩ := Int.eq_ofNat_of_zero_le hL.1
      rw [if_pos (show (l : Int) ≥ 0 from hL.1), Option.bind_some, if_pos (decide_eq_true hL.2), ← Int.natCast_add, w_nat (k + m) (by omega)]
      by_cases h2 : ss.length = k + m
      · have e : ((ss.length : Int) != ((k + m : Nat) : Int)) = false := by rw [h2]; simp
        rw [e, if_pos ⟨h1, hL, by omega⟩, Int.toNat_natCast, Int.toNat_natCast, Int.toNat_natCast, impl_dtail ss k m l k1 k2 m2 (by omega) h2 K (by omega)]
      · have e : ((ss.length : Int) != ((k + m : Nat) : Int)) = true := by rw [bne_iff_ne]; omega
        obtain ⟨K, rfl⟩ : ∃ q, K = q + 1 := ⟨K - 1, by omega⟩
        rw [e, impl_Decode.j0, if_pos rfl, if_neg (fun h => h2 (by omega))]
    · obtain ⟨K, rfl⟩ : ∃ q, K = q + 1 := ⟨K - 1, by omega⟩
      rw [if_neg (show ¬ (codeOk (k : Int) (m : Int) = true ∧ (0 ≤ L ∧ L ≤ 20000) ∧ (ss.length : Int) = (k : Int) + (m : Int)) from fun h => hL h.2.1)]
      by_cases g : L ≥ 0
      · rw [if_pos g, Option.bind_some, if_neg (by rw [decide_eq_true_iff]; omega), impl_Decode.j0, if_pos rfl]
      · rw [if_neg g, Option.bind_some, if_neg (by simp), impl_Decode.j0, if_pos rfl]
  · obtain ⟨K, rfl⟩ : ∃ q, K = q + 1 := ⟨K - 1, by omega⟩
    rw [if_neg h1, impl_Decode.j0, if_pos rfl, if_neg (fun h => h1 h.1)]
end FnExactDecode_
open FnExactDecode_
theorem FnExactDecode (a b c : Int) (l : List S111) (_ : (Lit.int .i64 a).wf = true) (_ : (Lit.int .i64 b).wf = true) (_ : (Lit.int .i64 c).wf = true) (hm : l.length ≤ maxLen) (_ : ∀ x ∈ l, x.f1.size ≤ maxLen) : ∃ k, laws_FnExactDecode.f k a b c l = some true := by
  suffices main : ∀ K : Nat, 7000000 ≤ K → laws_FnExactDecode.f K a b c l = some true from ⟨_, main 7000000 (by omega)⟩
  intro K hK
  unfold laws_FnExactDecode.f
  obtain ⟨v, hv, hv2⟩ := szShards l hm K (by omega)
  rw [hv, Option.bind_some]
  by_cases h : v < 0
  · rw [if_pos h]
  obtain ⟨ss, hss, hsl⟩ : ∃ ss, (∀ k, l.length + 1 ≤ k → laws_toShardS.f k l = some ss) ∧ ss.length = l.length := ⟨l.map shT, fun k hk => toShards l (by omega) k hk, List.length_map _⟩
  rw [if_neg h, hss K (by omega)]
  simp only [Option.bind_some]
  rw [spec_decode a b c ss (by omega) K (by omega), impl_decode a b c ss (by omega) K (by omega)]
  generalize resDecode a b c ss = R
  simp only [Option.bind_some]
  unfold laws_eqDataOut.f
  rw [if_pos rfl, if_pos rfl, eqShards_ ss (by omega) K (by omega)]
  simp only [Option.bind_some, if_true]
end Go.Proofs.Ytlololbhlnapkaa.Pure
