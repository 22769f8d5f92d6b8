/-
  The law FnCauchy, over plain values: any k rows of the matrix of a right code have an inverse. No conditions beyond the statement's own.
-/
import Derived.Test.YtlololbhlnapkaaKfAid
import Derived.Test.YtlololbhlnapkaaKfMc
import Derived.Test.YtlololbhlnapkaaKfRd
import Derived.Test.YtlololbhlnapkaaKfCk
import Derived.Test.YtlololbhlnapkaaKfXFnCauchyx11
namespace Go.Proofs.Ytlololbhlnapkaa.Pure
open Go.RowKit Go.Proofs.Ytlololbhlnapkaa.XFnCauchy Go.Proofs.Ytlololbhlnapkaa.Gf Go.Proofs.Ytlololbhlnapkaa.FieldAid Go.Proofs.Ytlololbhlnapkaa.Mp Go.Proofs.YtlololbhlnapkaaW.PrintWords Go.Proofs.YtlololbhlnapkaaW.PrintLast Go.Proofs.YtlololbhlnapkaaW.PrintMore
open Go.Proofs.Ytlololbhlnapkaa.Mc Go.Proofs.Ytlololbhlnapkaa.Rd Go.Proofs.Ytlololbhlnapkaa.Rw
set_option linter.unusedVariables false
set_option linter.unusedSimpArgs false
namespace FnCauchy_
theorem rd_get (l : List Int) (i : Nat) (h : i < l.length) : rd l (i : Int) = l[i] := by
  unfold rd
  rw [Int.toNat_natCast, List.getD_eq_getElem?_getD, List.getElem?_eq_getElem h, Option.getD_some]
theorem rdL_get (ls : List (List Int)) (i : Nat) (h : i < ls.length) : rd_L2 ls (i : Int) = ls[i] := by
  unfold rd_L2
  rw [Int.toNat_natCast, List.getD_eq_getElem?_getD, List.getElem?_eq_getElem h, Option.getD_some]
theorem flat_step (ls : List (List Int)) (i : Nat) (h : i < ls.length) : (ls.drop i).flatten = ls[i] ++ (ls.drop (i + 1)).flatten := by
  rw [List.drop_eq_getElem_cons h, List.flatten_cons]
theorem concat_l1 (ls : List (List Int)) (hl : ls.length ≤ 1000000) (d : Nat) : ∀ (k i : Nat) (out : List Int), i + d = ls.length → out.length + (ls.drop i).flatten.length ≤ 1000000 → d + 1 ≤ k →
    slices_Concat_int64_int64.l1 k out ls (ls.length : Int) (i : Int) = some (out ++ (ls.drop i).flatten) := by
  induction d with
  | zero =>
    intro k i out hi ho hk
    obtain ⟨k, rfl⟩ : ∃ m, k = m + 1 := ⟨k - 1, by omega⟩
    rw [slices_Concat_int64_int64.l1, if_neg (by omega), List.drop_of_length_le (by omega)]
    simp
  | succ d ih =>
    intro k i out hi ho hk
    obtain ⟨k, rfl⟩ : ∃ m, k = m + 1 := ⟨k - 1, by omega⟩
    have hs := flat_step ls i (by omega)
    rw [hs, List.length_append] at ho
    rw [slices_Concat_int64_int64.l1, if_pos (by omega), if_pos (by omega), if_pos (by omega), rdL_get ls i (by omega), if_pos (by omega), show wrap64 ((i : Int) + 1) = ((i + 1 : Nat) : Int) by unfold wrap64; omega,
      ih k (i + 1) _ (by omega) (by rw [List.length_append]; omega) (by omega), hs, List.append_assoc]
theorem concat_l0 (ls : List (List Int)) (hl : ls.length ≤ 1000000) (hf : ls.flatten.length ≤ 1000000) (d : Nat) : ∀ (k i n : Nat), i + d = ls.length → n + (ls.drop i).flatten.length = ls.flatten.length → d + ls.length + 2 ≤ k →
    slices_Concat_int64_int64.l0 k ls (n : Int) ls (ls.length : Int) (i : Int) = some ls.flatten := by
  induction d with
  | zero =>
    intro k i n hi ho hk
    obtain ⟨k, rfl⟩ : ∃ m, k = m + 1 := ⟨k - 1, by omega⟩
    rw [slices_Concat_int64_int64.l0, if_neg (by omega)]
    unfold slices_Grow_int64_int64.f
    rw [if_pos (by omega), if_pos (by omega), Option.bind_some]
    have h := concat_l1 ls hl ls.length k 0 [] (by omega) (by simp only [List.drop_zero, List.length_nil]; omega) (by omega)
    rw [List.drop_zero, List.nil_append] at h
    exact h
  | succ d ih =>
    intro k i n hi ho hk
    obtain ⟨k, rfl⟩ : ∃ m, k = m + 1 := ⟨k - 1, by omega⟩
    have hs := flat_step ls i (by omega)
    rw [hs, List.length_append] at ho
    rw [slices_Concat_int64_int64.l0, if_pos (by omega), if_pos (by omega), if_pos (by omega), rdL_get ls i (by omega), show wrap64 ((n : Int) + (ls[i].length : Int)) = ((n + ls[i].length : Nat) : Int) by unfold wrap64; omega, if_neg (by omega),
      show wrap64 ((i : Int) + 1) = ((i + 1 : Nat) : Int) by unfold wrap64; omega]
    exact ih k (i + 1) _ (by omega) (by omega) (by omega)
theorem concat_eq (ls : List (List Int)) (hl : ls.length ≤ 1000000) (hf : ls.flatten.length ≤ 1000000) (k : Nat) (hk : 2 * ls.length + 2 ≤ k) : slices_Concat_int64_int64.f k ls = some ls.flatten := by
  unfold slices_Concat_int64_int64.f
  exact concat_l0 ls hl hf ls.length k 0 0 (by omega) (by rw [List.drop_zero]; omega) (by omega)
theorem matrixOf_eq (ls : List (List Int)) (h0 : 0 < ls.length) (hl : ls.length ≤ 1000000) (hf : ls.flatten.length ≤ 1000000) (k : Nat) (hk : 2 * ls.length + 2 ≤ k) : impl_matrixOf.f k ls = some ((ls.length : Int), (ls[0].length : Int), ls.flatten) := by
  unfold impl_matrixOf.f impl_size_int64_144.f impl_size_int64_67.f
  rw [Option.bind_some, if_pos (by omega), Option.bind_some, concat_eq ls hl hf k hk, Option.bind_some, show (0 : Int) = ((0 : Nat) : Int) from rfl, rdL_get ls 0 h0]
theorem spec_l02Mul_l0 (k : Nat) : ∀ (a o : Gf.B) (n : Nat), n < 256 → n < 2 ^ k → spec_l02Mul.l0 (k + 1) (un a) (n : Int) (un o) = some (un (o ^^^ Gf.mul a (BitVec.ofNat 8 n))) := by
  induction k with
  | zero =>
    intro a o n _ h
    obtain rfl : n = 0 := by omega
    simp only [spec_l02Mul.l0]
    rw [if_neg (by omega), show BitVec.ofNat 8 0 = 0#8 from rfl, Gf.mul_zero, BitVec.xor_zero]
  | succ k ih =>
    intro a o n h8 h
    rw [spec_l02Mul.l0]
    by_cases h0 : n = 0
    · subst h0
      rw [if_neg (by omega), show BitVec.ofNat 8 0 = 0#8 from rfl, Gf.mul_zero, BitVec.xor_zero]
    · rw [if_pos (by omega), mul_next a o n h8]
      rw [← ih (Gf.xt a) (if n % 2 = 1 then o ^^^ a else o) (n / 2) (by omega) (by rw [Nat.pow_succ] at h; omega)]
      simp only [odd_tmod, half_tdiv n (by omega), w_2un, xor_un]
      by_cases hp : n % 2 = 1 <;> by_cases hx : un a * 2 > 255
      · rw [if_pos (by omega), if_pos hx, if_pos hp, xt_high a hx]
      · rw [if_pos (by omega), if_neg hx, if_pos hp, xt_low a hx]
      · rw [if_neg (by omega), if_pos hx, if_neg hp, xt_high a hx]
      · rw [if_neg (by omega), if_neg hx, if_neg hp, xt_low a hx]
theorem spec_l02Mul_f (k : Nat) (hk : 9 ≤ k) (a b : Gf.B) : spec_l02Mul.f k (un a) (un b) = some (un (Gf.mul a b)) := by
  obtain ⟨m, rfl⟩ : ∃ m, k = m + 1 := ⟨k - 1, by omega⟩
  have h := spec_l02Mul_l0 m a 0#8 b.toNat b.isLt (Nat.lt_of_lt_of_le b.isLt (Nat.pow_le_pow_right (by decide) (show 8 ≤ m by omega)))
  rw [ofNat_un, BitVec.zero_xor] at h
  exact h
theorem impl_mul_l0 (k : Nat) : ∀ (a o : Gf.B) (n : Nat), n < 256 → n < 2 ^ k → impl_mul.l0 (k + 1) (un a) (n : Int) (un o) = some (un (o ^^^ Gf.mul a (BitVec.ofNat 8 n))) := by
  induction k with
  | zero =>
    intro a o n _ h
    obtain rfl : n = 0 := by omega
    simp only [impl_mul.l0]
    rw [if_neg (by omega), show BitVec.ofNat 8 0 = 0#8 from rfl, Gf.mul_zero, BitVec.xor_zero]
  | succ k ih =>
    intro a o n h8 h
    rw [impl_mul.l0]
    by_cases h0 : n = 0
    · subst h0
      rw [if_neg (by omega), show BitVec.ofNat 8 0 = 0#8 from rfl, Gf.mul_zero, BitVec.xor_zero]
    · rw [if_pos (by omega), mul_next a o n h8]
      rw [← ih (Gf.xt a) (if n % 2 = 1 then o ^^^ a else o) (n / 2) (by omega) (by rw [Nat.pow_succ] at h; omega)]
      simp only [odd_and n (by omega), half_div, w_un2, xor_un]
      by_cases hp : n % 2 = 1 <;> by_cases hx : un a * 2 > 255
      · rw [if_pos (by omega), if_pos hx, if_pos hp, xt_high a hx]
      · rw [if_pos (by omega), if_neg hx, if_pos hp, xt_low a hx]
      · rw [if_neg (by omega), if_pos hx, if_neg hp, xt_high a hx]
      · rw [if_neg (by omega), if_neg hx, if_neg hp, xt_low a hx]
theorem impl_mul_f (k : Nat) (hk : 9 ≤ k) (a b : Gf.B) : impl_mul.f k (un a) (un b) = some (un (Gf.mul a b)) := by
  obtain ⟨m, rfl⟩ : ∃ m, k = m + 1 := ⟨k - 1, by omega⟩
  have h := impl_mul_l0 m a 0#8 b.toNat b.isLt (Nat.lt_of_lt_of_le b.isLt (Nat.pow_le_pow_right (by decide) (show 8 ≤ m by omega)))
  rw [ofNat_un, BitVec.zero_xor] at h
  exact h
theorem spec_l02Pow_l0 (k : Nat) : ∀ (a o : Gf.B) (n : Nat), n < 2 ^ 60 → n < 2 ^ k → spec_l02Pow.l0 (k + 10) (un a) (n : Int) (un o) = some (un (Gf.mul o (Gf.pw a n))) := by
  induction k with
  | zero =>
    intro a o n _ h
    obtain rfl : n = 0 := by omega
    rw [show 0 + 10 = 9 + 1 from rfl, spec_l02Pow.l0, if_neg (by omega), Gf.pw, Gf.mul_one]
  | succ k ih =>
    intro a o n h8 h
    rw [show k + 1 + 10 = (k + 10) + 1 by omega, spec_l02Pow.l0]
    by_cases h0 : n = 0
    · subst h0
      rw [if_neg (by omega), Gf.pw, Gf.mul_one]
    · rw [if_pos (by omega), pw_next a o n h0]
      rw [← ih (Gf.mul a a) (if n % 2 = 1 then Gf.mul o a else o) (n / 2) (by omega) (by rw [Nat.pow_succ] at h; omega)]
      simp only [odd_tmod, half_tdiv n (by omega), spec_l02Mul_f (k + 10) (by omega), Option.bind_some]
      by_cases hp : n % 2 = 1
      · rw [if_pos (by omega), if_pos hp]
      · rw [if_neg (by omega), if_neg hp]
theorem spec_l02Pow_f (j k : Nat) (hk : j + 10 ≤ k) (a : Gf.B) (n : Nat) (h60 : n < 2 ^ 60) (h : n < 2 ^ j) : spec_l02Pow.f k (un a) (n : Int) = some (un (Gf.pw a n)) := by
  obtain ⟨m, rfl⟩ : ∃ m, k = m + 10 := ⟨k - 10, by omega⟩
  have e := spec_l02Pow_l0 m a 1#8 n h60 (Nat.lt_of_lt_of_le h (Nat.pow_le_pow_right (by decide) (show j ≤ m by omega)))
  rw [Gf.one_mul] at e
  exact e
theorem impl_pow_l0 (k : Nat) : ∀ (a o : Gf.B) (n : Nat), n < 2 ^ 60 → n < 2 ^ k → impl_pow.l0 (k + 10) (un a) (n : Int) (un o) = some (un (Gf.mul o (Gf.pw a n))) := by
  induction k with
  | zero =>
    intro a o n _ h
    obtain rfl : n = 0 := by omega
    rw [show 0 + 10 = 9 + 1 from rfl, impl_pow.l0, if_neg (by omega), Gf.pw, Gf.mul_one]
  | succ k ih =>
    intro a o n h8 h
    rw [show k + 1 + 10 = (k + 10) + 1 by omega, impl_pow.l0]
    by_cases h0 : n = 0
    · subst h0
      rw [if_neg (by omega), Gf.pw, Gf.mul_one]
    · rw [if_pos (by omega), pw_next a o n h0]
      rw [← ih (Gf.mul a a) (if n % 2 = 1 then Gf.mul o a else o) (n / 2) (by omega) (by rw [Nat.pow_succ] at h; omega)]
      simp only [odd_and n (by omega), half_div, impl_mul_f (k + 10) (by omega), Option.bind_some]
      by_cases hp : n % 2 = 1
      · rw [if_pos (by omega), if_pos hp]
      · rw [if_neg (by omega), if_neg hp]
theorem impl_pow_f (j k : Nat) (hk : j + 10 ≤ k) (a : Gf.B) (n : Nat) (h60 : n < 2 ^ 60) (h : n < 2 ^ j) : impl_pow.f k (un a) (n : Int) = some (un (Gf.pw a n)) := by
  obtain ⟨m, rfl⟩ : ∃ m, k = m + 10 := ⟨k - 10, by omega⟩
  have e := impl_pow_l0 m a 1#8 n h60 (Nat.lt_of_lt_of_le h (Nat.pow_le_pow_right (by decide) (show j ≤ m by omega)))
  rw [Gf.one_mul] at e
  exact e
theorem impl_inv_f (k : Nat) (hk : 18 ≤ k) (a : Gf.B) : impl_inv.f k (un a) = some (un (Gf.inv a)) := by
  unfold impl_inv.f
  rw [show (254 : Int) = ((254 : Nat) : Int) from rfl, impl_pow_f 8 k (by omega) a 254 (by omega) (by omega), Option.bind_some]
  rfl
theorem spec_inv_f (k : Nat) (hk : 18 ≤ k) (a : Gf.B) : spec_FieldInv.f k (un a) = some (un (Gf.inv a)) := by
  have hb := un_bd a
  unfold spec_FieldInv.f spec_l02Byte.f
  rw [if_pos hb.1, Option.bind_some, decide_eq_true hb.2, if_pos rfl]
  by_cases h : un a = 0
  · rw [if_pos h]
    rw [un_eq_zero] at h
    rw [h, Gf.inv_zero]
    rfl
  · rw [if_neg h, show (254 : Int) = ((254 : Nat) : Int) from rfl, spec_l02Pow_f 8 k (by omega) a 254 (by omega) (by omega), Option.bind_some]
    rfl
theorem unit_l0 (k : Nat) (hk : k ≤ 16) (d : Nat) : ∀ (K i : Nat), i + d = k → d + 1 ≤ K →
    spec_l03Unit.l0 K (k : Int) (i : Int) (k : Int) (k : Int) (grid (fun a b => if a = b ∧ a < i then 1 else 0) k (k * k)) = some ((k : Int), (k : Int), grid (fun a b => if a = b then 1 else 0) k (k * k)) := by
  have hkk := side_le hk hk
  induction d with
  | zero =>
    intro K i hi hK
    obtain ⟨K, rfl⟩ : ∃ m, K = m + 1 := ⟨K - 1, by omega⟩
    rw [spec_l03Unit.l0, if_neg (by omega)]
    congr 3
    by_cases h0 : k = 0
    · subst h0
      rfl
    · refine grid_congr (by omega) (fun a b hb hab => ?_)
      have ha : a < k := by
        refine Nat.lt_of_not_le (fun hc => ?_)
        have := Nat.mul_le_mul_right k hc
        omega
      by_cases e : a = b
      · rw [if_pos ⟨e, by omega⟩, if_pos e]
      · rw [if_neg (fun h => e h.1), if_neg e]
  | succ d ih =>
    intro K i hi hK
    obtain ⟨K, rfl⟩ : ∃ m, K = m + 1 := ⟨K - 1, by omega⟩
    have hs := step_le k (show i < k by omega)
    rw [spec_l03Unit.l0, if_pos (by omega), w_mul i k (by omega), ← Int.natCast_add, w_nat (i * k + i) (by omega), if_pos (by omega), if_pos (by rw [grid_len]; omega), w_succ i (by omega), Int.toNat_natCast,
      grid_set (h' := fun a b => if a = b ∧ a < i + 1 then 1 else 0) (by omega) (if_pos ⟨rfl, by omega⟩) (fun a b hb hab => ?_)]
    · exact ih K (i + 1) (by omega) (by omega)
    · by_cases e : a = b
      · by_cases e2 : a < i
        · rw [if_pos ⟨e, by omega⟩, if_pos ⟨e, e2⟩]
        · rw [if_neg (fun h => hab ⟨by omega, by omega⟩), if_neg (fun h => e2 h.2)]
      · rw [if_neg (fun h => e h.1), if_neg (fun h => e h.1)]
theorem unit_eq (k : Nat) (hk : k ≤ 16) (K : Nat) (hK : k + 1 ≤ K) : spec_l03Unit.f K (k : Int) = some ((k : Int), (k : Int), grid (fun a b => if a = b then 1 else 0) k (k * k)) := by
  have hkk := side_le hk hk
  unfold spec_l03Unit.f
  rw [w_mul k k (by omega), if_pos (by omega), Int.toNat_natCast, if_pos (by omega), grid_zeros k]
  have h := unit_l0 k hk k K 0 (by omega) hK
  have e : (fun a b : Nat => if a = b ∧ a < 0 then (1 : Int) else 0) = fun _ _ => 0 := by
    funext a b
    rw [if_neg (fun h => by omega)]
  rw [e] at h
  exact h
theorem spec_cauchy_l1 (k m i : Nat) (h1 : 1 ≤ k) (hk : k ≤ 8) (hm : m ≤ 6) (hi : i < m) (K : Nat) (hK : 18 ≤ K) (d : Nat) : ∀ (j : Nat), j + d = k →
    spec_Cauchy.l1 (K + d + 1) (k : Int) (m : Int) (i : Int) (j : Int) ((k + m : Nat) : Int) (k : Int) (grid (cauchyC k) k ((k + i) * k + j)) = spec_Cauchy.l0 K (k : Int) (m : Int) ((i + 1 : Nat) : Int) ((k + m : Nat) : Int) (k : Int) (grid (cauchyC k) k ((k + (i + 1)) * k)) := by
  induction d with
  | zero =>
    intro j hj
    obtain rfl : j = k := by omega
    rw [spec_Cauchy.l1, if_neg (by omega), w_succ i (by omega), show (j + (i + 1)) * j = (j + i) * j + j by rw [← Nat.succ_mul]; rfl]
  | succ d ih =>
    intro j hj
    have hs : (k + i) * k ≤ 14 * 8 := Nat.mul_le_mul (by omega) hk
    rw [spec_Cauchy.l1, if_pos (by omega), ← Int.natCast_add, w_nat (k + i) (by omega), xor_nat _ _ (by omega) (by omega), spec_inv_f (K + (d + 1)) (by omega), Option.bind_some, if_pos (by rw [grid_len]; omega), w_succ j (by omega),
      show un (Gf.inv (BitVec.ofNat 8 (k + i) ^^^ BitVec.ofNat 8 j)) = cauchyC k (k + i) j by unfold cauchyC cauchyB; rw [if_neg (by omega)], grid_succ (cauchyC k) (by omega)]
    exact ih (j + 1) (by omega)
theorem spec_cauchy_l0 (k m : Nat) (h1 : 1 ≤ k) (hk : k ≤ 8) (hm : m ≤ 6) (d : Nat) : ∀ (K i : Nat), 18 ≤ K → i + d = m →
    spec_Cauchy.l0 (K + d * (k + 2) + 1) (k : Int) (m : Int) (i : Int) ((k + m : Nat) : Int) (k : Int) (grid (cauchyC k) k ((k + i) * k)) = some (((k + m : Nat) : Int), (k : Int), cauchyL k m, 0) := by
  induction d with
  | zero =>
    intro K i hK hi
    obtain rfl : i = m := by omega
    rw [Nat.zero_mul, Nat.add_zero, spec_Cauchy.l0, if_neg (by omega)]
    rfl
  | succ d ih =>
    intro K i hK hi
    have h := spec_cauchy_l1 k m i h1 hk hm (by omega) (K + d * (k + 2) + 1) (by omega) k 0 (by omega)
    rw [show K + (d + 1) * (k + 2) + 1 = (K + d * (k + 2) + 1 + k + 1) + 1 by rw [Nat.succ_mul]; omega, spec_Cauchy.l0, if_pos (by omega)]
    refine Eq.trans ?_ (ih K (i + 1) hK (by omega))
    exact h
/-- What Cauchy answers. -/
def codeOk (a b : Int) : Bool := decide (1 ≤ a ∧ a ≤ 8 ∧ 0 ≤ b ∧ b ≤ 6)
def resCauchy (a b : Int) : Int × Int × List Int × Int := if codeOk a b = true then (a + b, a, cauchyL a.toNat b.toNat, 0) else (0, 0, [], 1)
theorem codeOk_out {a b : Int} (h : codeOk a b = true) : ∃ k m : Nat, a = (k : Int) ∧ b = (m : Int) ∧ 1 ≤ k ∧ k ≤ 8 ∧ m ≤ 6 := by
  have h' := of_decide_eq_true (show decide (1 ≤ a ∧ a ≤ 8 ∧ 0 ≤ b ∧ b ≤ 6) = true from h)
  obtain ⟨k, rfl⟩ := Int.eq_ofNat_of_zero_le (show 0 ≤ a by omega)
  obtain ⟨m, rfl⟩ := Int.eq_ofNat_of_zero_le (show 0 ≤ b by omega)
  exact ⟨k, m, rfl, rfl, by omega, by omega, by omega⟩
theorem spec_codeRight (a b : Int) : spec_CodeRight.f a b = some (codeOk a b) := by
  unfold spec_CodeRight.f codeOk
  by_cases h1 : a ≥ 1
  · rw [if_pos h1]
    by_cases h2 : a ≤ 8
    · rw [if_pos h2]
      by_cases h3 : b ≥ 0
      · rw [if_pos h3]
        exact congrArg some (decide_eq_decide.2 ⟨fun h => ⟨h1, h2, h3, h⟩, fun h => h.2.2.2⟩)
      · rw [if_neg h3, decide_eq_false (fun h => h3 h.2.2.1)]
    · rw [if_neg h2, decide_eq_false (fun h => h2 h.2.1)]
  · rw [if_neg h1, decide_eq_false (fun h => h1 h.1)]
theorem spec_cauchy (a b : Int) (K : Nat) (hK : 200 ≤ K) : spec_Cauchy.f K a b = some (resCauchy a b) := by
  unfold spec_Cauchy.f resCauchy
  rw [spec_codeRight, Option.bind_some]
  by_cases h : codeOk a b = true
  · rw [if_pos h, if_pos h]
    obtain ⟨k, m, rfl, rfl, k1, k2, m2⟩ := codeOk_out h
    have hc : m * (k + 2) ≤ 6 * 10 := Nat.mul_le_mul m2 (by omega)
    rw [unit_eq k (by omega) K (by omega), Option.bind_some, ← Int.natCast_add, w_nat (k + m) (by omega), Int.toNat_natCast, Int.toNat_natCast,
      grid_congr (h' := cauchyC k) (by omega) (fun x y hy hxy => ?_)]
    · have h := spec_cauchy_l0 k m k1 k2 m2 m (K - (m * (k + 2) + 1)) 0 (by omega) (by omega)
      rw [show K - (m * (k + 2) + 1) + m * (k + 2) + 1 = K by omega] at h
      exact h
    · refine (cauchyC_unit (Nat.lt_of_not_le (fun hc => ?_)) y).symm
      have := Nat.mul_le_mul_right k hc
      omega
  · rw [if_neg h, if_neg h]
    rfl
theorem unit_row (k i : Nat) (hk : k ≤ 8) (hi : i < k) : impl_unit.f (i : Int) (k : Int) = some (line (cauchyC k i) k) := by
  unfold impl_unit.f
  rw [if_pos (by omega), Int.toNat_natCast, if_pos (by omega), Option.bind_some, if_pos (by omega), if_pos (by rw [List.length_replicate]; omega), Int.toNat_natCast, line_zeros]
  refine congrArg some (line_set (f' := cauchyC k i) ?_ (fun b hb => ?_))
  · rw [cauchyC_unit hi, if_pos rfl]
  · rw [cauchyC_unit hi, if_neg (fun h => hb h.symm)]
theorem impl_cauchy_l2 (k m i : Nat) (h1 : 1 ≤ k) (hk : k ≤ 8) (hm : m ≤ 6) (hi : i < m) (K : Nat) (hK : 18 ≤ K) (d : Nat) : ∀ (j : Nat), j + d = k →
    impl_cauchy.l2 (K + d + 1) (k : Int) (rowsH (cauchyC k) k (k + i)) (i : Int) (line (cauchyC k (k + i)) j) (m : Int) (i : Int) (k : Int) (j : Int) = impl_cauchy.l1 K (k : Int) (rowsH (cauchyC k) k (k + (i + 1))) (m : Int) ((i + 1 : Nat) : Int) := by
  induction d with
  | zero =>
    intro j hj
    obtain rfl : j = k := by omega
    rw [impl_cauchy.l2, if_neg (by omega), if_pos (by rw [rowsH_len]; omega), w_succ i (by omega), rowsH_succ]
    rfl
  | succ d ih =>
    intro j hj
    rw [impl_cauchy.l2, if_pos (by omega), ← Int.natCast_add, w_nat (k + i) (by omega), xor_nat _ _ (by omega) (by omega), impl_inv_f (K + (d + 1)) (by omega), Option.bind_some, if_pos (by rw [line_len]; omega), w_succ j (by omega),
      show un (Gf.inv (BitVec.ofNat 8 (k + i) ^^^ BitVec.ofNat 8 j)) = cauchyC k (k + i) j by unfold cauchyC cauchyB; rw [if_neg (by omega)], line_succ]
    exact ih (j + 1) (by omega)
theorem impl_cauchy_l1 (k m : Nat) (h1 : 1 ≤ k) (hk : k ≤ 8) (hm : m ≤ 6) (d : Nat) : ∀ (K i : Nat), 50 ≤ K → i + d = m →
    impl_cauchy.l1 (K + d * (k + 2) + 1) (k : Int) (rowsH (cauchyC k) k (k + i)) (m : Int) (i : Int) = some (((k + m : Nat) : Int), (k : Int), cauchyL k m) := by
  induction d with
  | zero =>
    intro K i hK hi
    obtain rfl : i = m := by omega
    have hs : (k + i) * k ≤ 14 * 8 := Nat.mul_le_mul (by omega) hk
    have e0 : (rowsH (cauchyC k) k (k + i))[0]? = some (line (cauchyC k 0) k) := rowsH_get _ (by omega)
    have e1 := (List.getElem?_eq_some_iff.1 e0).2
    have hL := rowsH_len (cauchyC k) k (k + i)
    rw [Nat.zero_mul, Nat.add_zero, impl_cauchy.l1, if_neg (by omega), matrixOf_eq (rowsH (cauchyC k) k (k + i)) (by omega) (by omega) (by rw [rowsH_flat, grid_len]; omega) _ (by omega), Option.bind_some, e1, line_len, rowsH_flat, hL]
    rfl
  | succ d ih =>
    intro K i hK hi
    have h := impl_cauchy_l2 k m i h1 hk hm (by omega) (K + d * (k + 2) + 1) (by omega) k 0 (by omega)
    rw [show K + (d + 1) * (k + 2) + 1 = (K + d * (k + 2) + 1 + k + 1) + 1 by rw [Nat.succ_mul]; omega, impl_cauchy.l1, if_pos (by omega)]
    refine Eq.trans ?_ (ih K (i + 1) hK (by omega))
    exact h
theorem impl_cauchy_l0 (k m : Nat) (hk : k ≤ 8) (hm : m ≤ 6) (K : Nat) (d : Nat) : ∀ (i : Nat), i + d = k →
    impl_cauchy.l0 (K + d + 1) (k : Int) (m : Int) (rowsH (cauchyC k) k i) (k : Int) (i : Int) = impl_cauchy.l1 K (k : Int) (rowsH (cauchyC k) k k) (m : Int) 0 := by
  induction d with
  | zero =>
    intro i hi
    obtain rfl : i = k := by omega
    rw [impl_cauchy.l0, if_neg (by omega)]
  | succ d ih =>
    intro i hi
    rw [impl_cauchy.l0, if_pos (by omega), unit_row k i hk (by omega), Option.bind_some, if_pos (by rw [rowsH_len]; omega), w_succ i (by omega), rowsH_succ]
    exact ih (i + 1) (by omega)
theorem impl_cauchy_f (k m : Nat) (h1 : 1 ≤ k) (hk : k ≤ 8) (hm : m ≤ 6) (K : Nat) (hK : 200 ≤ K) : impl_cauchy.f K (k : Int) (m : Int) = some (((k + m : Nat) : Int), (k : Int), cauchyL k m) := by
  have hc : m * (k + 2) ≤ 6 * 10 := Nat.mul_le_mul hm (by omega)
  have h := impl_cauchy_l0 k m hk hm (K - (k + 1)) k 0 (by omega)
  have h' := impl_cauchy_l1 k m h1 hk hm m (K - (k + 1) - (m * (k + 2) + 1)) 0 (by omega) (by omega)
  rw [show K - (k + 1) + k + 1 = K by omega] at h
  rw [show K - (k + 1) - (m * (k + 2) + 1) + m * (k + 2) + 1 = K - (k + 1) by omega] at h'
  exact h.trans h'
theorem impl_codeRight (a b : Int) : impl_CodeRight.f a b = some (codeOk a b) := by
  unfold impl_CodeRight.f impl_within.f codeOk
  by_cases h1 : a ≥ 1
  · rw [if_pos h1, Option.bind_some]
    by_cases h2 : a ≤ 8
    · rw [decide_eq_true h2, if_pos rfl]
      by_cases h3 : b ≥ 0
      · rw [if_pos h3, Option.bind_some]
        exact congrArg some (decide_eq_decide.2 ⟨fun h => ⟨h1, h2, h3, h⟩, fun h => h.2.2.2⟩)
      · rw [if_neg h3, Option.bind_some, decide_eq_false (fun h => h3 h.2.2.1)]
    · rw [decide_eq_false h2, if_neg (by simp), decide_eq_false (fun h => h2 h.2.1)]
  · rw [if_neg h1, Option.bind_some, if_neg (by simp), decide_eq_false (fun h => h1 h.1)]
theorem impl_Cauchy_f (a b : Int) (K : Nat) (hK : 200 ≤ K) : impl_Cauchy.f K a b = some (resCauchy a b) := by
  unfold impl_Cauchy.f resCauchy
  rw [impl_codeRight, Option.bind_some]
  by_cases h : codeOk a b = true
  · rw [if_pos h, if_pos h]
    obtain ⟨k, m, rfl, rfl, k1, k2, m2⟩ := codeOk_out h
    rw [impl_cauchy_f k m k1 k2 m2 K hK, Option.bind_some, Int.toNat_natCast, Int.toNat_natCast]
    rfl
  · rw [if_neg h, if_neg h]
def byteB (x : Int) : Bool := decide (0 ≤ x) && decide (x ≤ 255)
def okM (a b : Int) (l : List Int) : Bool := decide (1 ≤ a ∧ a ≤ 16 ∧ 1 ≤ b ∧ b ≤ 16 ∧ (l.length : Int) = a * b) && l.all byteB
theorem side_mul {a b : Int} (h1 : 1 ≤ a) (h2 : a ≤ 16) (h3 : 1 ≤ b) (h4 : b ≤ 16) : 1 ≤ a * b ∧ a * b ≤ 256 := by
  constructor
  · have := Int.mul_le_mul h1 h3 (by omega) (by omega)
    omega
  · have := Int.mul_le_mul h2 h4 (by omega) (by omega)
    omega
theorem okM_out {a b : Int} {l : List Int} (h : okM a b l = true) : ∃ r c : Nat, a = (r : Int) ∧ b = (c : Int) ∧ 1 ≤ r ∧ r ≤ 16 ∧ 1 ≤ c ∧ c ≤ 16 ∧ l.length = r * c ∧ Bytes l := by
  unfold okM at h
  rw [Bool.and_eq_true, decide_eq_true_iff, List.all_eq_true] at h
  obtain ⟨⟨h1, h2, h3, h4, h5⟩, h6⟩ := h
  obtain ⟨r, rfl⟩ := Int.eq_ofNat_of_zero_le (show 0 ≤ a by omega)
  obtain ⟨c, rfl⟩ := Int.eq_ofNat_of_zero_le (show 0 ≤ b by omega)
  refine ⟨r, c, rfl, rfl, by omega, by omega, by omega, by omega, ?_, fun x hx => ?_⟩
  · rw [← Int.natCast_mul] at h5
    exact Int.ofNat_inj.1 h5
  · have := h6 x hx
    unfold byteB at this
    rw [Bool.and_eq_true, decide_eq_true_iff, decide_eq_true_iff] at this
    exact this
theorem okM_same (a b : Int) (l : List Int) : okM a b l = FnExactMatrixRight_.okM a b l := rfl
def rowOk (r : Nat) (x : Int) : Bool := decide (0 ≤ x ∧ x < (r : Int))
def rowsOf (l : List Int) (c : Nat) (rows : List Int) : List (List Int) := rows.map fun x => rowL l c x.toNat
theorem flat_le (ls : List (List Int)) (c : Nat) (h : ∀ x ∈ ls, x.length = c) : ls.flatten.length = ls.length * c := by
  induction ls with
  | nil => simp
  | cons a t ih =>
    rw [List.flatten_cons, List.length_append, ih (fun x hx => h x (List.mem_cons_of_mem _ hx)), h a List.mem_cons_self, List.length_cons, Nat.succ_mul]
    omega
theorem rows_len {l : List Int} {r c : Nat} (hl : l.length = r * c) {rows : List Int} (h : rows.all (rowOk r) = true) : ∀ x ∈ rowsOf l c rows, x.length = c := by
  intro x hx
  unfold rowsOf at hx
  obtain ⟨y, hy, rfl⟩ := List.mem_map.1 hx
  have := List.all_eq_true.1 h y hy
  unfold rowOk at this
  have := of_decide_eq_true this
  exact rowL_len hl (by omega)
theorem pick_one (x : Int) (r : Nat) (hr : r ≤ 16) : impl_MatrixPick_1.f x (r : Int) = some (!(rowOk r x)) := by
  unfold impl_MatrixPick_1.f impl_within.f rowOk
  rw [show wrap64 ((r : Int) - 1) = (r : Int) - 1 by unfold wrap64; omega]
  by_cases h : x ≥ 0
  · rw [if_pos h, Option.bind_some]
    congr 2
    exact decide_eq_decide.2 ⟨fun h' => ⟨h, by omega⟩, fun h' => by omega⟩
  · rw [if_neg h, Option.bind_some, decide_eq_false (fun h' => h h'.1)]
theorem index_l0 (r : Nat) (rows : List Int) (hr : r ≤ 16) (hn : rows.length ≤ 1000000) (d : Nat) : ∀ (k i : Nat), i + d = rows.length → d + 1 ≤ k →
    ∃ j : Int, slices_IndexFunc_int64_int64_120.l0 k rows (r : Int) (rows.length : Int) (i : Int) = some j ∧ decide (j ≥ 0) = !((rows.drop i).all (rowOk r)) := by
  induction d with
  | zero =>
    intro k i hi hk
    obtain ⟨k, rfl⟩ : ∃ m, k = m + 1 := ⟨k - 1, by omega⟩
    refine ⟨-1, ?_, ?_⟩
    · rw [slices_IndexFunc_int64_int64_120.l0, if_neg (by omega)]
    · rw [List.drop_of_length_le (by omega)]
      rfl
  | succ d ih =>
    intro k i hi hk
    obtain ⟨k, rfl⟩ : ∃ m, k = m + 1 := ⟨k - 1, by omega⟩
    have hd : rows.drop i = rows[i]'(by omega) :: rows.drop (i + 1) := List.drop_eq_getElem_cons (by omega)
    obtain ⟨j, e, hj⟩ := ih k (i + 1) (by omega) (by omega)
    rw [slices_IndexFunc_int64_int64_120.l0, if_pos (by omega), if_pos (by omega), if_pos (by omega), rd_get rows i (by omega), pick_one _ r hr, Option.bind_some, hd, List.all_cons, show wrap64 ((i : Int) + 1) = ((i + 1 : Nat) : Int) by unfold wrap64; omega]
    cases hx : rowOk r (rows[i]'(by omega))
    · refine ⟨(i : Int), if_pos rfl, ?_⟩
      rw [Bool.false_and]
      exact decide_eq_true (by omega)
    · refine ⟨j, ?_, ?_⟩
      · rw [if_neg (by simp)]
        exact e
      · rw [Bool.true_and]
        exact hj
theorem contains_eq (r : Nat) (rows : List Int) (hr : r ≤ 16) (hn : rows.length ≤ 1000000) (k : Nat) (hk : rows.length + 1 ≤ k) : slices_ContainsFunc_int64_int64.f k rows (r : Int) = some (!(rows.all (rowOk r))) := by
  unfold slices_ContainsFunc_int64_int64.f slices_IndexFunc_int64_int64_120.f
  obtain ⟨j, e, hj⟩ := index_l0 r rows hr hn rows.length k 0 (by omega) hk
  rw [List.drop_zero] at hj
  rw [show (0 : Int) = ((0 : Nat) : Int) from rfl, e, Option.bind_some]
  exact congrArg some hj
theorem pick_l0 (r c : Nat) (l rows : List Int) (hr : r ≤ 16) (hc : c ≤ 16) (hl : l.length = r * c) (hn : rows.length ≤ 16) (hok : rows.all (rowOk r) = true) (K : Nat) (d : Nat) : ∀ (i : Nat), i + d = rows.length →
    impl_Matrix_pick.l0 (K + d + 1) (rowsOf l c (rows.take i)) rows (rows.length : Int) (i : Int) (r : Int) (c : Int) l = (impl_matrixOf.f K (rowsOf l c rows)).bind fun b => some (b.1, b.2.1, b.2.2) := by
  have hrc := side_le hr hc
  induction d with
  | zero =>
    intro i hi
    rw [impl_Matrix_pick.l0, if_neg (by omega), List.take_of_length_le (by omega)]
  | succ d ih =>
    intro i hi
    have hx := List.all_eq_true.1 hok (rows[i]'(by omega)) (List.getElem_mem _)
    have ht : rows.take (i + 1) = rows.take i ++ [rows[i]'(by omega)] := by rw [List.take_add_one, List.getElem?_eq_getElem (by omega)]; rfl
    have ih := ih (i + 1) (by omega)
    rw [ht] at ih
    rw [impl_Matrix_pick.l0, if_pos (by omega), if_pos (by omega), if_pos (by omega), rd_get rows i (by omega)]
    revert ih hx
    generalize rows[i]'(by omega) = x
    intro hx ih
    have hx' := of_decide_eq_true (show decide (0 ≤ x ∧ x < (r : Int)) = true from hx)
    obtain ⟨y, rfl⟩ := Int.eq_ofNat_of_zero_le hx'.1
    have hy : y < r := by omega
    have hyc := step_le c hy
    have hsm : (y + 1) * c = y * c + c := Nat.succ_mul y c
    have e : (l.take (((y + 1) * c : Nat) : Int).toNat).drop ((y * c : Nat) : Int).toNat = rowL l c y := by rw [Int.toNat_natCast, Int.toNat_natCast, Nat.succ_mul]; rfl
    rw [w_succ y (by omega), w_mul y c (by omega), w_mul (y + 1) c (by omega), e, if_pos (by omega), if_pos (by omega), if_pos (by omega), if_pos (by unfold rowsOf; rw [List.length_map, List.length_take]; omega), w_succ i (by omega), ← ih]
    unfold rowsOf
    rw [List.map_append]
    rfl
theorem pick_eq (r c : Nat) (l rows : List Int) (hr : r ≤ 16) (hc : c ≤ 16) (hl : l.length = r * c) (h1 : 1 ≤ rows.length) (hn : rows.length ≤ 16) (hok : rows.all (rowOk r) = true) (k : Nat) (hk : 100 ≤ k) :
    impl_Matrix_pick.f k (r : Int) (c : Int) l rows = some ((rows.length : Int), (c : Int), (rowsOf l c rows).flatten) := by
  have hL : (rowsOf l c rows).length = rows.length := List.length_map _
  have hF := flat_le (rowsOf l c rows) c (rows_len hl hok)
  have hFl : rows.length * c ≤ 16 * 16 := Nat.mul_le_mul hn hc
  rw [hL] at hF
  have h0 : (rowsOf l c rows)[0].length = c := rows_len hl hok _ (List.getElem_mem _)
  have h := pick_l0 r c l rows hr hc hl hn hok (k - (rows.length + 1)) rows.length 0 (by omega)
  rw [show k - (rows.length + 1) + rows.length + 1 = k by omega, matrixOf_eq (rowsOf l c rows) (by omega) (by omega) (by omega) _ (by omega), Option.bind_some, h0] at h
  refine h.trans ?_
  rw [hL]
/-- What MatrixPick answers. -/
def resPick (a b : Int) (l rows : List Int) : Int × Int × List Int × Int := if rows.length > 400 then (0, 0, [], 2) else if okM a b l = true ∧ 1 ≤ rows.length ∧ rows.length ≤ 16 ∧ rows.all (rowOk a.toNat) = true then ((rows.length : Int), b, (rowsOf l b.toNat rows).flatten, 0) else (0, 0, [], 1)
theorem impl_pick (a b : Int) (l rows : List Int) (hl : l.length ≤ 1000000000) (k : Nat) (hk : l.length + 200 ≤ k) : impl_MatrixPick.f k a b l rows = some (resPick a b l rows) := by
  unfold impl_MatrixPick.f resPick impl_isMany_int64.f impl_MatrixRight.f ExtRight.mright impl_size_int64_67.f impl_within.f
  rw [if_pos hl]
  simp only [Option.bind_some]
  rw [← okM_same a b l]
  by_cases h0 : rows.length > 400
  · rw [decide_eq_true (show (rows.length : Int) > 400 by omega), if_pos rfl, if_pos h0]
  rw [decide_eq_false (show ¬ (rows.length : Int) > 400 by omega), if_neg (by simp), if_neg h0]
  by_cases h1 : okM a b l = true
  · rw [if_pos h1]
    by_cases h2 : (rows.length : Int) ≥ 1
    · rw [if_pos h2, Option.bind_some]
      by_cases h3 : (rows.length : Int) ≤ 16
      · rw [decide_eq_true h3, if_pos rfl]
        obtain ⟨r, c, rfl, rfl, r1, r2, c1, c2, e1, by1⟩ := okM_out h1
        rw [contains_eq r rows r2 (by omega) k (by omega), Option.bind_some, Int.toNat_natCast, Int.toNat_natCast]
        by_cases h4 : rows.all (rowOk r) = true
        · rw [h4, if_neg (by simp), pick_eq r c l rows r2 c2 e1 (by omega) (by omega) h4 k (by omega), Option.bind_some, if_pos ⟨h1, by omega, by omega, rfl⟩]
        · rw [Bool.not_eq_true] at h4
          rw [h4, if_pos (show (!false) = true from rfl), if_neg (fun h => absurd h.2.2.2 (by simp))]
      · rw [decide_eq_false h3, if_neg (by simp), if_neg (fun h => by omega)]
    · rw [if_neg h2, Option.bind_some, if_neg (by simp), if_neg (fun h => by omega)]
  · rw [if_neg h1, if_neg (fun h => h1 h.1)]
theorem u64_id (n : Int) (h0 : 0 ≤ n) (h1 : n < 4294967296) : IntKind.u64.wrap n = n := by
  simp [IntKind.wrap, IntKind.bits, IntKind.signed]
  omega
theorem u64_nn (n : Int) : 0 ≤ IntKind.u64.wrap n := by
  simp [IntKind.wrap, IntKind.bits, IntKind.signed]
  omega
theorem tmod_bd (x most : Int) (h0 : 0 ≤ x) (h1 : 1 < most) (h2 : most ≤ 1000) : 0 ≤ wrap64 (Int.tmod x most) ∧ wrap64 (Int.tmod x most) < most := by
  have a := Int.tmod_nonneg most h0
  have b := Int.tmod_lt_of_pos x (show 0 < most by omega)
  unfold wrap64
  omega
theorem n_ok (l : List Int) (hl : l.length ≤ 140737488351232) (at_ mix size most : Int) (h0 : 0 ≤ at_) (h1 : 1 ≤ most) (h2 : most ≤ 1000) :
    ∃ r at' mix' : Int, spec_l01Src_n.f l at_ mix size most = some (r, at', mix', size) ∧ 0 ≤ r ∧ r < most ∧ 0 ≤ at' := by
  unfold spec_l01Src_n.f
  by_cases h : most ≤ 1
  · rw [if_pos h]
    exact ⟨0, at_, mix, rfl, by omega, by omega, h0⟩
  · rw [if_neg h, u64_id most (by omega) (by omega)]
    by_cases hc : at_ < (l.length : Int)
    · rw [if_pos hc, if_pos h0, if_neg (by omega)]
      have b := tmod_bd _ most (u64_nn ((IntKind.u64.wrap (rd l at_)) + ((Go.bits .xor .u64 (Go.bits .xor .u64 (Go.bits .xor .u64 mix (IntKind.u64.wrap (mix * 8192))) ((Go.bits .xor .u64 mix (IntKind.u64.wrap (mix * 8192))) / 128)) (IntKind.u64.wrap ((Go.bits .xor .u64 (Go.bits .xor .u64 mix (IntKind.u64.wrap (mix * 8192))) ((Go.bits .xor .u64 mix (IntKind.u64.wrap (mix * 8192))) / 128)) * 131072))) / 1048576))) (by omega) h2
      exact ⟨_, _, _, rfl, b.1, b.2, by unfold wrap64; omega⟩
    · rw [if_neg hc, if_neg (by omega)]
      have b := tmod_bd _ most (u64_nn (0 + ((Go.bits .xor .u64 (Go.bits .xor .u64 (Go.bits .xor .u64 mix (IntKind.u64.wrap (mix * 8192))) ((Go.bits .xor .u64 mix (IntKind.u64.wrap (mix * 8192))) / 128)) (IntKind.u64.wrap ((Go.bits .xor .u64 (Go.bits .xor .u64 mix (IntKind.u64.wrap (mix * 8192))) ((Go.bits .xor .u64 mix (IntKind.u64.wrap (mix * 8192))) / 128)) * 131072))) / 1048576))) (by omega) h2
      exact ⟨_, _, _, rfl, b.1, b.2, h0⟩
theorem one_ok (l : List Int) (hl : l.length ≤ 140737488351232) (at_ mix size most : Int) (h0 : 0 ≤ at_) (h1 : 1 ≤ most) (h2 : most ≤ 1000) :
    ∃ (r : Bool) (at' mix' : Int), spec_l01Src_one.f l at_ mix size most = some (r, at', mix', size) ∧ 0 ≤ at' := by
  obtain ⟨r, a, m, e, _, _, ha⟩ := n_ok l hl at_ mix size most h0 h1 h2
  unfold spec_l01Src_one.f
  rw [e, Option.bind_some]
  exact ⟨_, a, m, rfl, ha⟩
theorem edge_ok (l : List Int) (hl : l.length ≤ 140737488351232) (at_ mix size : Int) (h0 : 0 ≤ at_) :
    ∃ r at' mix' : Int, spec_l01Src_edge.f l at_ mix size = some (r, at', mix', size) ∧ 0 ≤ at' := by
  obtain ⟨r, a, m, e, r0, r1, ha⟩ := n_ok l hl at_ mix size 14 h0 (by omega) (by omega)
  unfold spec_l01Src_edge.f
  rw [Option.bind_some, e, Option.bind_some, if_pos r0]
  exact ⟨_, a, m, if_pos (show r < 14 from r1), ha⟩
theorem source_l0 (l : List Int) (d : Nat) : ∀ (K i : Nat) (mix : Int), i + d = 64 → d + 1 ≤ K → ∃ mix' size : Int, spec_l01Source.l0 K l (i : Int) l 0 mix 0 = some (l, 0, mix', size) := by
  have fin : ∀ mix : Int, ∃ mix' size : Int, (if (wrap64 ((l.length : Int) / 20)) > 12 then (some (l, (0 : Int), mix, (12 : Int))) else (some (l, 0, mix, wrap64 ((l.length : Int) / 20)))) = some (l, 0, mix', size) := by
    intro mix
    split
    · exact ⟨mix, 12, rfl⟩
    · exact ⟨mix, _, rfl⟩
  induction d with
  | zero =>
    intro K i mix hi hK
    obtain ⟨K, rfl⟩ : ∃ m, K = m + 1 := ⟨K - 1, by omega⟩
    rw [spec_l01Source.l0, if_neg (show ¬ (i : Int) < 64 by omega)]
    by_cases h : (i : Int) < (l.length : Int)
    · rw [if_pos h]
      exact fin mix
    · rw [if_neg h]
      exact fin mix
  | succ d ih =>
    intro K i mix hi hK
    obtain ⟨K, rfl⟩ : ∃ m, K = m + 1 := ⟨K - 1, by omega⟩
    rw [spec_l01Source.l0, if_pos (show (i : Int) < 64 by omega), if_pos (show 0 ≤ (i : Int) by omega), w_succ i (by omega)]
    by_cases h : (i : Int) < (l.length : Int)
    · rw [if_pos h]
      exact ih K (i + 1) _ (by omega) (by omega)
    · rw [if_neg h]
      exact fin mix
theorem source_ok (l : List Int) (K : Nat) (hK : 100 ≤ K) : ∃ mix size : Int, spec_l01Source.f K l = some (l, 0, mix, size) := source_l0 l 64 K 0 _ (by omega) (by omega)
theorem draw_cauchy (l : List Int) (hl : l.length ≤ 140737488351232) (K : Nat) (hK : 100 ≤ K) : ∃ a b : Int, spec_DrawCauchy.f K l = some (a, b) := by
  unfold spec_DrawCauchy.f
  obtain ⟨mix, size, e⟩ := source_ok l K hK
  obtain ⟨r1, a1, m1, e1, h1⟩ := one_ok l hl 0 mix size 10 (by omega) (by omega) (by omega)
  rw [e, Option.bind_some]
  simp only []
  rw [e1, Option.bind_some]
  by_cases hr : r1 = true
  · rw [if_pos hr]
    obtain ⟨r2, a2, m2, e2, _, _, h2⟩ := n_ok l hl a1 m1 size 12 h1 (by omega) (by omega)
    obtain ⟨r3, a3, m3, e3, h3⟩ := edge_ok l hl a2 m2 size h2
    obtain ⟨r4, a4, m4, e4, l4, u4, h4⟩ := n_ok l hl a3 m3 size 5 h3 (by omega) (by omega)
    simp only []
    rw [e2, Option.bind_some]
    simp only []
    rw [e3, Option.bind_some, Option.bind_some]
    simp only []
    rw [e4, Option.bind_some]
    simp only []
    rw [if_pos l4]
    exact ⟨_, _, if_pos (show r4 < 5 from u4)⟩
  · rw [if_neg hr]
    obtain ⟨r2, a2, m2, e2, _, _, h2⟩ := n_ok l hl a1 m1 size 8 h1 (by omega) (by omega)
    obtain ⟨r3, a3, m3, e3, _, _, h3⟩ := n_ok l hl a2 m2 size 7 h2 (by omega) (by omega)
    simp only []
    rw [e2, Option.bind_some]
    simp only []
    rw [e3, Option.bind_some]
    exact ⟨_, _, rfl⟩
theorem same_l0 (l : List Int) (a b : Int) (hl : l.length ≤ 1000000000) (d : Nat) : ∀ (K i : Nat), i + d = l.length → d + 1 ≤ K → laws_lwSame.l0 K (i : Int) a b l a b l = some true := by
  induction d with
  | zero =>
    intro K i hi hK
    obtain ⟨K, rfl⟩ : ∃ m, K = m + 1 := ⟨K - 1, by omega⟩
    rw [laws_lwSame.l0, if_neg (by omega)]
  | succ d ih =>
    intro K i hi hK
    obtain ⟨K, rfl⟩ : ∃ m, K = m + 1 := ⟨K - 1, by omega⟩
    rw [laws_lwSame.l0, if_pos (by omega), if_pos (by omega), if_pos (by omega), if_pos rfl, w_succ i (by omega)]
    exact ih K (i + 1) (by omega) (by omega)
theorem same_eq (a b : Int) (l : List Int) (hl : l.length ≤ 1000000000) (K : Nat) (hK : l.length + 2 ≤ K) : laws_lwSame.f K a b l a b l = some true := by
  unfold laws_lwSame.f
  obtain ⟨K, rfl⟩ : ∃ m, K = m + 1 := ⟨K - 1, by omega⟩
  rw [if_pos rfl, if_pos rfl, laws_lwSame.j0, if_neg (by simp)]
  exact same_l0 l a b hl l.length K 0 (by omega) (by omega)
theorem lwAt_ok (x : List Int) (i : Nat) : ∃ v : Int, laws_lwAt.f x (i : Int) 2 = some v := by
  unfold laws_lwAt.f
  rw [if_neg (by omega)]
  by_cases h : (x.length : Int) = 0
  · exact ⟨0, if_pos h⟩
  · have a := Int.tmod_nonneg (x.length : Int) (show 0 ≤ (i : Int) by omega)
    have b := Int.tmod_lt_of_pos (i : Int) (show 0 < (x.length : Int) by omega)
    rw [if_neg h, if_pos a, if_pos b, if_neg (by omega)]
    exact ⟨_, rfl⟩
def natL (rs : List Nat) : List Int := rs.map (fun r : Nat => (r : Int))
theorem natL_len (rs : List Nat) : (natL rs).length = rs.length := List.length_map _
theorem natL_add (rs : List Nat) (i : Nat) : natL rs ++ [(i : Int)] = natL (rs ++ [i]) := by unfold natL; rw [List.map_append, List.map_singleton]
theorem rows_l0 (x : List Int) (k n : Nat) (hn : n ≤ 1000) (hk : k ≤ 1000) (d : Nat) : ∀ (K i : Nat) (rs : List Nat), i + d = n → d + 1 ≤ K → rs.length ≤ k → k ≤ rs.length + d → rs.Nodup → (∀ r ∈ rs, r < i) →
    ∃ R : List Nat, laws_lwRows.l0 K x (k : Int) (n : Int) (natL rs) (i : Int) = some (natL R) ∧ R.length = k ∧ R.Nodup ∧ ∀ r ∈ R, r < n := by
  induction d with
  | zero =>
    intro K i rs hi hK h1 h2 h3 h4
    obtain ⟨K, rfl⟩ : ∃ m, K = m + 1 := ⟨K - 1, by omega⟩
    rw [laws_lwRows.l0, if_neg (by omega)]
    exact ⟨rs, rfl, by omega, h3, fun r hr => by have := h4 r hr; omega⟩
  | succ d ih =>
    intro K i rs hi hK h1 h2 h3 h4
    obtain ⟨K, rfl⟩ : ∃ m, K = m + 1 := ⟨K - 1, by omega⟩
    have hno : (rs ++ [i]).Nodup := by
      rw [List.nodup_append]
      refine ⟨h3, by simp, ?_⟩
      intro a ha b hb
      have := h4 a ha
      rw [List.mem_singleton] at hb
      omega
    have hlt : ∀ r ∈ rs ++ [i], r < i + 1 := by
      intro r hr
      rcases List.mem_append.1 hr with h | h
      · have := h4 r h
        omega
      · rw [List.mem_singleton] at h
        omega
    have hla : (rs ++ [i]).length = rs.length + 1 := by simp
    have hsz : rs.length < 17592186044416 := by omega
    have hsz' : (natL rs).length < 17592186044416 := by rw [natL_len]; exact hsz
    have e1 : wrap64 ((k : Int) - (rs.length : Int)) = ((k - rs.length : Nat) : Int) := by unfold wrap64; omega
    have e2 : wrap64 ((n : Int) - (i : Int)) = ((n - i : Nat) : Int) := by unfold wrap64; omega
    have hskip : k ≤ rs.length + d → ∃ R : List Nat, laws_lwRows.l0 K x (k : Int) (n : Int) (natL rs) ((i + 1 : Nat) : Int) = some (natL R) ∧ R.length = k ∧ R.Nodup ∧ ∀ r ∈ R, r < n :=
      fun h => ih K (i + 1) rs (by omega) (by omega) h1 h h3 (fun r hr => by have := h4 r hr; omega)
    have htake : rs.length + 1 ≤ k → ∃ R : List Nat, laws_lwRows.l0 K x (k : Int) (n : Int) (natL rs ++ [(i : Int)]) ((i + 1 : Nat) : Int) = some (natL R) ∧ R.length = k ∧ R.Nodup ∧ ∀ r ∈ R, r < n := by
      intro h
      rw [natL_add]
      exact ih K (i + 1) (rs ++ [i]) (by omega) (by omega) (by omega) (by omega) hno hlt
    rw [laws_lwRows.l0, if_pos (by omega), natL_len, e1, e2, w_succ i (by omega)]
    clear e1 e2
    by_cases hneed : ((k - rs.length : Nat) : Int) > 0
    · rw [if_pos hneed]
      by_cases hall : ((n - i : Nat) : Int) = ((k - rs.length : Nat) : Int)
      · rw [if_pos hall]
        first | rw [if_pos hsz] | rw [if_pos hsz']
        exact htake (by omega)
      · rw [if_neg hall]
        obtain ⟨v, hv⟩ := lwAt_ok x i
        rw [hv, Option.bind_some]
        by_cases h5 : v = 1
        · rw [if_pos h5]
          first | rw [if_pos hsz] | rw [if_pos hsz']
          exact htake (by omega)
        · rw [if_neg h5]
          exact hskip (by omega)
    · rw [if_neg hneed]
      exact hskip (by omega)
theorem rows_eq (x : List Int) (k n : Nat) (hkn : k ≤ n) (hn : n ≤ 1000) (K : Nat) (hK : n + 1 ≤ K) : ∃ R : List Nat, laws_lwRows.f K x (k : Int) (n : Int) = some (natL R) ∧ R.length = k ∧ R.Nodup ∧ ∀ r ∈ R, r < n := by
  unfold laws_lwRows.f
  exact rows_l0 x k n hn (by omega) n K 0 [] (by omega) hK (by simp) (by simpa using hkn) (by simp) (by simp)
theorem okM_in {l : List Int} {r c : Nat} (r1 : 1 ≤ r) (r2 : r ≤ 16) (c1 : 1 ≤ c) (c2 : c ≤ 16) (hl : l.length = r * c) (hb : Bytes l) : okM (r : Int) (c : Int) l = true := by
  unfold okM
  rw [Bool.and_eq_true, decide_eq_true_iff, List.all_eq_true]
  refine ⟨⟨by omega, by omega, by omega, by omega, by rw [hl, Int.natCast_mul]⟩, fun x hx => ?_⟩
  unfold byteB
  rw [Bool.and_eq_true, decide_eq_true_iff, decide_eq_true_iff]
  exact hb x hx
def pickH (k : Nat) (rs : List Nat) : Rd.H := fun i j => cauchyB k (rs.getD i 0) j
theorem picked_eq {k m : Nat} {rs : List Nat} (hlt : ∀ r ∈ rs, r < k + m) : (rowsOf (cauchyL k m) k (natL rs)).flatten = grid (fun i j => un (pickH k rs i j)) k (rs.length * k) := by
  rw [← rowsH_flat]
  congr 1
  apply List.ext_getElem?
  intro t
  unfold rowsOf natL
  rw [List.map_map]
  by_cases ht : t < rs.length
  · rw [List.getElem?_map, List.getElem?_eq_getElem ht, rowsH_get _ ht]
    show some (rowL (cauchyL k m) k ((rs[t] : Nat) : Int).toNat) = _
    rw [Int.toNat_natCast]
    unfold cauchyL
    rw [rowL_grid _ (hlt _ (List.getElem_mem ht))]
    congr 2
    funext j
    unfold pickH
    rw [List.getD_eq_getElem?_getD, List.getElem?_eq_getElem ht, Option.getD_some]
    rfl
  · rw [List.getElem?_eq_none (by simpa using ht), List.getElem?_eq_none (by rw [rowsH_len]; omega)]
theorem cell_grid (g : Rd.H) {n d i j : Nat} (hi : i < n) (hj : j < d) : cell (grid (fun i j => un (g i j)) d (n * d)) (i * d + j) = g i j := by
  have hst := step_le d hi
  unfold cell
  rw [List.getD_eq_getElem?_getD, grid_at _ hj (by omega), Option.getD_some]
  unfold un
  rw [Int.toNat_natCast]
  exact ofNat_un _
theorem picked_bytes (k : Nat) (rs : List Nat) (n : Nat) : Bytes (grid (fun i j => un (pickH k rs i j)) k n) := grid_bytes (fun _ _ => un_bd _) _ _
theorem rank_picked {k : Nat} (k1 : 1 ≤ k) (k2 : k ≤ 8) (rs : List Nat) (hl : rs.length = k) (hn : rs.Nodup) (hb : ∀ r ∈ rs, r < 16) (h : Rd.H) (hh : ∀ i j, i < k → j < k → h i j = cell (grid (fun i j => un (pickH k rs i j)) k (k * k)) (i * k + j)) :
    (red k k 0 0 h).2 = k := by
  have h1 := Ck.cauchy_full k1 (show k < 256 by omega) rs hl hn (fun r hr => by have := hb r hr; omega)
  have h2 := (red_cols (n := k) (c := k) k 0 0 h (pickH k rs) (fun i j hi hj => by rw [hh i j hi hj, cell_grid _ hi hj]) (by omega) (by omega)).2
  rw [h2]
  exact h1
theorem inv_picked {k : Nat} (k1 : 1 ≤ k) (k2 : k ≤ 8) (l : List Int) (hok : okM (k : Int) (k : Int) l = true) (hl : l.length ≤ 1000000000) (hr : (red k k 0 0 (h0_inv l k k)).2 = k) (K : Nat) (hK : 1 ≤ K) : ∃ a b c, impl_MatrixInv.f K (k : Int) (k : Int) l = some (a, b, c, 0) := by
  unfold impl_MatrixInv.f impl_MatrixRight.f ExtRight.mright
  obtain ⟨K, rfl⟩ : ∃ m, K = m + 1 := ⟨K - 1, by omega⟩
  rw [if_pos hl, Option.bind_some, ← okM_same, hok, if_pos rfl, impl_MatrixInv.j0, if_neg (by simp)]
  unfold impl_Matrix_inverse.f
  have hr' : ¬ (red k k 0 0 (h0_inv l k k)).2 < k := by omega
  rw [← okM_same, if_pos ⟨hok, rfl⟩, Option.bind_some, Int.toNat_natCast, if_neg hr', if_pos rfl]
  exact ⟨_, _, _, rfl⟩
theorem rank_p {k : Nat} (l : List Int) (hok : okM (k : Int) (k : Int) l = true) (hl : l.length ≤ 1000000000) (hr : (red k k 0 0 (h0_rank l k k)).2 = k) : impl_MatrixRank.f (k : Int) (k : Int) l = some (k : Int) := by
  unfold impl_MatrixRank.f impl_MatrixRight.f ExtRight.mright
  rw [if_pos hl, Option.bind_some, ← okM_same, hok, if_pos rfl]
  unfold impl_Matrix_reduced.f
  rw [← okM_same, if_pos hok, Option.bind_some, Int.toNat_natCast]
  show some (((red k k 0 0 (h0_rank l k k)).2 : Nat) : Int) = _
  rw [hr]
end FnCauchy_
open FnCauchy_
theorem FnCauchy : laws_FnCauchy.Pure := by
  intro x y _ hx _ _ hy _
  suffices main : ∀ K : Nat, 3000 ≤ K → laws_FnCauchy.f K x y = some true from ⟨_, main 3000 (by omega)⟩
  intro K hK
  obtain ⟨K, rfl⟩ : ∃ m, K = m + 1 := ⟨K - 1, by omega⟩
  unfold laws_FnCauchy.f
  have hj : laws_FnCauchy.j0 (K + 1) x y false = some true := by
    obtain ⟨a, b, e⟩ := draw_cauchy x (by omega) K (by omega)
    rw [laws_FnCauchy.j0, if_neg (by simp), e, Option.bind_some]
    simp only []
    rw [impl_Cauchy_f a b K (by omega), Option.bind_some, spec_codeRight, Option.bind_some, spec_cauchy a b K (by omega)]
    by_cases hc : codeOk a b = true
    · rw [if_pos hc]
      obtain ⟨k, m, rfl, rfl, k1, k2, m2⟩ := codeOk_out hc
      unfold resCauchy
      rw [if_pos hc, Int.toNat_natCast, Int.toNat_natCast]
      have hcl := cauchy_len k m
      have hkk : (k + m) * k ≤ 14 * 8 := Nat.mul_le_mul (by omega) k2
      rw [if_pos rfl, Option.bind_some]
      simp only []
      rw [same_eq _ _ (cauchyL k m) (by omega) K (by omega), Option.bind_some]
      obtain ⟨K, rfl⟩ : ∃ m, K = m + 1 := ⟨K - 1, by omega⟩
      rw [laws_FnCauchy.j1, if_neg (by simp), ← Int.natCast_add, w_nat (k + m) (by omega)]
      obtain ⟨R, hR, hR1, hR2, hR3⟩ := rows_eq y k (k + m) (by omega) (by omega) K (by omega)
      rw [hR, Option.bind_some, impl_pick _ _ (cauchyL k m) (natL R) (by omega) K (by omega), Option.bind_some]
      have hokc : okM ((k + m : Nat) : Int) (k : Int) (cauchyL k m) = true := okM_in (by omega) (by omega) k1 (by omega) hcl (cauchy_bytes k m)
      have hall : (natL R).all (rowOk (k + m)) = true := by
        rw [List.all_eq_true]
        intro z hz
        unfold natL at hz
        obtain ⟨r, hr, rfl⟩ := List.mem_map.1 hz
        have := hR3 r hr
        exact decide_eq_true (by omega)
      have hres : resPick ((k + m : Nat) : Int) (k : Int) (cauchyL k m) (natL R) = ((k : Int), (k : Int), grid (fun i j => un (pickH k R i j)) k (k * k), 0) := by
        unfold resPick
        rw [natL_len, hR1, if_neg (by omega), Int.toNat_natCast, Int.toNat_natCast, if_pos ⟨hokc, by omega, by omega, hall⟩, picked_eq hR3, hR1]
      rw [hres]
      have hkk2 : k * k ≤ 8 * 8 := Nat.mul_le_mul k2 k2
      have hokp : okM (k : Int) (k : Int) (grid (fun i j => un (pickH k R i j)) k (k * k)) = true := okM_in k1 (by omega) k1 (by omega) (grid_len _ _ _) (picked_bytes k R _)
      have hlp : (grid (fun i j => un (pickH k R i j)) k (k * k)).length ≤ 1000000000 := by rw [grid_len]; omega
      have hb16 : ∀ r ∈ R, r < 16 := fun r hr => by have := hR3 r hr; omega
      obtain ⟨a', b', c', hinv⟩ := inv_picked k1 k2 _ hokp hlp (rank_picked k1 k2 R hR1 hR2 hb16 _ (fun i j hi hj => by unfold h0_inv; rw [if_pos hj])) K (by omega)
      have hrank := rank_p (k := k) _ hokp hlp (rank_picked k1 k2 R hR1 hR2 hb16 _ (fun i j hi hj => by unfold h0_rank; rfl))
      simp only []
      rw [if_pos (by first | rfl | exact True.intro), hinv, Option.bind_some]
      simp only []
      rw [if_pos (by first | rfl | exact True.intro), hrank, Option.bind_some]
      simp
    · rw [if_neg hc]
      unfold resCauchy
      rw [if_neg hc, if_pos rfl, impl_codeRight, Option.bind_some, Bool.eq_false_iff.2 hc]
      rfl
  by_cases h1 : (x.length : Int) > 1048576
  · rw [if_pos h1, laws_FnCauchy.j0, if_pos rfl]
  · rw [if_neg h1]
    by_cases h2 : (y.length : Int) > 1048576
    · rw [decide_eq_true h2, laws_FnCauchy.j0, if_pos rfl]
    · rw [decide_eq_false h2]
      exact hj
end Go.Proofs.Ytlololbhlnapkaa.Pure
