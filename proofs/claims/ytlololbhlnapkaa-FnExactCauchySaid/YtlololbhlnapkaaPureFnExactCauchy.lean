/-
  The law FnExactCauchy, over plain values: program and reference give the same matrix of any code. No conditions.
-/
import Derived.Test.YtlololbhlnapkaaAid
import Derived.Test.YtlololbhlnapkaaMc
import Derived.Test.YtlololbhlnapkaaXFnExactCauchyx4
namespace Go.Proofs.Ytlololbhlnapkaa.Pure
open Go.RowKit Go.Proofs.Ytlololbhlnapkaa.XFnExactCauchy Go.Proofs.Ytlololbhlnapkaa.Gf Go.Proofs.Ytlololbhlnapkaa.FieldAid Go.Proofs.Ytlololbhlnapkaa.Mp Go.Proofs.YtlololbhlnapkaaW.PrintWords Go.Proofs.YtlololbhlnapkaaW.PrintLast Go.Proofs.YtlololbhlnapkaaW.PrintMore
open Go.Proofs.Ytlololbhlnapkaa.Mc
set_option linter.unusedVariables false
set_option linter.unusedSimpArgs false
namespace FnExactCauchy_

theorem eqInts_l0 (l : List Int) (hl : l.length ≤ 1000000000) (d : Nat) : ∀ (k i : Nat), i + d = l.length → d + 1 ≤ k → laws_eqInt64S.l0 k l l (i : Int) = some true := by
  induction d with
  | zero =>
    intro k i hi hk
    obtain ⟨k, rfl⟩ : ∃ m, k = m + 1 := ⟨k - 1, by omega⟩
    rw [laws_eqInt64S.l0, if_neg (by omega)]
  | succ d ih =>
    intro k i hi hk
    obtain ⟨k, rfl⟩ : ∃ m, k = m + 1 := ⟨k - 1, by omega⟩
    rw [laws_eqInt64S.l0, if_pos (by omega), if_pos (by omega), if_pos (by omega), if_pos rfl, show wrap64 ((i : Int) + 1) = ((i + 1 : Nat) : Int) by unfold wrap64; omega]
    exact ih k (i + 1) (by omega) (by omega)
theorem eqInts (l : List Int) (hl : l.length ≤ 1000000000) (k : Nat) (hk : l.length + 1 ≤ k) : laws_eqInt64S.f k l l = some true := by
  unfold laws_eqInt64S.f
  rw [if_pos rfl]
  exact eqInts_l0 l hl l.length k 0 (by omega) hk

theorem eqMatrix_same (a b : Int) (l : List Int) (hl : l.length ≤ 1000000000) (k : Nat) (hk : l.length + 1 ≤ k) : laws_eqMatrix.f k a b l a b l = some true := by
  unfold laws_eqMatrix.f
  rw [if_pos rfl, if_pos rfl, eqInts l hl k hk]
  rfl

theorem eqOut_same (a b : Int) (l : List Int) (c : Int) (hl : l.length ≤ 1000000000) (k : Nat) (hk : l.length + 1 ≤ k) : laws_eqMatrixOut.f k a b l c a b l c = some true := by
  unfold laws_eqMatrixOut.f
  rw [eqMatrix_same a b l hl k hk, Option.bind_some, if_pos rfl, if_pos rfl]

theorem markInts_l0 (s : Int) (hs : 0 < s) (d : Nat) : ∀ (k i : Nat) (l : List Int), i + d = l.length → s + l.length ≤ 2000000000 → d + 1 ≤ k → (∀ j : Nat, j < i → l[j]? = some (s + (j : Int))) →
    ∃ l' : List Int, laws_markInt64S.l0 k l (s + i) i = some (s + l.length, l') ∧ l'.length = l.length ∧ ∀ j : Nat, j < l.length → l'[j]? = some (s + (j : Int)) := by
  induction d with
  | zero =>
    intro k i l hi hl hk h
    obtain ⟨k, rfl⟩ : ∃ m, k = m + 1 := ⟨k - 1, by omega⟩
    refine ⟨l, ?_, rfl, fun j hj => h j (by omega)⟩
    rw [laws_markInt64S.l0, if_neg (by omega)]
    congr 2
    omega
  | succ d ih =>
    intro k i l hi hl hk h
    obtain ⟨k, rfl⟩ : ∃ m, k = m + 1 := ⟨k - 1, by omega⟩
    have hset : (l.set i (s + (i : Int))).length = l.length := List.length_set ..
    obtain ⟨l', e, h1, h2⟩ := ih k (i + 1) (l.set i (s + (i : Int))) (by omega) (by omega) (by omega) (by
      intro j hj
      by_cases hji : j = i
      · subst hji
        rw [List.getElem?_set_self (by omega)]
      · rw [List.getElem?_set_ne (by omega)]
        exact h j (by omega))
    rw [hset] at e h1 h2
    refine ⟨l', ?_, h1, h2⟩
    rw [laws_markInt64S.l0, if_pos (by omega), if_pos (by omega), Int.toNat_natCast, show wrap64 (s + (i : Int) + 1) = s + ((i + 1 : Nat) : Int) by unfold wrap64; omega, show wrap64 ((i : Int) + 1) = ((i + 1 : Nat) : Int) by unfold wrap64; omega]
    exact e
theorem heldInts_l0 (s : Int) (hs : 0 < s) (l : List Int) (hl : s + l.length ≤ 2000000000) (h : ∀ j : Nat, j < l.length → l[j]? = some (s + (j : Int))) (d : Nat) :
    ∀ (k i : Nat), i + d = l.length → d + 1 ≤ k → laws_heldInt64S.l0 k l (s + i) i = some (s + l.length) := by
  induction d with
  | zero =>
    intro k i hi hk
    obtain ⟨k, rfl⟩ : ∃ m, k = m + 1 := ⟨k - 1, by omega⟩
    rw [laws_heldInt64S.l0, if_neg (by omega)]
    congr 1
    omega
  | succ d ih =>
    intro k i hi hk
    obtain ⟨k, rfl⟩ : ∃ m, k = m + 1 := ⟨k - 1, by omega⟩
    have hr : rd l (i : Int) = s + (i : Int) := by
      unfold rd
      rw [Int.toNat_natCast, List.getD_eq_getElem?_getD, h i (by omega), Option.getD_some]
    rw [laws_heldInt64S.l0, if_pos (by omega), if_pos (by omega), hr, if_pos rfl, show wrap64 (s + (i : Int) + 1) = s + ((i + 1 : Nat) : Int) by unfold wrap64; omega, show wrap64 ((i : Int) + 1) = ((i + 1 : Nat) : Int) by unfold wrap64; omega]
    exact ih k (i + 1) (by omega) (by omega)
/-- marked, and held: what is marked is found so again. -/
theorem marks_ints (l : List Int) (s : Int) (hs : 0 < s) (hl : s + l.length ≤ 2000000000) (k : Nat) (hk : l.length + 1 ≤ k) :
    ∃ l', laws_markInt64S.f k l s = some (s + l.length, l') ∧ l'.length = l.length ∧ ∀ k', l.length + 1 ≤ k' → laws_heldInt64S.f k' l' s = some (s + l.length) := by
  obtain ⟨l', e, h1, h2⟩ := markInts_l0 s hs l.length k 0 l (by omega) hl hk (fun j hj => absurd hj (by omega))
  have z : s + ((0 : Nat) : Int) = s := by omega
  refine ⟨l', ?_, h1, fun k' hk' => ?_⟩
  · rw [z] at e
    exact e
  · have e2 := heldInts_l0 s hs l' (by omega) (fun j hj => h2 j (by omega)) l'.length k' 0 (by omega) (by omega)
    rw [h1, z] at e2
    exact e2

theorem rd_get (l : List Int) (i : Nat) (h : i < l.length) : rd l (i : Int) = l[i] := by
  unfold rd
  rw [Int.toNat_natCast, List.getD_eq_getElem?_getD, List.getElem?_eq_getElem h, Option.getD_some]

theorem rdL_get (ls : List (List Int)) (i : Nat) (h : i < ls.length) : rd_L1 ls (i : Int) = ls[i] := by
  unfold rd_L1
  rw [Int.toNat_natCast, List.getD_eq_getElem?_getD, List.getElem?_eq_getElem h, Option.getD_some]
theorem flat_step (ls : List (List Int)) (i : Nat) (h : i < ls.length) : (ls.drop i).flatten = ls[i] ++ (ls.drop (i + 1)).flatten := by
  rw [List.drop_eq_getElem_cons h, List.flatten_cons]
theorem concat_l1 (ls : List (List Int)) (hl : ls.length ≤ 1000000) (d : Nat) : ∀ (k i : Nat) (out : List Int), i + d = ls.length → out.length + (ls.drop i).flatten.length ≤ 1000000 → d + 1 ≤ k →
    slices_Concat_int64_int64.l1 k out ls (ls.length : Int) (i : Int) = some (out ++ (ls.drop i).flatten) := by
  induction d with
  | zero =>
    intro k i out hi ho hk
    obtain ⟨k, rfl⟩ : ∃ m, k = m + 1 := ⟨k - 1, by omega⟩
    rw [slices_Concat_int64_int64.l1, if_neg (by omega), List.drop_of_length_le (by omega)]
    simp
  | succ d ih =>
    intro k i out hi ho hk
    obtain ⟨k, rfl⟩ : ∃ m, k = m + 1 := ⟨k - 1, by omega⟩
    have hs := flat_step ls i (by omega)
    rw [hs, List.length_append] at ho
    rw [slices_Concat_int64_int64.l1, if_pos (by omega), if_pos (by omega), if_pos (by omega), rdL_get ls i (by omega), if_pos (by omega), show wrap64 ((i : Int) + 1) = ((i + 1 : Nat) : Int) by unfold wrap64; omega,
      ih k (i + 1) _ (by omega) (by rw [List.length_append]; omega) (by omega), hs, List.append_assoc]
theorem concat_l0 (ls : List (List Int)) (hl : ls.length ≤ 1000000) (hf : ls.flatten.length ≤ 1000000) (d : Nat) : ∀ (k i n : Nat), i + d = ls.length → n + (ls.drop i).flatten.length = ls.flatten.length → d + ls.length + 2 ≤ k →
    slices_Concat_int64_int64.l0 k ls (n : Int) ls (ls.length : Int) (i : Int) = some ls.flatten := by
  induction d with
  | zero =>
    intro k i n hi ho hk
    obtain ⟨k, rfl⟩ : ∃ m, k = m + 1 := ⟨k - 1, by omega⟩
    rw [slices_Concat_int64_int64.l0, if_neg (by omega)]
    unfold slices_Grow_int64_int64.f
    rw [if_pos (by omega), if_pos (by omega), Option.bind_some]
    have h := concat_l1 ls hl ls.length k 0 [] (by omega) (by simp only [List.drop_zero, List.length_nil]; omega) (by omega)
    rw [List.drop_zero, List.nil_append] at h
    exact h
  | succ d ih =>
    intro k i n hi ho hk
    obtain ⟨k, rfl⟩ : ∃ m, k = m + 1 := ⟨k - 1, by omega⟩
    have hs := flat_step ls i (by omega)
    rw [hs, List.length_append] at ho
    rw [slices_Concat_int64_int64.l0, if_pos (by omega), if_pos (by omega), if_pos (by omega), rdL_get ls i (by omega), show wrap64 ((n : Int) + (ls[i].length : Int)) = ((n + ls[i].length : Nat) : Int) by unfold wrap64; omega, if_neg (by omega),
      show wrap64 ((i : Int) + 1) = ((i + 1 : Nat) : Int) by unfold wrap64; omega]
    exact ih k (i + 1) _ (by omega) (by omega) (by omega)
theorem concat_eq (ls : List (List Int)) (hl : ls.length ≤ 1000000) (hf : ls.flatten.length ≤ 1000000) (k : Nat) (hk : 2 * ls.length + 2 ≤ k) : slices_Concat_int64_int64.f k ls = some ls.flatten := by
  unfold slices_Concat_int64_int64.f
  exact concat_l0 ls hl hf ls.length k 0 0 (by omega) (by rw [List.drop_zero]; omega) (by omega)

theorem matrixOf_eq (ls : List (List Int)) (h0 : 0 < ls.length) (hl : ls.length ≤ 1000000) (hf : ls.flatten.length ≤ 1000000) (k : Nat) (hk : 2 * ls.length + 2 ≤ k) : impl_matrixOf.f k ls = some ((ls.length : Int), (ls[0].length : Int), ls.flatten) := by
  unfold impl_matrixOf.f impl_size_int64_144.f impl_size_int64_67.f
  rw [Option.bind_some, if_pos (by omega), Option.bind_some, concat_eq ls hl hf k hk, Option.bind_some, show (0 : Int) = ((0 : Nat) : Int) from rfl, rdL_get ls 0 h0]

theorem spec_l02Mul_l0 (k : Nat) : ∀ (a o : Gf.B) (n : Nat), n < 256 → n < 2 ^ k → spec_l02Mul.l0 (k + 1) (un a) (n : Int) (un o) = some (un (o ^^^ Gf.mul a (BitVec.ofNat 8 n))) := by
  induction k with
  | zero =>
    intro a o n _ h
    obtain rfl : n = 0 := by omega
    simp only [spec_l02Mul.l0]
    rw [if_neg (by omega), show BitVec.ofNat 8 0 = 0#8 from rfl, Gf.mul_zero, BitVec.xor_zero]
  | succ k ih =>
    intro a o n h8 h
    rw [spec_l02Mul.l0]
    by_cases h0 : n = 0
    · subst h0
      rw [if_neg (by omega), show BitVec.ofNat 8 0 = 0#8 from rfl, Gf.mul_zero, BitVec.xor_zero]
    · rw [if_pos (by omega), mul_next a o n h8]
      rw [← ih (Gf.xt a) (if n % 2 = 1 then o ^^^ a else o) (n / 2) (by omega) (by rw [Nat.pow_succ] at h; omega)]
      simp only [odd_tmod, half_tdiv n (by omega), w_2un, xor_un]
      by_cases hp : n % 2 = 1 <;> by_cases hx : un a * 2 > 255
      · rw [if_pos (by omega), if_pos hx, if_pos hp, xt_high a hx]
      · rw [if_pos (by omega), if_neg hx, if_pos hp, xt_low a hx]
      · rw [if_neg (by omega), if_pos hx, if_neg hp, xt_high a hx]
      · rw [if_neg (by omega), if_neg hx, if_neg hp, xt_low a hx]
theorem spec_l02Mul_f (k : Nat) (hk : 9 ≤ k) (a b : Gf.B) : spec_l02Mul.f k (un a) (un b) = some (un (Gf.mul a b)) := by
  obtain ⟨m, rfl⟩ : ∃ m, k = m + 1 := ⟨k - 1, by omega⟩
  have h := spec_l02Mul_l0 m a 0#8 b.toNat b.isLt (Nat.lt_of_lt_of_le b.isLt (Nat.pow_le_pow_right (by decide) (show 8 ≤ m by omega)))
  rw [ofNat_un, BitVec.zero_xor] at h
  exact h

theorem impl_mul_l0 (k : Nat) : ∀ (a o : Gf.B) (n : Nat), n < 256 → n < 2 ^ k → impl_mul.l0 (k + 1) (un a) (n : Int) (un o) = some (un (o ^^^ Gf.mul a (BitVec.ofNat 8 n))) := by
  induction k with
  | zero =>
    intro a o n _ h
    obtain rfl : n = 0 := by omega
    simp only [impl_mul.l0]
    rw [if_neg (by omega), show BitVec.ofNat 8 0 = 0#8 from rfl, Gf.mul_zero, BitVec.xor_zero]
  | succ k ih =>
    intro a o n h8 h
    rw [impl_mul.l0]
    by_cases h0 : n = 0
    · subst h0
      rw [if_neg (by omega), show BitVec.ofNat 8 0 = 0#8 from rfl, Gf.mul_zero, BitVec.xor_zero]
    · rw [if_pos (by omega), mul_next a o n h8]
      rw [← ih (Gf.xt a) (if n % 2 = 1 then o ^^^ a else o) (n / 2) (by omega) (by rw [Nat.pow_succ] at h; omega)]
      simp only [odd_and n (by omega), half_div, w_un2, xor_un]
      by_cases hp : n % 2 = 1 <;> by_cases hx : un a * 2 > 255
      · rw [if_pos (by omega), if_pos hx, if_pos hp, xt_high a hx]
      · rw [if_pos (by omega), if_neg hx, if_pos hp, xt_low a hx]
      · rw [if_neg (by omega), if_pos hx, if_neg hp, xt_high a hx]
      · rw [if_neg (by omega), if_neg hx, if_neg hp, xt_low a hx]
theorem impl_mul_f (k : Nat) (hk : 9 ≤ k) (a b : Gf.B) : impl_mul.f k (un a) (un b) = some (un (Gf.mul a b)) := by
  obtain ⟨m, rfl⟩ : ∃ m, k = m + 1 := ⟨k - 1, by omega⟩
  have h := impl_mul_l0 m a 0#8 b.toNat b.isLt (Nat.lt_of_lt_of_le b.isLt (Nat.pow_le_pow_right (by decide) (show 8 ≤ m by omega)))
  rw [ofNat_un, BitVec.zero_xor] at h
  exact h

theorem spec_l02Pow_l0 (k : Nat) : ∀ (a o : Gf.B) (n : Nat), n < 2 ^ 60 → n < 2 ^ k → spec_l02Pow.l0 (k + 10) (un a) (n : Int) (un o) = some (un (Gf.mul o (Gf.pw a n))) := by
  induction k with
  | zero =>
    intro a o n _ h
    obtain rfl : n = 0 := by omega
    rw [show 0 + 10 = 9 + 1 from rfl, spec_l02Pow.l0, if_neg (by omega), Gf.pw, Gf.mul_one]
  | succ k ih =>
    intro a o n h8 h
    rw [show k + 1 + 10 = (k + 10) + 1 by omega, spec_l02Pow.l0]
    by_cases h0 : n = 0
    · subst h0
      rw [if_neg (by omega), Gf.pw, Gf.mul_one]
    · rw [if_pos (by omega), pw_next a o n h0]
      rw [← ih (Gf.mul a a) (if n % 2 = 1 then Gf.mul o a else o) (n / 2) (by omega) (by rw [Nat.pow_succ] at h; omega)]
      simp only [odd_tmod, half_tdiv n (by omega), spec_l02Mul_f (k + 10) (by omega), Option.bind_some]
      by_cases hp : n % 2 = 1
      · rw [if_pos (by omega), if_pos hp]
      · rw [if_neg (by omega), if_neg hp]
theorem spec_l02Pow_f (j k : Nat) (hk : j + 10 ≤ k) (a : Gf.B) (n : Nat) (h60 : n < 2 ^ 60) (h : n < 2 ^ j) : spec_l02Pow.f k (un a) (n : Int) = some (un (Gf.pw a n)) := by
  obtain ⟨m, rfl⟩ : ∃ m, k = m + 10 := ⟨k - 10, by omega⟩
  have e := spec_l02Pow_l0 m a 1#8 n h60 (Nat.lt_of_lt_of_le h (Nat.pow_le_pow_right (by decide) (show j ≤ m by omega)))
  rw [Gf.one_mul] at e
  exact e

theorem impl_pow_l0 (k : Nat) : ∀ (a o : Gf.B) (n : Nat), n < 2 ^ 60 → n < 2 ^ k → impl_pow.l0 (k + 10) (un a) (n : Int) (un o) = some (un (Gf.mul o (Gf.pw a n))) := by
  induction k with
  | zero =>
    intro a o n _ h
    obtain rfl : n = 0 := by omega
    rw [show 0 + 10 = 9 + 1 from rfl, impl_pow.l0, if_neg (by omega), Gf.pw, Gf.mul_one]
  | succ k ih =>
    intro a o n h8 h
    rw [show k + 1 + 10 = (k + 10) + 1 by omega, impl_pow.l0]
    by_cases h0 : n = 0
    · subst h0
      rw [if_neg (by omega), Gf.pw, Gf.mul_one]
    · rw [if_pos (by omega), pw_next a o n h0]
      rw [← ih (Gf.mul a a) (if n % 2 = 1 then Gf.mul o a else o) (n / 2) (by omega) (by rw [Nat.pow_succ] at h; omega)]
      simp only [odd_and n (by omega), half_div, impl_mul_f (k + 10) (by omega), Option.bind_some]
      by_cases hp : n % 2 = 1
      · rw [if_pos (by omega), if_pos hp]
      · rw [if_neg (by omega), if_neg hp]
theorem impl_pow_f (j k : Nat) (hk : j + 10 ≤ k) (a : Gf.B) (n : Nat) (h60 : n < 2 ^ 60) (h : n < 2 ^ j) : impl_pow.f k (un a) (n : Int) = some (un (Gf.pw a n)) := by
  obtain ⟨m, rfl⟩ : ∃ m, k = m + 10 := ⟨k - 10, by omega⟩
  have e := impl_pow_l0 m a 1#8 n h60 (Nat.lt_of_lt_of_le h (Nat.pow_le_pow_right (by decide) (show j ≤ m by omega)))
  rw [Gf.one_mul] at e
  exact e

theorem impl_inv_f (k : Nat) (hk : 18 ≤ k) (a : Gf.B) : impl_inv.f k (un a) = some (un (Gf.inv a)) := by
  unfold impl_inv.f
  rw [show (254 : Int) = ((254 : Nat) : Int) from rfl, impl_pow_f 8 k (by omega) a 254 (by omega) (by omega), Option.bind_some]
  rfl
theorem spec_inv_f (k : Nat) (hk : 18 ≤ k) (a : Gf.B) : spec_FieldInv.f k (un a) = some (un (Gf.inv a)) := by
  have hb := un_bd a
  unfold spec_FieldInv.f spec_l02Byte.f
  rw [if_pos hb.1, Option.bind_some, decide_eq_true hb.2, if_pos rfl]
  by_cases h : un a = 0
  · rw [if_pos h]
    rw [un_eq_zero] at h
    rw [h, Gf.inv_zero]
    rfl
  · rw [if_neg h, show (254 : Int) = ((254 : Nat) : Int) from rfl, spec_l02Pow_f 8 k (by omega) a 254 (by omega) (by omega), Option.bind_some]
    rfl

theorem unit_l0 (k : Nat) (hk : k ≤ 16) (d : Nat) : ∀ (K i : Nat), i + d = k → d + 1 ≤ K →
    spec_l03Unit.l0 K (k : Int) (i : Int) (k : Int) (k : Int) (grid (fun a b => if a = b ∧ a < i then 1 else 0) k (k * k)) = some ((k : Int), (k : Int), grid (fun a b => if a = b then 1 else 0) k (k * k)) := by
  have hkk := side_le hk hk
  induction d with
  | zero =>
    intro K i hi hK
    obtain ⟨K, rfl⟩ : ∃ m, K = m + 1 := ⟨K - 1, by omega⟩
    rw [spec_l03Unit.l0, if_neg (by omega)]
    congr 3
    by_cases h0 : k = 0
    · subst h0
      rfl
    · refine grid_congr (by omega) (fun a b hb hab => ?_)
      have ha : a < k := by
        refine Nat.lt_of_not_le (fun hc => ?_)
        have := Nat.mul_le_mul_right k hc
        omega
      by_cases e : a = b
      · rw [if_pos ⟨e, by omega⟩, if_pos e]
      · rw [if_neg (fun h => e h.1), if_neg e]
  | succ d ih =>
    intro K i hi hK
    obtain ⟨K, rfl⟩ : ∃ m, K = m + 1 := ⟨K - 1, by omega⟩
    have hs := step_le k (show i < k by omega)
    rw [spec_l03Unit.l0, if_pos (by omega), w_mul i k (by omega), ← Int.natCast_add, w_nat (i * k + i) (by omega), if_pos (by omega), if_pos (by rw [grid_len]; omega), w_succ i (by omega), Int.toNat_natCast,
      grid_set (h' := fun a b => if a = b ∧ a < i + 1 then 1 else 0) (by omega) (if_pos ⟨rfl, by omega⟩) (fun a b hb hab => ?_)]
    · exact ih K (i + 1) (by omega) (by omega)
    · by_cases e : a = b
      · by_cases e2 : a < i
        · rw [if_pos ⟨e, by omega⟩, if_pos ⟨e, e2⟩]
        · rw [if_neg (fun h => hab ⟨by omega, by omega⟩), if_neg (fun h => e2 h.2)]
      · rw [if_neg (fun h => e h.1), if_neg (fun h => e h.1)]
theorem unit_eq (k : Nat) (hk : k ≤ 16) (K : Nat) (hK : k + 1 ≤ K) : spec_l03Unit.f K (k : Int) = some ((k : Int), (k : Int), grid (fun a b => if a = b then 1 else 0) k (k * k)) := by
  have hkk := side_le hk hk
  unfold spec_l03Unit.f
  rw [w_mul k k (by omega), if_pos (by omega), Int.toNat_natCast, if_pos (by omega), grid_zeros k]
  have h := unit_l0 k hk k K 0 (by omega) hK
  have e : (fun a b : Nat => if a = b ∧ a < 0 then (1 : Int) else 0) = fun _ _ => 0 := by
    funext a b
    rw [if_neg (fun h => by omega)]
  rw [e] at h
  exact h

theorem spec_cauchy_l1 (k m i : Nat) (h1 : 1 ≤ k) (hk : k ≤ 8) (hm : m ≤ 6) (hi : i < m) (K : Nat) (hK : 18 ≤ K) (d : Nat) : ∀ (j : Nat), j + d = k →
    spec_Cauchy.l1 (K + d + 1) (k : Int) (m : Int) (i : Int) (j : Int) ((k + m : Nat) : Int) (k : Int) (grid (cauchyC k) k ((k + i) * k + j)) = spec_Cauchy.l0 K (k : Int) (m : Int) ((i + 1 : Nat) : Int) ((k + m : Nat) : Int) (k : Int) (grid (cauchyC k) k ((k + (i + 1)) * k)) := by
  induction d with
  | zero =>
    intro j hj
    obtain rfl : j = k := by omega
    rw [spec_Cauchy.l1, if_neg (by omega), w_succ i (by omega), show (j + (i + 1)) * j = (j + i) * j + j by rw [← Nat.succ_mul]; rfl]
  | succ d ih =>
    intro j hj
    have hs : (k + i) * k ≤ 14 * 8 := Nat.mul_le_mul (by omega) hk
    rw [spec_Cauchy.l1, if_pos (by omega), ← Int.natCast_add, w_nat (k + i) (by omega), xor_nat _ _ (by omega) (by omega), spec_inv_f (K + (d + 1)) (by omega), Option.bind_some, if_pos (by rw [grid_len]; omega), w_succ j (by omega),
      show un (Gf.inv (BitVec.ofNat 8 (k + i) ^^^ BitVec.ofNat 8 j)) = cauchyC k (k + i) j by unfold cauchyC cauchyB; rw [if_neg (by omega)], grid_succ (cauchyC k) (by omega)]
    exact ih (j + 1) (by omega)
theorem spec_cauchy_l0 (k m : Nat) (h1 : 1 ≤ k) (hk : k ≤ 8) (hm : m ≤ 6) (d : Nat) : ∀ (K i : Nat), 18 ≤ K → i + d = m →
    spec_Cauchy.l0 (K + d * (k + 2) + 1) (k : Int) (m : Int) (i : Int) ((k + m : Nat) : Int) (k : Int) (grid (cauchyC k) k ((k + i) * k)) = some (((k + m : Nat) : Int), (k : Int), cauchyL k m, 0) := by
  induction d with
  | zero =>
    intro K i hK hi
    obtain rfl : i = m := by omega
    rw [Nat.zero_mul, Nat.add_zero, spec_Cauchy.l0, if_neg (by omega)]
    rfl
  | succ d ih =>
    intro K i hK hi
    have h := spec_cauchy_l1 k m i h1 hk hm (by omega) (K + d * (k + 2) + 1) (by omega) k 0 (by omega)
    rw [show K + (d + 1) * (k + 2) + 1 = (K + d * (k + 2) + 1 + k + 1) + 1 by rw [Nat.succ_mul]; omega, spec_Cauchy.l0, if_pos (by omega)]
    refine Eq.trans ?_ (ih K (i + 1) hK (by omega))
    exact h
/-- What Cauchy answers. -/
def codeOk (a b : Int) : Bool := decide (1 ≤ a ∧ a ≤ 8 ∧ 0 ≤ b ∧ b ≤ 6)
def resCauchy (a b : Int) : Int × Int × List Int × Int := if codeOk a b = true then (a + b, a, cauchyL a.toNat b.toNat, 0) else (0, 0, [], 1)
theorem codeOk_out {a b : Int} (h : codeOk a b = true) : ∃ k m : Nat, a = (k : Int) ∧ b = (m : Int) ∧ 1 ≤ k ∧ k ≤ 8 ∧ m ≤ 6 := by
  have h' := of_decide_eq_true (show decide (1 ≤ a ∧ a ≤ 8 ∧ 0 ≤ b ∧ b ≤ 6) = true from h)
  obtain ⟨k, rfl⟩ := Int.eq_ofNat_of_zero_le (show 0 ≤ a by omega)
  obtain ⟨m, rfl⟩ := Int.eq_ofNat_of_zero_le (show 0 ≤ b by omega)
  exact ⟨k, m, rfl, rfl, by omega, by omega, by omega⟩
theorem spec_codeRight (a b : Int) : spec_CodeRight.f a b = some (codeOk a b) := by
  unfold spec_CodeRight.f codeOk
  by_cases h1 : a ≥ 1
  · rw [if_pos h1]
    by_cases h2 : a ≤ 8
    · rw [if_pos h2]
      by_cases h3 : b ≥ 0
      · rw [if_pos h3]
        exact congrArg some (decide_eq_decide.2 ⟨fun h => ⟨h1, h2, h3, h⟩, fun h => h.2.2.2⟩)
      · rw [if_neg h3, decide_eq_false (fun h => h3 h.2.2.1)]
    · rw [if_neg h2, decide_eq_false (fun h => h2 h.2.1)]
  · rw [if_neg h1, decide_eq_false (fun h => h1 h.1)]
theorem spec_cauchy (a b : Int) (K : Nat) (hK : 200 ≤ K) : spec_Cauchy.f K a b = some (resCauchy a b) := by
  unfold spec_Cauchy.f resCauchy
  rw [spec_codeRight, Option.bind_some]
  by_cases h : codeOk a b = true
  · rw [if_pos h, if_pos h]
    obtain ⟨k, m, rfl, rfl, k1, k2, m2⟩ := codeOk_out h
    have hc : m * (k + 2) ≤ 6 * 10 := Nat.mul_le_mul m2 (by omega)
    rw [unit_eq k (by omega) K (by omega), Option.bind_some, ← Int.natCast_add, w_nat (k + m) (by omega), Int.toNat_natCast, Int.toNat_natCast,
      grid_congr (h' := cauchyC k) (by omega) (fun x y hy hxy => ?_)]
    · have h := spec_cauchy_l0 k m k1 k2 m2 m (K - (m * (k + 2) + 1)) 0 (by omega) (by omega)
      rw [show K - (m * (k + 2) + 1) + m * (k + 2) + 1 = K by omega] at h
      exact h
    · refine (cauchyC_unit (Nat.lt_of_not_le (fun hc => ?_)) y).symm
      have := Nat.mul_le_mul_right k hc
      omega
  · rw [if_neg h, if_neg h]
    rfl

theorem unit_row (k i : Nat) (hk : k ≤ 8) (hi : i < k) : impl_unit.f (i : Int) (k : Int) = some (line (cauchyC k i) k) := by
  unfold impl_unit.f
  rw [if_pos (by omega), Int.toNat_natCast, if_pos (by omega), Option.bind_some, if_pos (by omega), if_pos (by rw [List.length_replicate]; omega), Int.toNat_natCast, line_zeros]
  refine congrArg some (line_set (f' := cauchyC k i) ?_ (fun b hb => ?_))
  · rw [cauchyC_unit hi, if_pos rfl]
  · rw [cauchyC_unit hi, if_neg (fun h => hb h.symm)]
theorem impl_cauchy_l2 (k m i : Nat) (h1 : 1 ≤ k) (hk : k ≤ 8) (hm : m ≤ 6) (hi : i < m) (K : Nat) (hK : 18 ≤ K) (d : Nat) : ∀ (j : Nat), j + d = k →
    impl_cauchy.l2 (K + d + 1) (k : Int) (rowsH (cauchyC k) k (k + i)) (i : Int) (line (cauchyC k (k + i)) j) (m : Int) (i : Int) (k : Int) (j : Int) = impl_cauchy.l1 K (k : Int) (rowsH (cauchyC k) k (k + (i + 1))) (m : Int) ((i + 1 : Nat) : Int) := by
  induction d with
  | zero =>
    intro j hj
    obtain rfl : j = k := by omega
    rw [impl_cauchy.l2, if_neg (by omega), if_pos (by rw [rowsH_len]; omega), w_succ i (by omega), rowsH_succ]
    rfl
  | succ d ih =>
    intro j hj
    rw [impl_cauchy.l2, if_pos (by omega), ← Int.natCast_add, w_nat (k + i) (by omega), xor_nat _ _ (by omega) (by omega), impl_inv_f (K + (d + 1)) (by omega), Option.bind_some, if_pos (by rw [line_len]; omega), w_succ j (by omega),
      show un (Gf.inv (BitVec.ofNat 8 (k + i) ^^^ BitVec.ofNat 8 j)) = cauchyC k (k + i) j by unfold cauchyC cauchyB; rw [if_neg (by omega)], line_succ]
    exact ih (j + 1) (by omega)
theorem impl_cauchy_l1 (k m : Nat) (h1 : 1 ≤ k) (hk : k ≤ 8) (hm : m ≤ 6) (d : Nat) : ∀ (K i : Nat), 50 ≤ K → i + d = m →
    impl_cauchy.l1 (K + d * (k + 2) + 1) (k : Int) (rowsH (cauchyC k) k (k + i)) (m : Int) (i : Int) = some (((k + m : Nat) : Int), (k : Int), cauchyL k m) := by
  induction d with
  | zero =>
    intro K i hK hi
    obtain rfl : i = m := by omega
    have hs : (k + i) * k ≤ 14 * 8 := Nat.mul_le_mul (by omega) hk
    have e0 : (rowsH (cauchyC k) k (k + i))[0]? = some (line (cauchyC k 0) k) := rowsH_get _ (by omega)
    have e1 := (List.getElem?_eq_some_iff.1 e0).2
    have hL := rowsH_len (cauchyC k) k (k + i)
    rw [Nat.zero_mul, Nat.add_zero, impl_cauchy.l1, if_neg (by omega), matrixOf_eq (rowsH (cauchyC k) k (k + i)) (by omega) (by omega) (by rw [rowsH_flat, grid_len]; omega) _ (by omega), Option.bind_some, e1, line_len, rowsH_flat, hL]
    rfl
  | succ d ih =>
    intro K i hK hi
    have h := impl_cauchy_l2 k m i h1 hk hm (by omega) (K + d * (k + 2) + 1) (by omega) k 0 (by omega)
    rw [show K + (d + 1) * (k + 2) + 1 = (K + d * (k + 2) + 1 + k + 1) + 1 by rw [Nat.succ_mul]; omega, impl_cauchy.l1, if_pos (by omega)]
    refine Eq.trans ?_ (ih K (i + 1) hK (by omega))
    exact h
theorem impl_cauchy_l0 (k m : Nat) (hk : k ≤ 8) (hm : m ≤ 6) (K : Nat) (d : Nat) : ∀ (i : Nat), i + d = k →
    impl_cauchy.l0 (K + d + 1) (k : Int) (m : Int) (rowsH (cauchyC k) k i) (k : Int) (i : Int) = impl_cauchy.l1 K (k : Int) (rowsH (cauchyC k) k k) (m : Int) 0 := by
  induction d with
  | zero =>
    intro i hi
    obtain rfl : i = k := by omega
    rw [impl_cauchy.l0, if_neg (by omega)]
  | succ d ih =>
    intro i hi
    rw [impl_cauchy.l0, if_pos (by omega), unit_row k i hk (by omega), Option.bind_some, if_pos (by rw [rowsH_len]; omega), w_succ i (by omega), rowsH_succ]
    exact ih (i + 1) (by omega)
theorem impl_cauchy_f (k m : Nat) (h1 : 1 ≤ k) (hk : k ≤ 8) (hm : m ≤ 6) (K : Nat) (hK : 200 ≤ K) : impl_cauchy.f K (k : Int) (m : Int) = some (((k + m : Nat) : Int), (k : Int), cauchyL k m) := by
  have hc : m * (k + 2) ≤ 6 * 10 := Nat.mul_le_mul hm (by omega)
  have h := impl_cauchy_l0 k m hk hm (K - (k + 1)) k 0 (by omega)
  have h' := impl_cauchy_l1 k m h1 hk hm m (K - (k + 1) - (m * (k + 2) + 1)) 0 (by omega) (by omega)
  rw [show K - (k + 1) + k + 1 = K by omega] at h
  rw [show K - (k + 1) - (m * (k + 2) + 1) + m * (k + 2) + 1 = K - (k + 1) by omega] at h'
  exact h.trans h'
theorem impl_codeRight (a b : Int) : impl_CodeRight.f a b = some (codeOk a b) := by
  unfold impl_CodeRight.f impl_within.f codeOk
  by_cases h1 : a ≥ 1
  · rw [if_pos h1, Option.bind_some]
    by_cases h2 : a ≤ 8
    · rw [decide_eq_true h2, if_pos rfl]
      by_cases h3 : b ≥ 0
      · rw [if_pos h3, Option.bind_some]
        exact congrArg some (decide_eq_decide.2 ⟨fun h => ⟨h1, h2, h3, h⟩, fun h => h.2.2.2⟩)
      · rw [if_neg h3, Option.bind_some, decide_eq_false (fun h => h3 h.2.2.1)]
    · rw [decide_eq_false h2, if_neg (by simp), decide_eq_false (fun h => h2 h.2.1)]
  · rw [if_neg h1, Option.bind_some, if_neg (by simp), decide_eq_false (fun h => h1 h.1)]

theorem impl_Cauchy_f (a b : Int) (K : Nat) (hK : 200 ≤ K) : impl_Cauchy.f K a b = some (resCauchy a b) := by
  unfold impl_Cauchy.f resCauchy
  rw [impl_codeRight, Option.bind_some]
  by_cases h : codeOk a b = true
  · rw [if_pos h, if_pos h]
    obtain ⟨k, m, rfl, rfl, k1, k2, m2⟩ := codeOk_out h
    rw [impl_cauchy_f k m k1 k2 m2 K hK, Option.bind_some, Int.toNat_natCast, Int.toNat_natCast]
    rfl
  · rw [if_neg h, if_neg h]

theorem res_len (a b : Int) : (resCauchy a b).2.2.1.length ≤ 256 := by
  unfold resCauchy
  split
  · rename_i h
    obtain ⟨k, m, rfl, rfl, k1, k2, m2⟩ := codeOk_out h
    show (cauchyL _ _).length ≤ 256
    rw [cauchy_len, Int.toNat_natCast, Int.toNat_natCast]
    exact side_le (by omega) (by omega)
  · exact Nat.zero_le _

end FnExactCauchy_
open FnExactCauchy_

theorem FnExactCauchy : laws_FnExactCauchy.Pure := by
  intro a b _ _
  suffices main : ∀ K : Nat, 1000 ≤ K → laws_FnExactCauchy.f K a b = some true from ⟨_, main 1000 (by omega)⟩
  intro K hK
  unfold laws_FnExactCauchy.f
  have hRl := res_len a b
  rw [spec_cauchy a b K (by omega), Option.bind_some, impl_Cauchy_f a b K (by omega), Option.bind_some]
  generalize resCauchy a b = R at hRl
  obtain ⟨r, e1, e2, e3⟩ := marks_ints R.2.2.1 1 (by omega) (by omega) K (by omega)
  have e4 := e3 K (by omega)
  rw [eqOut_same R.1 R.2.1 R.2.2.1 R.2.2.2 (by omega) K (by omega), Option.bind_some, if_pos rfl]
  unfold laws_markMatrixOut.f laws_markMatrix.f laws_heldMatrixOut.f laws_heldMatrix.f
  rw [e1]
  simp only [Option.bind_some]
  rw [e4]
  simp only [Option.bind_some]
  rw [if_neg (by omega)]
  simp only [Option.bind_some]
  rw [if_neg (by omega)]
  simp only [Option.bind_some]
  rw [if_neg (by omega), if_pos True.intro, eqOut_same R.1 R.2.1 R.2.2.1 R.2.2.2 (by omega) K (by omega), Option.bind_some, if_pos rfl, if_neg (by omega), if_pos True.intro]

end Go.Proofs.Ytlololbhlnapkaa.Pure
