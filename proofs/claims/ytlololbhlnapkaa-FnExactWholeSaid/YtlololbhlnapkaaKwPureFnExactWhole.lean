/-
  The law FnExactWhole, over plain values: program and reference say alike whether shards are whole, for any shards. No conditions beyond the statement's own.
-/
import Derived.Test.YtlololbhlnapkaaKwAid
import Derived.Test.YtlololbhlnapkaaKwMc
import Derived.Test.YtlololbhlnapkaaKwTx
import Derived.Test.YtlololbhlnapkaaKwXFnExactWholex8
namespace Go.Proofs.Ytlololbhlnapkaa.Pure
open Go.RowKit Go.Proofs.Ytlololbhlnapkaa.XFnExactWhole Go.Proofs.Ytlololbhlnapkaa.Gf Go.Proofs.Ytlololbhlnapkaa.FieldAid Go.Proofs.Ytlololbhlnapkaa.Mp Go.Proofs.YtlololbhlnapkaaW.PrintWords Go.Proofs.YtlololbhlnapkaaW.PrintLast Go.Proofs.YtlololbhlnapkaaW.PrintMore
open Go.Proofs.Ytlololbhlnapkaa.Mc Go.Proofs.Ytlololbhlnapkaa.Tx
set_option linter.unusedVariables false
set_option linter.unusedSimpArgs false
namespace FnExactWhole_
theorem txt_get (l : List ByteArray) (i : Nat) (h : i < l.length) : txt l i = l[i] := by
  unfold txt
  rw [List.getD_eq_getElem?_getD, List.getElem?_eq_getElem h, Option.getD_some]
theorem sz_l0 (l : List ByteArray) (hl : l.length ≤ 1000000000) (d : Nat) : ∀ (k i : Nat) (x : Int), i + d = l.length → d + 1 ≤ k → ∃ v, laws_szStringS.l0 k l x (i : Int) = some v := by
  induction d with
  | zero =>
    intro k i x hi hk
    obtain ⟨k, rfl⟩ : ∃ m, k = m + 1 := ⟨k - 1, by omega⟩
    exact ⟨x, by rw [laws_szStringS.l0, if_neg (by omega)]⟩
  | succ d ih =>
    intro k i x hi hk
    obtain ⟨k, rfl⟩ : ∃ m, k = m + 1 := ⟨k - 1, by omega⟩
    rw [laws_szStringS.l0, if_pos (by omega), if_pos (by omega), w_succ i (by omega)]
    by_cases h : wrap64 (x - ((rdOf ByteArray.empty l (i : Int)).size : Int)) < 0
    · exact ⟨-1, if_pos h⟩
    · rw [if_neg h]
      exact ih k (i + 1) _ (by omega) (by omega)
theorem szStrings (l : List ByteArray) (hl : l.length ≤ maxLen) (k : Nat) (hk : 1048576 + 1 ≤ k) : ∃ v, laws_szStringS.f k l 1048576 = some v ∧ (v < 0 ∨ l.length ≤ 1048576) := by
  unfold maxLen at hl
  unfold laws_szStringS.f
  rw [show wrap64 (1048576 - (l.length : Int)) = 1048576 - (l.length : Int) by unfold wrap64; omega]
  by_cases h : (1048576 : Int) - (l.length : Int) < 0
  · rw [if_pos h]
    exact ⟨-1, rfl, .inl (by omega)⟩
  · rw [if_neg h]
    obtain ⟨v, hv⟩ := sz_l0 l (by omega) l.length k 0 (1048576 - (l.length : Int)) (by omega) (by omega)
    exact ⟨v, hv, .inr (by omega)⟩
theorem toStrs_l0 (l : List ByteArray) (hl : l.length ≤ 1000000000) (d : Nat) : ∀ (k i : Nat) (m : List ByteArray), i + d = l.length → m.length = l.length → (∀ j, j < i → m[j]? = l[j]?) → d + 1 ≤ k → laws_toStringS.l0 k l m (i : Int) = some l := by
  induction d with
  | zero =>
    intro k i m hi hm hj hk
    obtain ⟨k, rfl⟩ : ∃ m, k = m + 1 := ⟨k - 1, by omega⟩
    rw [laws_toStringS.l0, if_neg (by omega)]
    congr 1
    apply List.ext_getElem?
    intro j
    by_cases h : j < i
    · exact hj j h
    · rw [List.getElem?_eq_none (by omega), List.getElem?_eq_none (by omega)]
  | succ d ih =>
    intro k i m hi hm hj hk
    obtain ⟨k, rfl⟩ : ∃ m, k = m + 1 := ⟨k - 1, by omega⟩
    rw [laws_toStringS.l0, if_pos (by omega), if_pos (by omega), if_pos (by omega), rdOf_get (by omega), txt_get l i (by omega), Int.toNat_natCast, w_succ i (by omega)]
    refine ih k (i + 1) _ (by omega) (by rw [List.length_set]; exact hm) ?_ (by omega)
    intro j hji
    by_cases h : j = i
    · subst h
      rw [List.getElem?_set_self (by omega), List.getElem?_eq_getElem (by omega)]
    · rw [List.getElem?_set_ne (by omega)]
      exact hj j (by omega)
theorem toStrs_eq (l : List ByteArray) (hl : l.length ≤ 1000000000) (k : Nat) (hk : l.length + 1 ≤ k) : laws_toStringS.f k l = some l := by
  unfold laws_toStringS.f
  rw [if_pos (by omega), if_pos (by omega), Int.toNat_natCast]
  exact toStrs_l0 l hl l.length k 0 _ (by omega) (by simp) (fun j hj => absurd hj (by omega)) hk
theorem eqStrs_l0 (l : List ByteArray) (hl : l.length ≤ 1000000000) (d : Nat) : ∀ (k i : Nat), i + d = l.length → d + 1 ≤ k → laws_eqStringS.l0 k l l (i : Int) = some true := by
  induction d with
  | zero =>
    intro k i hi hk
    obtain ⟨k, rfl⟩ : ∃ m, k = m + 1 := ⟨k - 1, by omega⟩
    rw [laws_eqStringS.l0, if_neg (by omega)]
  | succ d ih =>
    intro k i hi hk
    obtain ⟨k, rfl⟩ : ∃ m, k = m + 1 := ⟨k - 1, by omega⟩
    rw [laws_eqStringS.l0, if_pos (by omega), if_pos (by omega), if_pos (by omega), if_pos rfl, w_succ i (by omega)]
    exact ih k (i + 1) (by omega) (by omega)
theorem eqStrs (l : List ByteArray) (hl : l.length ≤ 1000000000) (k : Nat) (hk : l.length + 1 ≤ k) : laws_eqStringS.f k l l = some true := by
  unfold laws_eqStringS.f
  rw [if_pos rfl]
  exact eqStrs_l0 l hl l.length k 0 (by omega) hk
theorem rd_get (l : List Int) (i : Nat) (h : i < l.length) : rd l (i : Int) = l[i] := by
  unfold rd
  rw [Int.toNat_natCast, List.getD_eq_getElem?_getD, List.getElem?_eq_getElem h, Option.getD_some]
theorem rdL_get (ls : List (List Int)) (i : Nat) (h : i < ls.length) : rd_L3 ls (i : Int) = ls[i] := by
  unfold rd_L3
  rw [Int.toNat_natCast, List.getD_eq_getElem?_getD, List.getElem?_eq_getElem h, Option.getD_some]
theorem flat_step (ls : List (List Int)) (i : Nat) (h : i < ls.length) : (ls.drop i).flatten = ls[i] ++ (ls.drop (i + 1)).flatten := by
  rw [List.drop_eq_getElem_cons h, List.flatten_cons]
theorem concat_l1 (ls : List (List Int)) (hl : ls.length ≤ 1000000) (d : Nat) : ∀ (k i : Nat) (out : List Int), i + d = ls.length → out.length + (ls.drop i).flatten.length ≤ 1000000 → d + 1 ≤ k →
    slices_Concat_int64_int64.l1 k out ls (ls.length : Int) (i : Int) = some (out ++ (ls.drop i).flatten) := by
  induction d with
  | zero =>
    intro k i out hi ho hk
    obtain ⟨k, rfl⟩ : ∃ m, k = m + 1 := ⟨k - 1, by omega⟩
    rw [slices_Concat_int64_int64.l1, if_neg (by omega), List.drop_of_length_le (by omega)]
    simp
  | succ d ih =>
    intro k i out hi ho hk
    obtain ⟨k, rfl⟩ : ∃ m, k = m + 1 := ⟨k - 1, by omega⟩
    have hs := flat_step ls i (by omega)
    rw [hs, List.length_append] at ho
    rw [slices_Concat_int64_int64.l1, if_pos (by omega), if_pos (by omega), if_pos (by omega), rdL_get ls i (by omega), if_pos (by omega), show wrap64 ((i : Int) + 1) = ((i + 1 : Nat) : Int) by unfold wrap64; omega,
      ih k (i + 1) _ (by omega) (by rw [List.length_append]; omega) (by omega), hs, List.append_assoc]
theorem concat_l0 (ls : List (List Int)) (hl : ls.length ≤ 1000000) (hf : ls.flatten.length ≤ 1000000) (d : Nat) : ∀ (k i n : Nat), i + d = ls.length → n + (ls.drop i).flatten.length = ls.flatten.length → d + ls.length + 2 ≤ k →
    slices_Concat_int64_int64.l0 k ls (n : Int) ls (ls.length : Int) (i : Int) = some ls.flatten := by
  induction d with
  | zero =>
    intro k i n hi ho hk
    obtain ⟨k, rfl⟩ : ∃ m, k = m + 1 := ⟨k - 1, by omega⟩
    rw [slices_Concat_int64_int64.l0, if_neg (by omega)]
    unfold slices_Grow_int64_int64.f
    rw [if_pos (by omega), if_pos (by omega), Option.bind_some]
    have h := concat_l1 ls hl ls.length k 0 [] (by omega) (by simp only [List.drop_zero, List.length_nil]; omega) (by omega)
    rw [List.drop_zero, List.nil_append] at h
    exact h
  | succ d ih =>
    intro k i n hi ho hk
    obtain ⟨k, rfl⟩ : ∃ m, k = m + 1 := ⟨k - 1, by omega⟩
    have hs := flat_step ls i (by omega)
    rw [hs, List.length_append] at ho
    rw [slices_Concat_int64_int64.l0, if_pos (by omega), if_pos (by omega), if_pos (by omega), rdL_get ls i (by omega), show wrap64 ((n : Int) + (ls[i].length : Int)) = ((n + ls[i].length : Nat) : Int) by unfold wrap64; omega, if_neg (by omega),
      show wrap64 ((i : Int) + 1) = ((i + 1 : Nat) : Int) by unfold wrap64; omega]
    exact ih k (i + 1) _ (by omega) (by omega) (by omega)
theorem concat_eq (ls : List (List Int)) (hl : ls.length ≤ 1000000) (hf : ls.flatten.length ≤ 1000000) (k : Nat) (hk : 2 * ls.length + 2 ≤ k) : slices_Concat_int64_int64.f k ls = some ls.flatten := by
  unfold slices_Concat_int64_int64.f
  exact concat_l0 ls hl hf ls.length k 0 0 (by omega) (by rw [List.drop_zero]; omega) (by omega)
theorem matrixOf_eq (ls : List (List Int)) (h0 : 0 < ls.length) (hl : ls.length ≤ 1000000) (hf : ls.flatten.length ≤ 1000000) (k : Nat) (hk : 2 * ls.length + 2 ≤ k) : impl_matrixOf.f k ls = some ((ls.length : Int), (ls[0].length : Int), ls.flatten) := by
  unfold impl_matrixOf.f impl_size_int64_144.f impl_size_int64_67.f
  rw [Option.bind_some, if_pos (by omega), Option.bind_some, concat_eq ls hl hf k hk, Option.bind_some, show (0 : Int) = ((0 : Nat) : Int) from rfl, rdL_get ls 0 h0]
theorem spec_l02Mul_l0 (k : Nat) : ∀ (a o : Gf.B) (n : Nat), n < 256 → n < 2 ^ k → spec_l02Mul.l0 (k + 1) (un a) (n : Int) (un o) = some (un (o ^^^ Gf.mul a (BitVec.ofNat 8 n))) := by
  induction k with
  | zero =>
    intro a o n _ h
    obtain rfl : n = 0 := by omega
    simp only [spec_l02Mul.l0]
    rw [if_neg (by omega), show BitVec.ofNat 8 0 = 0#8 from rfl, Gf.mul_zero, BitVec.xor_zero]
  | succ k ih =>
    intro a o n h8 h
    rw [spec_l02Mul.l0]
    by_cases h0 : n = 0
    · subst h0
      rw [if_neg (by omega), show BitVec.ofNat 8 0 = 0#8 from rfl, Gf.mul_zero, BitVec.xor_zero]
    · rw [if_pos (by omega), mul_next a o n h8]
      rw [← ih (Gf.xt a) (if n % 2 = 1 then o ^^^ a else o) (n / 2) (by omega) (by rw [Nat.pow_succ] at h; omega)]
      simp only [odd_tmod, half_tdiv n (by omega), w_2un, xor_un]
      by_cases hp : n % 2 = 1 <;> by_cases hx : un a * 2 > 255
      · rw [if_pos (by omega), if_pos hx, if_pos hp, xt_high a hx]
      · rw [if_pos (by omega), if_neg hx, if_pos hp, xt_low a hx]
      · rw [if_neg (by omega), if_pos hx, if_neg hp, xt_high a hx]
      · rw [if_neg (by omega), if_neg hx, if_neg hp, xt_low a hx]
theorem spec_l02Mul_f (k : Nat) (hk : 9 ≤ k) (a b : Gf.B) : spec_l02Mul.f k (un a) (un b) = some (un (Gf.mul a b)) := by
  obtain ⟨m, rfl⟩ : ∃ m, k = m + 1 := ⟨k - 1, by omega⟩
  have h := spec_l02Mul_l0 m a 0#8 b.toNat b.isLt (Nat.lt_of_lt_of_le b.isLt (Nat.pow_le_pow_right (by decide) (show 8 ≤ m by omega)))
  rw [ofNat_un, BitVec.zero_xor] at h
  exact h
theorem impl_mul_l0 (k : Nat) : ∀ (a o : Gf.B) (n : Nat), n < 256 → n < 2 ^ k → impl_mul.l0 (k + 1) (un a) (n : Int) (un o) = some (un (o ^^^ Gf.mul a (BitVec.ofNat 8 n))) := by
  induction k with
  | zero =>
    intro a o n _ h
    obtain rfl : n = 0 := by omega
    simp only [impl_mul.l0]
    rw [if_neg (by omega), show BitVec.ofNat 8 0 = 0#8 from rfl, Gf.mul_zero, BitVec.xor_zero]
  | succ k ih =>
    intro a o n h8 h
    rw [impl_mul.l0]
    by_cases h0 : n = 0
    · subst h0
      rw [if_neg (by omega), show BitVec.ofNat 8 0 = 0#8 from rfl, Gf.mul_zero, BitVec.xor_zero]
    · rw [if_pos (by omega), mul_next a o n h8]
      rw [← ih (Gf.xt a) (if n % 2 = 1 then o ^^^ a else o) (n / 2) (by omega) (by rw [Nat.pow_succ] at h; omega)]
      simp only [odd_and n (by omega), half_div, w_un2, xor_un]
      by_cases hp : n % 2 = 1 <;> by_cases hx : un a * 2 > 255
      · rw [if_pos (by omega), if_pos hx, if_pos hp, xt_high a hx]
      · rw [if_pos (by omega), if_neg hx, if_pos hp, xt_low a hx]
      · rw [if_neg (by omega), if_pos hx, if_neg hp, xt_high a hx]
      · rw [if_neg (by omega), if_neg hx, if_neg hp, xt_low a hx]
theorem impl_mul_f (k : Nat) (hk : 9 ≤ k) (a b : Gf.B) : impl_mul.f k (un a) (un b) = some (un (Gf.mul a b)) := by
  obtain ⟨m, rfl⟩ : ∃ m, k = m + 1 := ⟨k - 1, by omega⟩
  have h := impl_mul_l0 m a 0#8 b.toNat b.isLt (Nat.lt_of_lt_of_le b.isLt (Nat.pow_le_pow_right (by decide) (show 8 ≤ m by omega)))
  rw [ofNat_un, BitVec.zero_xor] at h
  exact h
theorem spec_l02Pow_l0 (k : Nat) : ∀ (a o : Gf.B) (n : Nat), n < 2 ^ 60 → n < 2 ^ k → spec_l02Pow.l0 (k + 10) (un a) (n : Int) (un o) = some (un (Gf.mul o (Gf.pw a n))) := by
  induction k with
  | zero =>
    intro a o n _ h
    obtain rfl : n = 0 := by omega
    rw [show 0 + 10 = 9 + 1 from rfl, spec_l02Pow.l0, if_neg (by omega), Gf.pw, Gf.mul_one]
  | succ k ih =>
    intro a o n h8 h
    rw [show k + 1 + 10 = (k + 10) + 1 by omega, spec_l02Pow.l0]
    by_cases h0 : n = 0
    · subst h0
      rw [if_neg (by omega), Gf.pw, Gf.mul_one]
    · rw [if_pos (by omega), pw_next a o n h0]
      rw [← ih (Gf.mul a a) (if n % 2 = 1 then Gf.mul o a else o) (n / 2) (by omega) (by rw [Nat.pow_succ] at h; omega)]
      simp only [odd_tmod, half_tdiv n (by omega), spec_l02Mul_f (k + 10) (by omega), Option.bind_some]
      by_cases hp : n % 2 = 1
      · rw [if_pos (by omega), if_pos hp]
      · rw [if_neg (by omega), if_neg hp]
theorem spec_l02Pow_f (j k : Nat) (hk : j + 10 ≤ k) (a : Gf.B) (n : Nat) (h60 : n < 2 ^ 60) (h : n < 2 ^ j) : spec_l02Pow.f k (un a) (n : Int) = some (un (Gf.pw a n)) := by
  obtain ⟨m, rfl⟩ : ∃ m, k = m + 10 := ⟨k - 10, by omega⟩
  have e := spec_l02Pow_l0 m a 1#8 n h60 (Nat.lt_of_lt_of_le h (Nat.pow_le_pow_right (by decide) (show j ≤ m by omega)))
  rw [Gf.one_mul] at e
  exact e
theorem impl_pow_l0 (k : Nat) : ∀ (a o : Gf.B) (n : Nat), n < 2 ^ 60 → n < 2 ^ k → impl_pow.l0 (k + 10) (un a) (n : Int) (un o) = some (un (Gf.mul o (Gf.pw a n))) := by
  induction k with
  | zero =>
    intro a o n _ h
    obtain rfl : n = 0 := by omega
    rw [show 0 + 10 = 9 + 1 from rfl, impl_pow.l0, if_neg (by omega), Gf.pw, Gf.mul_one]
  | succ k ih =>
    intro a o n h8 h
    rw [show k + 1 + 10 = (k + 10) + 1 by omega, impl_pow.l0]
    by_cases h0 : n = 0
    · subst h0
      rw [if_neg (by omega), Gf.pw, Gf.mul_one]
    · rw [if_pos (by omega), pw_next a o n h0]
      rw [← ih (Gf.mul a a) (if n % 2 = 1 then Gf.mul o a else o) (n / 2) (by omega) (by rw [Nat.pow_succ] at h; omega)]
      simp only [odd_and n (by omega), half_div, impl_mul_f (k + 10) (by omega), Option.bind_some]
      by_cases hp : n % 2 = 1
      · rw [if_pos (by omega), if_pos hp]
      · rw [if_neg (by omega), if_neg hp]
theorem impl_pow_f (j k : Nat) (hk : j + 10 ≤ k) (a : Gf.B) (n : Nat) (h60 : n < 2 ^ 60) (h : n < 2 ^ j) : impl_pow.f k (un a) (n : Int) = some (un (Gf.pw a n)) := by
  obtain ⟨m, rfl⟩ : ∃ m, k = m + 10 := ⟨k - 10, by omega⟩
  have e := impl_pow_l0 m a 1#8 n h60 (Nat.lt_of_lt_of_le h (Nat.pow_le_pow_right (by decide) (show j ≤ m by omega)))
  rw [Gf.one_mul] at e
  exact e
theorem impl_inv_f (k : Nat) (hk : 18 ≤ k) (a : Gf.B) : impl_inv.f k (un a) = some (un (Gf.inv a)) := by
  unfold impl_inv.f
  rw [show (254 : Int) = ((254 : Nat) : Int) from rfl, impl_pow_f 8 k (by omega) a 254 (by omega) (by omega), Option.bind_some]
  rfl
theorem spec_inv_f (k : Nat) (hk : 18 ≤ k) (a : Gf.B) : spec_FieldInv.f k (un a) = some (un (Gf.inv a)) := by
  have hb := un_bd a
  unfold spec_FieldInv.f spec_l02Byte.f
  rw [if_pos hb.1, Option.bind_some, decide_eq_true hb.2, if_pos rfl]
  by_cases h : un a = 0
  · rw [if_pos h]
    rw [un_eq_zero] at h
    rw [h, Gf.inv_zero]
    rfl
  · rw [if_neg h, show (254 : Int) = ((254 : Nat) : Int) from rfl, spec_l02Pow_f 8 k (by omega) a 254 (by omega) (by omega), Option.bind_some]
    rfl
theorem unit_l0 (k : Nat) (hk : k ≤ 16) (d : Nat) : ∀ (K i : Nat), i + d = k → d + 1 ≤ K →
    spec_l03Unit.l0 K (k : Int) (i : Int) (k : Int) (k : Int) (grid (fun a b => if a = b ∧ a < i then 1 else 0) k (k * k)) = some ((k : Int), (k : Int), grid (fun a b => if a = b then 1 else 0) k (k * k)) := by
  have hkk := side_le hk hk
  induction d with
  | zero =>
    intro K i hi hK
    obtain ⟨K, rfl⟩ : ∃ m, K = m + 1 := ⟨K - 1, by omega⟩
    rw [spec_l03Unit.l0, if_neg (by omega)]
    congr 3
    by_cases h0 : k = 0
    · subst h0
      rfl
    · refine grid_congr (by omega) (fun a b hb hab => ?_)
      have ha : a < k := by
        refine Nat.lt_of_not_le (fun hc => ?_)
        have := Nat.mul_le_mul_right k hc
        omega
      by_cases e : a = b
      · rw [if_pos ⟨e, by omega⟩, if_pos e]
      · rw [if_neg (fun h => e h.1), if_neg e]
  | succ d ih =>
    intro K i hi hK
    obtain ⟨K, rfl⟩ : ∃ m, K = m + 1 := ⟨K - 1, by omega⟩
    have hs := step_le k (show i < k by omega)
    rw [spec_l03Unit.l0, if_pos (by omega), w_mul i k (by omega), ← Int.natCast_add, w_nat (i * k + i) (by omega), if_pos (by omega), if_pos (by rw [grid_len]; omega), w_succ i (by omega), Int.toNat_natCast,
      grid_set (h' := fun a b => if a = b ∧ a < i + 1 then 1 else 0) (by omega) (if_pos ⟨rfl, by omega⟩) (fun a b hb hab => ?_)]
    · exact ih K (i + 1) (by omega) (by omega)
    · by_cases e : a = b
      · by_cases e2 : a < i
        · rw [if_pos ⟨e, by omega⟩, if_pos ⟨e, e2⟩]
        · rw [if_neg (fun h => hab ⟨by omega, by omega⟩), if_neg (fun h => e2 h.2)]
      · rw [if_neg (fun h => e h.1), if_neg (fun h => e h.1)]
theorem unit_eq (k : Nat) (hk : k ≤ 16) (K : Nat) (hK : k + 1 ≤ K) : spec_l03Unit.f K (k : Int) = some ((k : Int), (k : Int), grid (fun a b => if a = b then 1 else 0) k (k * k)) := by
  have hkk := side_le hk hk
  unfold spec_l03Unit.f
  rw [w_mul k k (by omega), if_pos (by omega), Int.toNat_natCast, if_pos (by omega), grid_zeros k]
  have h := unit_l0 k hk k K 0 (by omega) hK
  have e : (fun a b : Nat => if a = b ∧ a < 0 then (1 : Int) else 0) = fun _ _ => 0 := by
    funext a b
    rw [if_neg (fun h => by omega)]
  rw [e] at h
  exact h
theorem spec_cauchy_l1 (k m i : Nat) (h1 : 1 ≤ k) (hk : k ≤ 8) (hm : m ≤ 6) (hi : i < m) (K : Nat) (hK : 18 ≤ K) (d : Nat) : ∀ (j : Nat), j + d = k →
    spec_Cauchy.l1 (K + d + 1) (k : Int) (m : Int) (i : Int) (j : Int) ((k + m : Nat) : Int) (k : Int) (grid (cauchyC k) k ((k + i) * k + j)) = spec_Cauchy.l0 K (k : Int) (m : Int) ((i + 1 : Nat) : Int) ((k + m : Nat) : Int) (k : Int) (grid (cauchyC k) k ((k + (i + 1)) * k)) := by
  induction d with
  | zero =>
    intro j hj
    obtain rfl : j = k := by omega
    rw [spec_Cauchy.l1, if_neg (by omega), w_succ i (by omega), show (j + (i + 1)) * j = (j + i) * j + j by rw [← Nat.succ_mul]; rfl]
  | succ d ih =>
    intro j hj
    have hs : (k + i) * k ≤ 14 * 8 := Nat.mul_le_mul (by omega) hk
    rw [spec_Cauchy.l1, if_pos (by omega), ← Int.natCast_add, w_nat (k + i) (by omega), xor_nat _ _ (by omega) (by omega), spec_inv_f (K + (d + 1)) (by omega), Option.bind_some, if_pos (by rw [grid_len]; omega), w_succ j (by omega),
      show un (Gf.inv (BitVec.ofNat 8 (k + i) ^^^ BitVec.ofNat 8 j)) = cauchyC k (k + i) j by unfold cauchyC cauchyB; rw [if_neg (by omega)], grid_succ (cauchyC k) (by omega)]
    exact ih (j + 1) (by omega)
theorem spec_cauchy_l0 (k m : Nat) (h1 : 1 ≤ k) (hk : k ≤ 8) (hm : m ≤ 6) (d : Nat) : ∀ (K i : Nat), 18 ≤ K → i + d = m →
    spec_Cauchy.l0 (K + d * (k + 2) + 1) (k : Int) (m : Int) (i : Int) ((k + m : Nat) : Int) (k : Int) (grid (cauchyC k) k ((k + i) * k)) = some (((k + m : Nat) : Int), (k : Int), cauchyL k m, 0) := by
  induction d with
  | zero =>
    intro K i hK hi
    obtain rfl : i = m := by omega
    rw [Nat.zero_mul, Nat.add_zero, spec_Cauchy.l0, if_neg (by omega)]
    rfl
  | succ d ih =>
    intro K i hK hi
    have h := spec_cauchy_l1 k m i h1 hk hm (by omega) (K + d * (k + 2) + 1) (by omega) k 0 (by omega)
    rw [show K + (d + 1) * (k + 2) + 1 = (K + d * (k + 2) + 1 + k + 1) + 1 by rw [Nat.succ_mul]; omega, spec_Cauchy.l0, if_pos (by omega)]
    refine Eq.trans ?_ (ih K (i + 1) hK (by omega))
    exact h
/-- What Cauchy answers. -/
def codeOk (a b : Int) : Bool := decide (1 ≤ a ∧ a ≤ 8 ∧ 0 ≤ b ∧ b ≤ 6)
def resCauchy (a b : Int) : Int × Int × List Int × Int := if codeOk a b = true then (a + b, a, cauchyL a.toNat b.toNat, 0) else (0, 0, [], 1)
theorem codeOk_out {a b : Int} (h : codeOk a b = true) : ∃ k m : Nat, a = (k : Int) ∧ b = (m : Int) ∧ 1 ≤ k ∧ k ≤ 8 ∧ m ≤ 6 := by
  have h' := of_decide_eq_true (show decide (1 ≤ a ∧ a ≤ 8 ∧ 0 ≤ b ∧ b ≤ 6) = true from h)
  obtain ⟨k, rfl⟩ := Int.eq_ofNat_of_zero_le (show 0 ≤ a by omega)
  obtain ⟨m, rfl⟩ := Int.eq_ofNat_of_zero_le (show 0 ≤ b by omega)
  exact ⟨k, m, rfl, rfl, by omega, by omega, by omega⟩
theorem spec_codeRight (a b : Int) : spec_CodeRight.f a b = some (codeOk a b) := by
  unfold spec_CodeRight.f codeOk
  by_cases h1 : a ≥ 1
  · rw [if_pos h1]
    by_cases h2 : a ≤ 8
    · rw [if_pos h2]
      by_cases h3 : b ≥ 0
      · rw [if_pos h3]
        exact congrArg some (decide_eq_decide.2 ⟨fun h => ⟨h1, h2, h3, h⟩, fun h => h.2.2.2⟩)
      · rw [if_neg h3, decide_eq_false (fun h => h3 h.2.2.1)]
    · rw [if_neg h2, decide_eq_false (fun h => h2 h.2.1)]
  · rw [if_neg h1, decide_eq_false (fun h => h1 h.1)]
theorem spec_cauchy (a b : Int) (K : Nat) (hK : 200 ≤ K) : spec_Cauchy.f K a b = some (resCauchy a b) := by
  unfold spec_Cauchy.f resCauchy
  rw [spec_codeRight, Option.bind_some]
  by_cases h : codeOk a b = true
  · rw [if_pos h, if_pos h]
    obtain ⟨k, m, rfl, rfl, k1, k2, m2⟩ := codeOk_out h
    have hc : m * (k + 2) ≤ 6 * 10 := Nat.mul_le_mul m2 (by omega)
    rw [unit_eq k (by omega) K (by omega), Option.bind_some, ← Int.natCast_add, w_nat (k + m) (by omega), Int.toNat_natCast, Int.toNat_natCast,
      grid_congr (h' := cauchyC k) (by omega) (fun x y hy hxy => ?_)]
    · have h := spec_cauchy_l0 k m k1 k2 m2 m (K - (m * (k + 2) + 1)) 0 (by omega) (by omega)
      rw [show K - (m * (k + 2) + 1) + m * (k + 2) + 1 = K by omega] at h
      exact h
    · refine (cauchyC_unit (Nat.lt_of_not_le (fun hc => ?_)) y).symm
      have := Nat.mul_le_mul_right k hc
      omega
  · rw [if_neg h, if_neg h]
    rfl
theorem unit_row (k i : Nat) (hk : k ≤ 8) (hi : i < k) : impl_unit.f (i : Int) (k : Int) = some (line (cauchyC k i) k) := by
  unfold impl_unit.f
  rw [if_pos (by omega), Int.toNat_natCast, if_pos (by omega), Option.bind_some, if_pos (by omega), if_pos (by rw [List.length_replicate]; omega), Int.toNat_natCast, line_zeros]
  refine congrArg some (line_set (f' := cauchyC k i) ?_ (fun b hb => ?_))
  · rw [cauchyC_unit hi, if_pos rfl]
  · rw [cauchyC_unit hi, if_neg (fun h => hb h.symm)]
theorem impl_cauchy_l2 (k m i : Nat) (h1 : 1 ≤ k) (hk : k ≤ 8) (hm : m ≤ 6) (hi : i < m) (K : Nat) (hK : 18 ≤ K) (d : Nat) : ∀ (j : Nat), j + d = k →
    impl_cauchy.l2 (K + d + 1) (k : Int) (rowsH (cauchyC k) k (k + i)) (i : Int) (line (cauchyC k (k + i)) j) (m : Int) (i : Int) (k : Int) (j : Int) = impl_cauchy.l1 K (k : Int) (rowsH (cauchyC k) k (k + (i + 1))) (m : Int) ((i + 1 : Nat) : Int) := by
  induction d with
  | zero =>
    intro j hj
    obtain rfl : j = k := by omega
    rw [impl_cauchy.l2, if_neg (by omega), if_pos (by rw [rowsH_len]; omega), w_succ i (by omega), rowsH_succ]
    rfl
  | succ d ih =>
    intro j hj
    rw [impl_cauchy.l2, if_pos (by omega), ← Int.natCast_add, w_nat (k + i) (by omega), xor_nat _ _ (by omega) (by omega), impl_inv_f (K + (d + 1)) (by omega), Option.bind_some, if_pos (by rw [line_len]; omega), w_succ j (by omega),
      show un (Gf.inv (BitVec.ofNat 8 (k + i) ^^^ BitVec.ofNat 8 j)) = cauchyC k (k + i) j by unfold cauchyC cauchyB; rw [if_neg (by omega)], line_succ]
    exact ih (j + 1) (by omega)
theorem impl_cauchy_l1 (k m : Nat) (h1 : 1 ≤ k) (hk : k ≤ 8) (hm : m ≤ 6) (d : Nat) : ∀ (K i : Nat), 50 ≤ K → i + d = m →
    impl_cauchy.l1 (K + d * (k + 2) + 1) (k : Int) (rowsH (cauchyC k) k (k + i)) (m : Int) (i : Int) = some (((k + m : Nat) : Int), (k : Int), cauchyL k m) := by
  induction d with
  | zero =>
    intro K i hK hi
    obtain rfl : i = m := by omega
    have hs : (k + i) * k ≤ 14 * 8 := Nat.mul_le_mul (by omega) hk
    have e0 : (rowsH (cauchyC k) k (k + i))[0]? = some (line (cauchyC k 0) k) := rowsH_get _ (by omega)
    have e1 := (List.getElem?_eq_some_iff.1 e0).2
    have hL := rowsH_len (cauchyC k) k (k + i)
    rw [Nat.zero_mul, Nat.add_zero, impl_cauchy.l1, if_neg (by omega), matrixOf_eq (rowsH (cauchyC k) k (k + i)) (by omega) (by omega) (by rw [rowsH_flat, grid_len]; omega) _ (by omega), Option.bind_some, e1, line_len, rowsH_flat, hL]
    rfl
  | succ d ih =>
    intro K i hK hi
    have h := impl_cauchy_l2 k m i h1 hk hm (by omega) (K + d * (k + 2) + 1) (by omega) k 0 (by omega)
    rw [show K + (d + 1) * (k + 2) + 1 = (K + d * (k + 2) + 1 + k + 1) + 1 by rw [Nat.succ_mul]; omega, impl_cauchy.l1, if_pos (by omega)]
    refine Eq.trans ?_ (ih K (i + 1) hK (by omega))
    exact h
theorem impl_cauchy_l0 (k m : Nat) (hk : k ≤ 8) (hm : m ≤ 6) (K : Nat) (d : Nat) : ∀ (i : Nat), i + d = k →
    impl_cauchy.l0 (K + d + 1) (k : Int) (m : Int) (rowsH (cauchyC k) k i) (k : Int) (i : Int) = impl_cauchy.l1 K (k : Int) (rowsH (cauchyC k) k k) (m : Int) 0 := by
  induction d with
  | zero =>
    intro i hi
    obtain rfl : i = k := by omega
    rw [impl_cauchy.l0, if_neg (by omega)]
  | succ d ih =>
    intro i hi
    rw [impl_cauchy.l0, if_pos (by omega), unit_row k i hk (by omega), Option.bind_some, if_pos (by rw [rowsH_len]; omega), w_succ i (by omega), rowsH_succ]
    exact ih (i + 1) (by omega)
theorem impl_cauchy_f (k m : Nat) (h1 : 1 ≤ k) (hk : k ≤ 8) (hm : m ≤ 6) (K : Nat) (hK : 200 ≤ K) : impl_cauchy.f K (k : Int) (m : Int) = some (((k + m : Nat) : Int), (k : Int), cauchyL k m) := by
  have hc : m * (k + 2) ≤ 6 * 10 := Nat.mul_le_mul hm (by omega)
  have h := impl_cauchy_l0 k m hk hm (K - (k + 1)) k 0 (by omega)
  have h' := impl_cauchy_l1 k m h1 hk hm m (K - (k + 1) - (m * (k + 2) + 1)) 0 (by omega) (by omega)
  rw [show K - (k + 1) + k + 1 = K by omega] at h
  rw [show K - (k + 1) - (m * (k + 2) + 1) + m * (k + 2) + 1 = K - (k + 1) by omega] at h'
  exact h.trans h'
theorem impl_codeRight (a b : Int) : impl_CodeRight.f a b = some (codeOk a b) := by
  unfold impl_CodeRight.f impl_within.f codeOk
  by_cases h1 : a ≥ 1
  · rw [if_pos h1, Option.bind_some]
    by_cases h2 : a ≤ 8
    · rw [decide_eq_true h2, if_pos rfl]
      by_cases h3 : b ≥ 0
      · rw [if_pos h3, Option.bind_some]
        exact congrArg some (decide_eq_decide.2 ⟨fun h => ⟨h1, h2, h3, h⟩, fun h => h.2.2.2⟩)
      · rw [if_neg h3, Option.bind_some, decide_eq_false (fun h => h3 h.2.2.1)]
    · rw [decide_eq_false h2, if_neg (by simp), decide_eq_false (fun h => h2 h.2.1)]
  · rw [if_neg h1, Option.bind_some, if_neg (by simp), decide_eq_false (fun h => h1 h.1)]
theorem comb_l2 (h : Tx.H) (ts : List ByteArray) (l0 : List Int) (rows row : List Int) (k n s i j : Nat) (out : List ByteArray) (R : Option (List ByteArray)) (hs : s ≤ 1000000) (hj : j < ts.length) (hjk : j < 1000) (hsz : s ≤ (txt ts j).size) (b : Int) (hb : b = un (h i j)) (a1 a2 a3 a4 : Int) (B : Nat) (hB : 20 ≤ B)
    (cont : ∀ K, B ≤ K → impl_combined.l1 K ts out (lineT h ts s i (j + 1)) a1 a2 row a3 ((j + 1 : Nat) : Int) a4 (k : Int) rows = R) (m : Nat) :
    ∀ (K q : Nat), q + m = s → B + m + 1 ≤ K → impl_combined.l2 K ts out (lineM h ts s i j q) (j : Int) b a1 a2 row a3 (j : Int) (s : Int) (q : Int) a4 (k : Int) rows = R := by
  induction m with
  | zero =>
    intro K q hq hK
    obtain ⟨K, rfl⟩ : ∃ x, K = x + 1 := ⟨K - 1, by omega⟩
    obtain rfl : q = s := by omega
    rw [impl_combined.l2, if_neg (by omega), lineM_end, w_succ j (by omega)]
    exact cont K (by omega)
  | succ m ih =>
    intro K q hq hK
    obtain ⟨K, rfl⟩ : ∃ x, K = x + 1 := ⟨K - 1, by omega⟩
    rw [impl_combined.l2, if_pos (by omega), if_pos (by omega), if_pos (by rw [lineM_len]; omega), if_pos (by omega), if_pos (by omega), rdOf_get hj, if_pos (by omega), hb, w_tb, impl_mul_f K (by omega), Option.bind_some, mod_un, rd_lineM h ts (by omega), xor8, Int.toNat_natCast, w_succ q (by omega), ← sumT_succ, lineM_set, ← hb]
    exact ih K (q + 1) (by omega) (by omega)
theorem comb_l1 (h : Tx.H) (ts : List ByteArray) (rows : List Int) (k n s i : Nat) (out : List ByteArray) (R : Option (List ByteArray)) (hs : s ≤ 1000000) (hk : k ≤ ts.length) (hk2 : k ≤ 16) (hsz : ∀ j, j < k → s ≤ (txt ts j).size) (ho : out.length ≤ 1000) (hi : i ≤ 1000) (a1 a4 : Int) (B : Nat) (hB : 20 ≤ B)
    (cont : ∀ K, B ≤ K → impl_combined.l0 K ts (out ++ [strOfNums (lineT h ts s i k)]) a1 ((i + 1 : Nat) : Int) a4 (k : Int) rows = R) (m : Nat) :
    ∀ (K j : Nat), j + m = k → B + m * (s + 2) + 1 ≤ K → impl_combined.l1 K ts out (lineT h ts s i j) a1 (i : Int) (line (fun j => un (h i j)) k) (k : Int) (j : Int) a4 (k : Int) rows = R := by
  induction m with
  | zero =>
    intro K j hj hK
    obtain ⟨K, rfl⟩ : ∃ x, K = x + 1 := ⟨K - 1, by omega⟩
    obtain rfl : j = k := by omega
    rw [impl_combined.l1, if_neg (by omega), if_pos (by omega), w_succ i (by omega)]
    exact cont K (by omega)
  | succ m ih =>
    intro K j hj hK
    rw [Nat.succ_mul] at hK
    obtain ⟨K, rfl⟩ : ∃ x, K = x + 1 := ⟨K - 1, by omega⟩
    rw [impl_combined.l1, if_pos (by omega), if_pos (by omega), if_pos (by rw [line_len]; omega), rd_line _ (by omega)]
    by_cases h0 : h i j = 0#8
    · rw [if_pos (un_eq_zero.2 h0), w_succ j (by omega), ← lineT_skip h0]
      exact ih K (j + 1) (by omega) (by omega)
    · rw [if_neg (fun e => h0 (un_eq_zero.1 e)), lineT_len, ← lineM_zero]
      exact comb_l2 h ts rows rows _ k n s i j out R hs (by omega) (by omega) (hsz j (by omega)) _ rfl a1 (i : Int) (k : Int) a4 (B + m * (s + 2) + 1) (by omega) (fun K' hK' => ih K' (j + 1) (by omega) (by omega)) s K 0 (by omega) (by omega)
theorem comb_l0 (h : Tx.H) (ts : List ByteArray) (k n s : Nat) (hs : s ≤ 1000000) (hk0 : 0 < k) (hk : k ≤ ts.length) (hk2 : k ≤ 16) (hn : n ≤ 16) (h0 : (txt ts 0).size = s) (hsz : ∀ j, j < k → s ≤ (txt ts j).size) (m : Nat) :
    ∀ (K i : Nat), i + m = n → 20 + m * (k * (s + 2) + 2) + 1 ≤ K → impl_combined.l0 K ts (timesT h ts s k i) (n : Int) (i : Int) (n : Int) (k : Int) (gridT h k n) = some (timesT h ts s k n) := by
  induction m with
  | zero =>
    intro K i hi hK
    obtain ⟨K, rfl⟩ : ∃ x, K = x + 1 := ⟨K - 1, by omega⟩
    obtain rfl : i = n := by omega
    rw [impl_combined.l0, if_neg (by omega)]
  | succ m ih =>
    intro K i hi hK
    rw [Nat.succ_mul] at hK
    obtain ⟨K, rfl⟩ : ∃ x, K = x + 1 := ⟨K - 1, by omega⟩
    have hst := step_le k (show i < n by omega)
    have hnk := side_le hn hk2
    have hsm : (i + 1) * k = i * k + k := Nat.succ_mul i k
    have e0 : rdOf ByteArray.empty ts 0 = txt ts 0 := rdOf_get (j := 0) (by omega)
    have e1 := cut_gridT h (c := k) (show i < n by omega)
    rw [impl_combined.l0, if_pos (by omega), if_pos (by omega), e0, h0, if_pos (by omega), Int.toNat_natCast, if_pos (by omega), w_succ i (by omega), w_mul i k (by omega), w_mul (i + 1) k (by omega), hsm, if_pos (by omega), if_pos (by omega), if_pos (by rw [gridT_len]; omega), Int.toNat_natCast, Int.toNat_natCast, e1, line_len, lineT_zero h ts s i]
    exact comb_l1 h ts (gridT h k n) k n s i (timesT h ts s k i) _ hs hk hk2 hsz (by rw [timesT_len]; omega) (by omega) (n : Int) (n : Int) (20 + m * (k * (s + 2) + 2) + 1) (by omega) (fun K' hK' => by rw [timesT_succ]; exact ih K' (i + 1) (by omega) (by omega)) k K 0 (by omega) (by omega)
theorem comb_eq (h : Tx.H) (ts : List ByteArray) (k n s : Nat) (hs : s ≤ 1000000) (hk0 : 0 < k) (hk : k ≤ ts.length) (hk2 : k ≤ 16) (hn : n ≤ 16) (h0 : (txt ts 0).size = s) (hsz : ∀ j, j < k → s ≤ (txt ts j).size) (K : Nat) (hK : 20 + n * (k * (s + 2) + 2) + 1 ≤ K) :
    impl_combined.f K (n : Int) (k : Int) (gridT h k n) ts = some (timesT h ts s k n) := by
  unfold impl_combined.f
  exact comb_l0 h ts k n s hs hk0 hk hk2 hn h0 hsz n K 0 (by omega) hK
theorem times_l2 (h : Tx.H) (ts : List ByteArray) (rows : List Int) (k n s i j : Nat) (out : List ByteArray) (R : Option (List ByteArray)) (hs : s ≤ 1000000) (hj : j < ts.length) (hjk : j < 1000) (hsz : s ≤ (txt ts j).size) (hne : h i j ≠ 0#8) (a4 : Int) (B : Nat) (hB : 20 ≤ B)
    (cont : ∀ K, B ≤ K → spec_l04Times.l1 K ts out (i : Int) (lineT h ts s i (j + 1)) ((j + 1 : Nat) : Int) a4 (k : Int) rows = R) (m : Nat) :
    ∀ (K q : Nat), q + m = s → B + m + 1 ≤ K → spec_l04Times.l2 K ts out (i : Int) (lineM h ts s i j q) (j : Int) (un (h i j)) (q : Int) a4 (k : Int) rows = R := by
  induction m with
  | zero =>
    intro K q hq hK
    obtain ⟨K, rfl⟩ : ∃ x, K = x + 1 := ⟨K - 1, by omega⟩
    obtain rfl : q = s := by omega
    rw [spec_l04Times.l2, if_neg (by rw [lineM_len]; omega), lineM_end, w_succ j (by omega)]
    exact cont K (by omega)
  | succ m ih =>
    intro K q hq hK
    obtain ⟨K, rfl⟩ : ∃ x, K = x + 1 := ⟨K - 1, by omega⟩
    rw [spec_l04Times.l2, if_pos (by rw [lineM_len]; omega), if_neg (fun e => hne (un_eq_zero.1 e)), if_pos (by omega), if_pos (by omega), if_pos (by omega), rdOf_get hj, if_pos (by omega), w_tb, spec_l02Mul_f K (by omega), Option.bind_some, mod_un, rd_lineM h ts (by omega), xor8, Int.toNat_natCast, w_succ q (by omega), Gf.mul_comm, ← sumT_succ, lineM_set]
    exact ih K (q + 1) (by omega) (by omega)
theorem times_l2z (h : Tx.H) (ts : List ByteArray) (rows : List Int) (k n s i j : Nat) (out : List ByteArray) (R : Option (List ByteArray)) (hjk : j < 1000) (h0 : h i j = 0#8) (a4 : Int) (B : Nat)
    (cont : ∀ K, B ≤ K → spec_l04Times.l1 K ts out (i : Int) (lineT h ts s i (j + 1)) ((j + 1 : Nat) : Int) a4 (k : Int) rows = R) (K : Nat) (hK : B + 1 ≤ K) : spec_l04Times.l2 K ts out (i : Int) (lineM h ts s i j 0) (j : Int) (un (h i j)) (0 : Int) a4 (k : Int) rows = R := by
  obtain ⟨K, rfl⟩ : ∃ x, K = x + 1 := ⟨K - 1, by omega⟩
  rw [lineM_zero, ← lineT_skip h0, spec_l04Times.l2, if_pos (un_eq_zero.2 h0), w_succ j (by omega)]
  by_cases hc : (0 : Int) < ((lineT h ts s i (j + 1)).length : Int)
  · rw [if_pos hc]
    exact cont K (by omega)
  · rw [if_neg hc]
    exact cont K (by omega)
theorem times_l1 (h : Tx.H) (ts : List ByteArray) (k n s i : Nat) (out : List ByteArray) (R : Option (List ByteArray)) (hs : s ≤ 1000000) (hk : k ≤ ts.length) (hk2 : k ≤ 16) (hn : n ≤ 16) (hin : i < n) (hsz : ∀ j, j < k → s ≤ (txt ts j).size) (ho : out.length ≤ 1000) (a4 : Int) (B : Nat) (hB : 20 ≤ B)
    (cont : ∀ K, B ≤ K → spec_l04Times.l0 K ts (out ++ [strOfNums (lineT h ts s i k)]) ((i + 1 : Nat) : Int) a4 (k : Int) (gridT h k n) = R) (m : Nat) :
    ∀ (K j : Nat), j + m = k → B + m * (s + 2) + 1 ≤ K → spec_l04Times.l1 K ts out (i : Int) (lineT h ts s i j) (j : Int) a4 (k : Int) (gridT h k n) = R := by
  induction m with
  | zero =>
    intro K j hj hK
    obtain ⟨K, rfl⟩ : ∃ x, K = x + 1 := ⟨K - 1, by omega⟩
    obtain rfl : j = k := by omega
    rw [spec_l04Times.l1, if_neg (by omega), if_pos (by omega), w_succ i (by omega)]
    exact cont K (by omega)
  | succ m ih =>
    intro K j hj hK
    rw [Nat.succ_mul] at hK
    obtain ⟨K, rfl⟩ : ∃ x, K = x + 1 := ⟨K - 1, by omega⟩
    have hst := step_le k hin
    have hnk := side_le hn hk2
    rw [spec_l04Times.l1, if_pos (by omega), w_mul i k (by omega), ← Int.natCast_add, w_nat (i * k + j) (by omega), if_pos (by omega), if_pos (by rw [gridT_len]; omega), rd_gridT h hin (by omega), ← lineM_zero]
    by_cases h0 : h i j = 0#8
    · exact times_l2z h ts _ k n s i j out R (by omega) h0 a4 (B + m * (s + 2) + 1) (fun K' hK' => ih K' (j + 1) (by omega) (by omega)) K (by omega)
    · exact times_l2 h ts _ k n s i j out R hs (by omega) (by omega) (hsz j (by omega)) h0 a4 (B + m * (s + 2) + 1) (by omega) (fun K' hK' => ih K' (j + 1) (by omega) (by omega)) s K 0 (by omega) (by omega)
theorem times_l0 (h : Tx.H) (ts : List ByteArray) (k n s : Nat) (hs : s ≤ 1000000) (hk0 : 0 < k) (hk : k ≤ ts.length) (hk2 : k ≤ 16) (hn : n ≤ 16) (h0 : (txt ts 0).size = s) (hsz : ∀ j, j < k → s ≤ (txt ts j).size) (m : Nat) :
    ∀ (K i : Nat), i + m = n → 20 + m * (k * (s + 2) + 2) + 1 ≤ K → spec_l04Times.l0 K ts (timesT h ts s k i) (i : Int) (n : Int) (k : Int) (gridT h k n) = some (timesT h ts s k n) := by
  induction m with
  | zero =>
    intro K i hi hK
    obtain ⟨K, rfl⟩ : ∃ x, K = x + 1 := ⟨K - 1, by omega⟩
    obtain rfl : i = n := by omega
    rw [spec_l04Times.l0, if_neg (by omega)]
  | succ m ih =>
    intro K i hi hK
    rw [Nat.succ_mul] at hK
    obtain ⟨K, rfl⟩ : ∃ x, K = x + 1 := ⟨K - 1, by omega⟩
    have e0 : rdOf ByteArray.empty ts 0 = txt ts 0 := rdOf_get (j := 0) (by omega)
    rw [spec_l04Times.l0, if_pos (by omega), if_pos (by omega), e0, h0, if_pos (by omega), Int.toNat_natCast, if_pos (by omega), lineT_zero h ts s i]
    exact times_l1 h ts k n s i (timesT h ts s k i) _ hs hk hk2 hn (by omega) hsz (by rw [timesT_len]; omega) (n : Int) (20 + m * (k * (s + 2) + 2) + 1) (by omega) (fun K' hK' => by rw [timesT_succ]; exact ih K' (i + 1) (by omega) (by omega)) k K 0 (by omega) (by omega)
theorem times_eq (h : Tx.H) (ts : List ByteArray) (k n s : Nat) (hs : s ≤ 1000000) (hk0 : 0 < k) (hk : k ≤ ts.length) (hk2 : k ≤ 16) (hn : n ≤ 16) (h0 : (txt ts 0).size = s) (hsz : ∀ j, j < k → s ≤ (txt ts j).size) (K : Nat) (hK : 20 + n * (k * (s + 2) + 2) + 1 ≤ K) :
    spec_l04Times.f K (n : Int) (k : Int) (gridT h k n) ts = some (timesT h ts s k n) := by
  unfold spec_l04Times.f
  exact times_l0 h ts k n s hs hk0 hk hk2 hn h0 hsz n K 0 (by omega) hK
def badT (ts : List ByteArray) (i : Nat) : Bool := decide ((txt ts i).size > 20000) || ((txt ts i).size != (txt ts 0).size)
def okFrom (ts : List ByteArray) : Nat → Nat → Bool
  | 0, _ => true
  | d + 1, i => !badT ts i && okFrom ts d (i + 1)
def sameFrom (xs ys : List ByteArray) : Nat → Nat → Bool
  | 0, _ => true
  | d + 1, i => decide ((txt xs i).toList = (txt ys i).toList) && sameFrom xs ys d (i + 1)
theorem okFrom_at (ts : List ByteArray) : ∀ (d i : Nat), okFrom ts d i = true → ∀ j, i ≤ j → j < i + d → (txt ts j).size ≤ 20000 ∧ (txt ts j).size = (txt ts 0).size := by
  intro d
  induction d with
  | zero => intro i _ j h1 h2; omega
  | succ d ih =>
    intro i h j h1 h2
    unfold okFrom badT at h
    simp only [Bool.and_eq_true, Bool.not_eq_true', Bool.or_eq_false_iff, decide_eq_false_iff_not, bne_eq_false_iff_eq] at h
    by_cases e : j = i
    · rw [e]
      exact ⟨by have := h.1.1; omega, h.1.2⟩
    · exact ih (i + 1) h.2 j (by omega) (by omega)
theorem txt_take (ts : List ByteArray) {j k : Nat} (hj : j < k) : txt (ts.take k) j = txt ts j := by
  unfold txt
  rw [List.getD_eq_getElem?_getD, List.getD_eq_getElem?_getD, List.getElem?_take_of_lt hj]
/-- What Whole answers. -/
def resWhole (a b : Int) (ts : List ByteArray) : Bool := decide (ts.length ≤ 400) && codeOk a b && decide ((ts.length : Int) = a + b) && okFrom ts ts.length 0 && sameFrom (timesT (cauchyB a.toNat) (ts.take a.toNat) (txt ts 0).size a.toNat (a.toNat + b.toNat)) ts ts.length 0
theorem spec_l1 (xs ts : List ByteArray) (hl : xs.length ≤ ts.length) (hn : xs.length ≤ 1000) (d : Nat) : ∀ (K i : Nat), i + d = xs.length → d + 1 ≤ K → spec_Whole.l1 K ts xs (i : Int) = some (sameFrom xs ts d i) := by
  induction d with
  | zero =>
    intro K i hi hK
    obtain ⟨K, rfl⟩ : ∃ m, K = m + 1 := ⟨K - 1, by omega⟩
    rw [spec_Whole.l1, if_neg (by omega)]
    rfl
  | succ d ih =>
    intro K i hi hK
    obtain ⟨K, rfl⟩ : ∃ m, K = m + 1 := ⟨K - 1, by omega⟩
    rw [spec_Whole.l1, if_pos (by omega), if_pos (by omega), if_pos (by omega), rdOf_get (by omega), rdOf_get (by omega), w_succ i (by omega)]
    unfold sameFrom
    by_cases h : (txt xs i).toList = (txt ts i).toList
    · rw [if_pos h, ih K (i + 1) (by omega) (by omega), decide_eq_true h, Bool.true_and]
    · rw [if_neg h, decide_eq_false h, Bool.false_and]
theorem equal_l0 (xs ts : List ByteArray) (hl : xs.length = ts.length) (hn : xs.length ≤ 1000) (d : Nat) : ∀ (K i : Nat), i + d = xs.length → d + 1 ≤ K → slices_Equal_string_string.l0 K xs ts (xs.length : Int) (i : Int) = some (sameFrom xs ts d i) := by
  induction d with
  | zero =>
    intro K i hi hK
    obtain ⟨K, rfl⟩ : ∃ m, K = m + 1 := ⟨K - 1, by omega⟩
    rw [slices_Equal_string_string.l0, if_neg (by omega)]
    rfl
  | succ d ih =>
    intro K i hi hK
    obtain ⟨K, rfl⟩ : ∃ m, K = m + 1 := ⟨K - 1, by omega⟩
    rw [slices_Equal_string_string.l0, if_pos (by omega), if_pos (by omega), if_pos (by omega), if_pos (by omega), rdOf_get (by omega), rdOf_get (by omega), w_succ i (by omega)]
    unfold sameFrom
    by_cases h : (txt xs i).toList = (txt ts i).toList
    · rw [if_pos h, ih K (i + 1) (by omega) (by omega), decide_eq_true h, Bool.true_and]
    · rw [if_neg h, decide_eq_false h, Bool.false_and]
theorem index_l0 (ts : List ByteArray) (hn : ts.length ≤ 1000) (h0 : 0 < ts.length) (d : Nat) : ∀ (K i : Nat), i + d = ts.length → d + 1 ≤ K → ∃ j : Int, slices_IndexFunc_string_string.l0 K ts ts (ts.length : Int) (i : Int) = some j ∧ decide (j ≥ 0) = !(okFrom ts d i) := by
  induction d with
  | zero =>
    intro K i hi hK
    obtain ⟨K, rfl⟩ : ∃ m, K = m + 1 := ⟨K - 1, by omega⟩
    refine ⟨-1, ?_, rfl⟩
    rw [slices_IndexFunc_string_string.l0, if_neg (by omega)]
  | succ d ih =>
    intro K i hi hK
    obtain ⟨K, rfl⟩ : ∃ m, K = m + 1 := ⟨K - 1, by omega⟩
    have e0 : rdOf ByteArray.empty ts 0 = txt ts 0 := rdOf_get (j := 0) (by omega)
    have e1 : impl_Whole_1.f (txt ts i) ts = some (badT ts i) := by
      unfold impl_Whole_1.f impl_isLong.f badT
      rw [Option.bind_some]
      by_cases h : (txt ts i).size > 20000
      · rw [decide_eq_true (show ((txt ts i).size : Int) > 20000 by omega), if_pos rfl, decide_eq_true h, Bool.true_or]
      · rw [decide_eq_false (show ¬ ((txt ts i).size : Int) > 20000 by omega), if_neg (by simp), if_pos (by omega), e0, decide_eq_false h, Bool.false_or]
        congr 1
        by_cases e : (txt ts i).size = (txt ts 0).size
        · rw [e]
          simp
        · rw [bne_iff_ne.2 e]
          simp
          omega
    obtain ⟨j, e2, e3⟩ := ih K (i + 1) (by omega) (by omega)
    rw [slices_IndexFunc_string_string.l0, if_pos (by omega), if_pos (by omega), if_pos (by omega), rdOf_get (by omega), e1, Option.bind_some, w_succ i (by omega)]
    unfold okFrom
    cases hb : badT ts i
    · exact ⟨j, by rw [if_neg (by simp)]; exact e2, by rw [e3]; simp⟩
    · exact ⟨(i : Int), if_pos rfl, by rw [decide_eq_true (by omega)]; rfl⟩
theorem contains_eq (ts : List ByteArray) (hn : ts.length ≤ 1000) (h0 : 0 < ts.length) (K : Nat) (hK : 2000 ≤ K) : slices_ContainsFunc_string_string.f K ts ts = some (!(okFrom ts ts.length 0)) := by
  unfold slices_ContainsFunc_string_string.f slices_IndexFunc_string_string.f
  obtain ⟨j, e, hj⟩ := index_l0 ts hn h0 ts.length K 0 (by omega) (by omega)
  rw [show (0 : Int) = ((0 : Nat) : Int) from rfl, e, Option.bind_some]
  exact congrArg some hj
theorem spec_l0 (k m : Nat) (ts : List ByteArray) (k1 : 1 ≤ k) (k2 : k ≤ 8) (m2 : m ≤ 6) (hn : ts.length = k + m) (hok : okFrom ts ts.length 0 = true ∨ True) (d : Nat) :
    ∀ (K i : Nat), i + d = ts.length → (∀ j, j < i → (txt ts j).size ≤ 20000 ∧ (txt ts j).size = (txt ts 0).size) → 5000000 + d + 1 ≤ K →
    spec_Whole.l0 K (k : Int) (m : Int) ts (i : Int) = some (okFrom ts d i && sameFrom (timesT (cauchyB k) (ts.take k) (txt ts 0).size k (k + m)) ts ts.length 0) := by
  have e0 : rdOf ByteArray.empty ts 0 = txt ts 0 := rdOf_get (j := 0) (by omega)
  induction d with
  | zero =>
    intro K i hi hj hK
    obtain ⟨K, rfl⟩ : ∃ x, K = x + 1 := ⟨K - 1, by omega⟩
    have hs := hj 0 (by omega)
    have hT := times_eq (cauchyB k) (ts.take k) k (k + m) (txt ts 0).size (by omega) (by omega) (by rw [List.length_take]; omega) (by omega) (by omega) (by rw [txt_take ts (by omega)]) (fun j h => by rw [txt_take ts h, (hj j (by omega)).2]; exact Nat.le_refl _) K (by
      have h1 : k * ((txt ts 0).size + 2) ≤ 8 * 20002 := Nat.mul_le_mul k2 (by omega)
      have h2 : (k + m) * (k * ((txt ts 0).size + 2) + 2) ≤ 14 * (8 * 20002 + 2) := Nat.mul_le_mul (by omega) (by omega)
      omega)
    have hl1 := spec_l1 (timesT (cauchyB k) (ts.take k) (txt ts 0).size k (k + m)) ts (by rw [timesT_len]; omega) (by rw [timesT_len]; omega) (k + m) K 0 (by rw [timesT_len]; omega) (by omega)
    rw [spec_Whole.l0, if_neg (by omega), spec_cauchy _ _ K (by omega), Option.bind_some]
    unfold resCauchy
    rw [if_pos (show codeOk (k : Int) (m : Int) = true from decide_eq_true (by omega)), if_pos (by omega), if_pos (by omega), Int.toNat_natCast, Int.toNat_natCast]
    show ((spec_l04Times.f K ((k : Int) + (m : Int)) (k : Int) (cauchyL k m) (ts.take k)).bind fun t => spec_Whole.l1 K ts t 0) = _
    have hT' : spec_l04Times.f K ((k : Int) + (m : Int)) (k : Int) (cauchyL k m) (ts.take k) = some (timesT (cauchyB k) (ts.take k) (txt ts 0).size k (k + m)) := by
      rw [← Int.natCast_add]
      exact hT
    rw [hT', Option.bind_some, hn]
    unfold okFrom
    rw [Bool.true_and]
    exact hl1
  | succ d ih =>
    intro K i hi hj hK
    obtain ⟨K, rfl⟩ : ∃ x, K = x + 1 := ⟨K - 1, by omega⟩
    rw [spec_Whole.l0, if_pos (by omega), if_pos (by omega), rdOf_get (by omega), e0, w_succ i (by omega)]
    unfold okFrom badT
    by_cases h1 : (txt ts i).size > 20000
    · rw [if_pos (by omega), decide_eq_true h1]
      simp
    · rw [if_neg (by omega), if_pos (by omega), decide_eq_false h1, Bool.false_or]
      by_cases h2 : (txt ts i).size = (txt ts 0).size
      · rw [if_pos (by omega), ih K (i + 1) (by omega) (fun j hji => by
          by_cases e : j = i
          · rw [e]
            exact ⟨by omega, h2⟩
          · exact hj j (by omega)) (by omega), h2]
        simp
      · rw [if_neg (by omega), bne_iff_ne.2 h2]
        simp
theorem spec_whole (a b : Int) (ts : List ByteArray) (ha : -9223372036854775808 ≤ a ∧ a ≤ 9223372036854775807) (K : Nat) (hK : 6000000 ≤ K) : spec_Whole.f K a b ts = some (resWhole a b ts) := by
  unfold spec_Whole.f resWhole
  obtain ⟨K, rfl⟩ : ∃ x, K = x + 1 := ⟨K - 1, by omega⟩
  by_cases h0 : ts.length ≤ 400
  · rw [if_neg (by omega), spec_codeRight, Option.bind_some, decide_eq_true h0, Bool.true_and]
    by_cases h1 : codeOk a b = true
    · rw [if_pos h1, h1, Bool.true_and, spec_Whole.j0]
      obtain ⟨k, m, rfl, rfl, k1, k2, m2⟩ := codeOk_out h1
      rw [← Int.natCast_add, w_nat (k + m) (by omega)]
      by_cases h2 : ts.length = k + m
      · rw [if_neg (by simp [h2]), decide_eq_true (by omega), Bool.true_and, Int.toNat_natCast, Int.toNat_natCast]
        exact spec_l0 k m ts k1 k2 m2 h2 (.inr trivial) ts.length K 0 (by omega) (fun j hj => absurd hj (by omega)) (by omega)
      · rw [if_pos (by simp; omega), decide_eq_false (by omega)]
        simp
    · rw [if_neg h1, spec_Whole.j0, if_pos rfl, Bool.eq_false_iff.2 h1]
      simp
  · rw [if_pos (by omega), spec_Whole.j0, if_pos rfl, decide_eq_false h0]
    simp
theorem impl_whole (a b : Int) (ts : List ByteArray) (K : Nat) (hK : 6000000 ≤ K) : impl_Whole.f K a b ts = some (resWhole a b ts) := by
  unfold impl_Whole.f resWhole impl_isMany_string.f impl_size_string.f
  obtain ⟨K, rfl⟩ : ∃ x, K = x + 1 := ⟨K - 1, by omega⟩
  rw [Option.bind_some]
  by_cases h0 : ts.length ≤ 400
  · rw [decide_eq_false (by omega), if_neg (by simp), impl_codeRight, Option.bind_some, decide_eq_true h0, Bool.true_and]
    by_cases h1 : codeOk a b = true
    · rw [if_pos h1, h1, Bool.true_and, Option.bind_some]
      obtain ⟨k, m, rfl, rfl, k1, k2, m2⟩ := codeOk_out h1
      rw [← Int.natCast_add, w_nat (k + m) (by omega)]
      by_cases h2 : ts.length = k + m
      · rw [if_pos (by omega), decide_eq_true (by omega), Bool.true_and, Int.toNat_natCast, Int.toNat_natCast, contains_eq ts (by omega) (by omega) (K + 1) (by omega), Option.bind_some, impl_Whole.j0]
        cases hok : okFrom ts ts.length 0
        · rw [if_pos (show (!false) = true from rfl), Bool.false_and]
        · have hj := okFrom_at ts ts.length 0 hok
          have hs := hj 0 (by omega) (by omega)
          have hT := comb_eq (cauchyB k) (ts.take k) k (k + m) (txt ts 0).size (by omega) (by omega) (by rw [List.length_take]; omega) (by omega) (by omega) (by rw [txt_take ts (by omega)]) (fun j h => by rw [txt_take ts h, (hj j (by omega) (by omega)).2]; exact Nat.le_refl _) K (by
            have h1 : k * ((txt ts 0).size + 2) ≤ 8 * 20002 := Nat.mul_le_mul k2 (by omega)
            have h2 : (k + m) * (k * ((txt ts 0).size + 2) + 2) ≤ 14 * (8 * 20002 + 2) := Nat.mul_le_mul (by omega) (by omega)
            omega)
          have hE := equal_l0 (timesT (cauchyB k) (ts.take k) (txt ts 0).size k (k + m)) ts (by rw [timesT_len]; omega) (by rw [timesT_len]; omega) (k + m) K 0 (by rw [timesT_len]; omega) (by omega)
          have hT' : impl_combined.f K ((k + m : Nat) : Int) (k : Int) (cauchyL k m) (ts.take k) = some (timesT (cauchyB k) (ts.take k) (txt ts 0).size k (k + m)) := hT
          rw [if_neg (by simp), impl_cauchy_f k m k1 k2 m2 K (by omega), Option.bind_some, if_pos (by omega), if_pos (by omega), Int.toNat_natCast, hT', Option.bind_some, Bool.true_and]
          unfold slices_Equal_string_string.f
          rw [if_pos (by rw [timesT_len]; omega), show (0 : Int) = ((0 : Nat) : Int) from rfl, hE, Option.bind_some, h2]
      · rw [if_neg (by omega), decide_eq_false (by omega), impl_Whole.j0, if_pos rfl]
        simp
    · rw [if_neg h1, impl_Whole.j0, if_pos rfl, Bool.eq_false_iff.2 h1]
      simp
  · rw [decide_eq_true (by omega), if_pos rfl, impl_Whole.j0, if_pos rfl, decide_eq_false h0]
    simp
end FnExactWhole_
open FnExactWhole_
theorem FnExactWhole (a b : Int) (ts : List ByteArray) (wa : (Lit.int .i64 a).wf = true) (_ : (Lit.int .i64 b).wf = true) (hm : ts.length ≤ maxLen) : ∃ k, laws_FnExactWhole.f k a b ts = some true := by
  suffices main : ∀ K : Nat, 7000000 ≤ K → laws_FnExactWhole.f K a b ts = some true from ⟨_, main 7000000 (by omega)⟩
  intro K hK
  unfold laws_FnExactWhole.f
  obtain ⟨v, hv, hv2⟩ := szStrings ts hm K (by omega)
  rw [hv, Option.bind_some]
  by_cases h : v < 0
  · rw [if_pos h]
  have hl : ts.length ≤ 1048576 := by omega
  rw [if_neg h, toStrs_eq ts (by omega) K (by omega), Option.bind_some, spec_whole a b ts (Aid.i64_bd wa) K (by omega), Option.bind_some, Option.bind_some, impl_whole a b ts K (by omega), Option.bind_some, if_neg (by simp), Option.bind_some, eqStrs ts (by omega) K (by omega), Option.bind_some, if_pos rfl]
end Go.Proofs.Ytlololbhlnapkaa.Pure
