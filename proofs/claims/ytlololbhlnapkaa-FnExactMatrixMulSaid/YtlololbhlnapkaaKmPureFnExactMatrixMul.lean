/-
  The law FnExactMatrixMul, over plain values: program and reference give the same product for any two matrices. No conditions beyond the statement's own.
-/
import Derived.Test.YtlololbhlnapkaaKmAid
import Derived.Test.YtlololbhlnapkaaKmMp
import Derived.Test.YtlololbhlnapkaaKmXFnExactMatrixMulx6
namespace Go.Proofs.Ytlololbhlnapkaa.Pure
open Go.RowKit Go.Proofs.Ytlololbhlnapkaa.XFnExactMatrixMul Go.Proofs.Ytlololbhlnapkaa.Gf Go.Proofs.Ytlololbhlnapkaa.FieldAid Go.Proofs.Ytlololbhlnapkaa.Mp Go.Proofs.YtlololbhlnapkaaW.PrintWords Go.Proofs.YtlololbhlnapkaaW.PrintLast Go.Proofs.YtlololbhlnapkaaW.PrintMore
set_option linter.unusedVariables false
set_option linter.unusedSimpArgs false
namespace FnExactMatrixMul_
theorem szMatrix_eq (a b : Int) (l : List Int) (n : Int) (h0 : 0 ≤ n) (h1 : n ≤ 1048576) (hl : l.length ≤ maxLen) : laws_szMatrix.f a b l n = some (if n - (l.length : Int) < 0 then -1 else n - (l.length : Int)) := by
  unfold maxLen at hl
  unfold laws_szMatrix.f laws_szInt64S.f
  rw [show wrap64 (n - (l.length : Int)) = n - (l.length : Int) by unfold wrap64; omega]
  by_cases h : n - (l.length : Int) < 0
  · rw [if_pos h, if_pos h]
    rfl
  · rw [if_neg h, if_neg h]
    simp only [Option.bind_some]
    rw [if_neg h]
theorem rd_get (l : List Int) (i : Nat) (h : i < l.length) : rd l (i : Int) = l[i] := by
  unfold rd
  rw [Int.toNat_natCast, List.getD_eq_getElem?_getD, List.getElem?_eq_getElem h, Option.getD_some]
theorem toInts_l0 (l : List Int) (hl : l.length ≤ 35184372088832) (d : Nat) : ∀ (k i : Nat) (m : List Int), i + d = l.length → m.length = l.length → (∀ j, j < i → m[j]? = l[j]?) → d + 1 ≤ k → laws_toInt64S.l0 k l m (i : Int) = some l := by
  induction d with
  | zero =>
    intro k i m hi hm hj hk
    obtain ⟨k, rfl⟩ : ∃ m, k = m + 1 := ⟨k - 1, by omega⟩
    rw [laws_toInt64S.l0, if_neg (by omega)]
    congr 1
    apply List.ext_getElem?
    intro j
    by_cases h : j < i
    · exact hj j h
    · rw [List.getElem?_eq_none (by omega), List.getElem?_eq_none (by omega)]
  | succ d ih =>
    intro k i m hi hm hj hk
    obtain ⟨k, rfl⟩ : ∃ m, k = m + 1 := ⟨k - 1, by omega⟩
    rw [laws_toInt64S.l0, if_pos (by omega), if_pos (by omega), if_pos (by omega), rd_get l i (by omega), Int.toNat_natCast]
    rw [show wrap64 ((i : Int) + 1) = ((i + 1 : Nat) : Int) by unfold wrap64; omega]
    refine ih k (i + 1) _ (by omega) (by rw [List.length_set]; exact hm) ?_ (by omega)
    intro j hji
    by_cases h : j = i
    · subst h
      rw [List.getElem?_set_self (by omega), List.getElem?_eq_getElem (by omega)]
    · rw [List.getElem?_set_ne (by omega)]
      exact hj j (by omega)
theorem toInts_eq (l : List Int) (hl : l.length ≤ 35184372088832) (k : Nat) (hk : l.length + 1 ≤ k) : laws_toInt64S.f k l = some l := by
  unfold laws_toInt64S.f
  rw [if_pos (by omega), if_pos (by omega), Int.toNat_natCast]
  exact toInts_l0 l hl l.length k 0 _ (by omega) (by simp) (fun j hj => absurd hj (by omega)) hk
theorem toMatrix_eq (a b : Int) (l : List Int) (hl : l.length ≤ 35184372088832) (k : Nat) (hk : l.length + 1 ≤ k) : laws_toMatrix.f k a b l = some (a, b, l) := by
  unfold laws_toMatrix.f
  rw [toInts_eq l hl k hk]
  rfl
theorem eqInts_l0 (l : List Int) (hl : l.length ≤ 1000000000) (d : Nat) : ∀ (k i : Nat), i + d = l.length → d + 1 ≤ k → laws_eqInt64S.l0 k l l (i : Int) = some true := by
  induction d with
  | zero =>
    intro k i hi hk
    obtain ⟨k, rfl⟩ : ∃ m, k = m + 1 := ⟨k - 1, by omega⟩
    rw [laws_eqInt64S.l0, if_neg (by omega)]
  | succ d ih =>
    intro k i hi hk
    obtain ⟨k, rfl⟩ : ∃ m, k = m + 1 := ⟨k - 1, by omega⟩
    rw [laws_eqInt64S.l0, if_pos (by omega), if_pos (by omega), if_pos (by omega), if_pos rfl, show wrap64 ((i : Int) + 1) = ((i + 1 : Nat) : Int) by unfold wrap64; omega]
    exact ih k (i + 1) (by omega) (by omega)
theorem eqInts (l : List Int) (hl : l.length ≤ 1000000000) (k : Nat) (hk : l.length + 1 ≤ k) : laws_eqInt64S.f k l l = some true := by
  unfold laws_eqInt64S.f
  rw [if_pos rfl]
  exact eqInts_l0 l hl l.length k 0 (by omega) hk
theorem eqMatrix_same (a b : Int) (l : List Int) (hl : l.length ≤ 1000000000) (k : Nat) (hk : l.length + 1 ≤ k) : laws_eqMatrix.f k a b l a b l = some true := by
  unfold laws_eqMatrix.f
  rw [if_pos rfl, if_pos rfl, eqInts l hl k hk]
  rfl
theorem eqOut_same (a b : Int) (l : List Int) (c : Int) (hl : l.length ≤ 1000000000) (k : Nat) (hk : l.length + 1 ≤ k) : laws_eqMatrixOut.f k a b l c a b l c = some true := by
  unfold laws_eqMatrixOut.f
  rw [eqMatrix_same a b l hl k hk, Option.bind_some, if_pos rfl, if_pos rfl]
def byteB (x : Int) : Bool := decide (0 ≤ x) && decide (x ≤ 255)
def okM (a b : Int) (l : List Int) : Bool := decide (1 ≤ a ∧ a ≤ 16 ∧ 1 ≤ b ∧ b ≤ 16 ∧ (l.length : Int) = a * b) && l.all byteB
theorem side_mul {a b : Int} (h1 : 1 ≤ a) (h2 : a ≤ 16) (h3 : 1 ≤ b) (h4 : b ≤ 16) : 1 ≤ a * b ∧ a * b ≤ 256 := by
  constructor
  · have := Int.mul_le_mul h1 h3 (by omega) (by omega)
    omega
  · have := Int.mul_le_mul h2 h4 (by omega) (by omega)
    omega
theorem spec_byte (x : Int) : spec_l02Byte.f x = some (byteB x) := by
  unfold spec_l02Byte.f byteB
  by_cases h : x ≥ 0
  · have h' : 0 ≤ x := h
    simp [h']
  · have h' : ¬ 0 ≤ x := h
    simp [h']
theorem spec_right_l0 (a b : Int) (l : List Int) (hl : l.length ≤ 1000000000) (d : Nat) : ∀ (k i : Nat), i + d = l.length → d + 1 ≤ k → spec_MatrixRight.l0 k (i : Int) a b l = some ((l.drop i).all byteB) := by
  induction d with
  | zero =>
    intro k i hi hk
    obtain ⟨k, rfl⟩ : ∃ m, k = m + 1 := ⟨k - 1, by omega⟩
    rw [spec_MatrixRight.l0, if_neg (by omega), List.drop_of_length_le (by omega)]
    rfl
  | succ d ih =>
    intro k i hi hk
    obtain ⟨k, rfl⟩ : ∃ m, k = m + 1 := ⟨k - 1, by omega⟩
    rw [spec_MatrixRight.l0, if_pos (by omega), if_pos (by omega), rd_get l i (by omega), spec_byte]
    simp only [Option.bind_some]
    rw [show wrap64 ((i : Int) + 1) = ((i + 1 : Nat) : Int) by unfold wrap64; omega, ih k (i + 1) (by omega) (by omega)]
    rw [List.drop_eq_getElem_cons (show i < l.length by omega), List.all_cons]
    cases byteB l[i] <;> simp
theorem spec_right (a b : Int) (l : List Int) (hl : l.length ≤ 1000000000) (k : Nat) (hk : l.length + 2 ≤ k) : spec_MatrixRight.f k a b l = some (okM a b l) := by
  obtain ⟨k, rfl⟩ : ∃ m, k = m + 1 := ⟨k - 1, by omega⟩
  unfold spec_MatrixRight.f okM
  simp only [spec_MatrixRight.j0]
  by_cases h1 : a < 1
  · rw [if_pos h1]
    simp
    omega
  rw [if_neg h1]
  by_cases h2 : a > 16
  · rw [if_pos h2]
    simp
    omega
  rw [if_neg h2]
  by_cases h3 : b < 1
  · rw [if_pos h3]
    simp
    omega
  rw [if_neg h3]
  by_cases h4 : b > 16
  · rw [if_pos h4]
    simp
    omega
  rw [if_neg h4]
  have hm := side_mul (a := a) (b := b) (by omega) (by omega) (by omega) (by omega)
  rw [show wrap64 (a * b) = a * b by unfold wrap64; omega]
  by_cases h5 : (l.length : Int) = a * b
  · have e : ((l.length : Int) != a * b) = false := by simp [h5]
    have h := spec_right_l0 a b l hl l.length k 0 (by omega) (by omega)
    rw [List.drop_zero] at h
    have h' : spec_MatrixRight.l0 k 0 a b l = some (l.all byteB) := h
    rw [e, if_neg (by simp), h', decide_eq_true (by omega)]
    rfl
  · have e : ((l.length : Int) != a * b) = true := by simp [h5]
    rw [e, if_pos rfl, decide_eq_false (by omega)]
    rfl
theorem markInts_l0 (s : Int) (hs : 0 < s) (d : Nat) : ∀ (k i : Nat) (l : List Int), i + d = l.length → s + l.length ≤ 2000000000 → d + 1 ≤ k → (∀ j : Nat, j < i → l[j]? = some (s + (j : Int))) →
    ∃ l' : List Int, laws_markInt64S.l0 k l (s + i) i = some (s + l.length, l') ∧ l'.length = l.length ∧ ∀ j : Nat, j < l.length → l'[j]? = some (s + (j : Int)) := by
  induction d with
  | zero =>
    intro k i l hi hl hk h
    obtain ⟨k, rfl⟩ : ∃ m, k = m + 1 := ⟨k - 1, by omega⟩
    refine ⟨l, ?_, rfl, fun j hj => h j (by omega)⟩
    rw [laws_markInt64S.l0, if_neg (by omega)]
    congr 2
    omega
  | succ d ih =>
    intro k i l hi hl hk h
    obtain ⟨k, rfl⟩ : ∃ m, k = m + 1 := ⟨k - 1, by omega⟩
    have hset : (l.set i (s + (i : Int))).length = l.length := List.length_set ..
    obtain ⟨l', e, h1, h2⟩ := ih k (i + 1) (l.set i (s + (i : Int))) (by omega) (by omega) (by omega) (by
      intro j hj
      by_cases hji : j = i
      · subst hji
        rw [List.getElem?_set_self (by omega)]
      · rw [List.getElem?_set_ne (by omega)]
        exact h j (by omega))
    rw [hset] at e h1 h2
    refine ⟨l', ?_, h1, h2⟩
    rw [laws_markInt64S.l0, if_pos (by omega), if_pos (by omega), Int.toNat_natCast, show wrap64 (s + (i : Int) + 1) = s + ((i + 1 : Nat) : Int) by unfold wrap64; omega, show wrap64 ((i : Int) + 1) = ((i + 1 : Nat) : Int) by unfold wrap64; omega]
    exact e
theorem heldInts_l0 (s : Int) (hs : 0 < s) (l : List Int) (hl : s + l.length ≤ 2000000000) (h : ∀ j : Nat, j < l.length → l[j]? = some (s + (j : Int))) (d : Nat) :
    ∀ (k i : Nat), i + d = l.length → d + 1 ≤ k → laws_heldInt64S.l0 k l (s + i) i = some (s + l.length) := by
  induction d with
  | zero =>
    intro k i hi hk
    obtain ⟨k, rfl⟩ : ∃ m, k = m + 1 := ⟨k - 1, by omega⟩
    rw [laws_heldInt64S.l0, if_neg (by omega)]
    congr 1
    omega
  | succ d ih =>
    intro k i hi hk
    obtain ⟨k, rfl⟩ : ∃ m, k = m + 1 := ⟨k - 1, by omega⟩
    have hr : rd l (i : Int) = s + (i : Int) := by
      unfold rd
      rw [Int.toNat_natCast, List.getD_eq_getElem?_getD, h i (by omega), Option.getD_some]
    rw [laws_heldInt64S.l0, if_pos (by omega), if_pos (by omega), hr, if_pos rfl, show wrap64 (s + (i : Int) + 1) = s + ((i + 1 : Nat) : Int) by unfold wrap64; omega, show wrap64 ((i : Int) + 1) = ((i + 1 : Nat) : Int) by unfold wrap64; omega]
    exact ih k (i + 1) (by omega) (by omega)
/-- marked, and held: what is marked is found so again. -/
theorem marks_ints (l : List Int) (s : Int) (hs : 0 < s) (hl : s + l.length ≤ 2000000000) (k : Nat) (hk : l.length + 1 ≤ k) :
    ∃ l', laws_markInt64S.f k l s = some (s + l.length, l') ∧ l'.length = l.length ∧ ∀ k', l.length + 1 ≤ k' → laws_heldInt64S.f k' l' s = some (s + l.length) := by
  obtain ⟨l', e, h1, h2⟩ := markInts_l0 s hs l.length k 0 l (by omega) hl hk (fun j hj => absurd hj (by omega))
  have z : s + ((0 : Nat) : Int) = s := by omega
  refine ⟨l', ?_, h1, fun k' hk' => ?_⟩
  · rw [z] at e
    exact e
  · have e2 := heldInts_l0 s hs l' (by omega) (fun j hj => h2 j (by omega)) l'.length k' 0 (by omega) (by omega)
    rw [h1, z] at e2
    exact e2
theorem spec_l02Mul_l0 (k : Nat) : ∀ (a o : Gf.B) (n : Nat), n < 256 → n < 2 ^ k → spec_l02Mul.l0 (k + 1) (un a) (n : Int) (un o) = some (un (o ^^^ Gf.mul a (BitVec.ofNat 8 n))) := by
  induction k with
  | zero =>
    intro a o n _ h
    obtain rfl : n = 0 := by omega
    simp only [spec_l02Mul.l0]
    rw [if_neg (by omega), show BitVec.ofNat 8 0 = 0#8 from rfl, Gf.mul_zero, BitVec.xor_zero]
  | succ k ih =>
    intro a o n h8 h
    rw [spec_l02Mul.l0]
    by_cases h0 : n = 0
    · subst h0
      rw [if_neg (by omega), show BitVec.ofNat 8 0 = 0#8 from rfl, Gf.mul_zero, BitVec.xor_zero]
    · rw [if_pos (by omega), mul_next a o n h8]
      rw [← ih (Gf.xt a) (if n % 2 = 1 then o ^^^ a else o) (n / 2) (by omega) (by rw [Nat.pow_succ] at h; omega)]
      simp only [odd_tmod, half_tdiv n (by omega), w_2un, xor_un]
      by_cases hp : n % 2 = 1 <;> by_cases hx : un a * 2 > 255
      · rw [if_pos (by omega), if_pos hx, if_pos hp, xt_high a hx]
      · rw [if_pos (by omega), if_neg hx, if_pos hp, xt_low a hx]
      · rw [if_neg (by omega), if_pos hx, if_neg hp, xt_high a hx]
      · rw [if_neg (by omega), if_neg hx, if_neg hp, xt_low a hx]
theorem spec_l02Mul_f (k : Nat) (hk : 9 ≤ k) (a b : Gf.B) : spec_l02Mul.f k (un a) (un b) = some (un (Gf.mul a b)) := by
  obtain ⟨m, rfl⟩ : ∃ m, k = m + 1 := ⟨k - 1, by omega⟩
  have h := spec_l02Mul_l0 m a 0#8 b.toNat b.isLt (Nat.lt_of_lt_of_le b.isLt (Nat.pow_le_pow_right (by decide) (show 8 ≤ m by omega)))
  rw [ofNat_un, BitVec.zero_xor] at h
  exact h
theorem impl_mul_l0 (k : Nat) : ∀ (a o : Gf.B) (n : Nat), n < 256 → n < 2 ^ k → impl_mul.l0 (k + 1) (un a) (n : Int) (un o) = some (un (o ^^^ Gf.mul a (BitVec.ofNat 8 n))) := by
  induction k with
  | zero =>
    intro a o n _ h
    obtain rfl : n = 0 := by omega
    simp only [impl_mul.l0]
    rw [if_neg (by omega), show BitVec.ofNat 8 0 = 0#8 from rfl, Gf.mul_zero, BitVec.xor_zero]
  | succ k ih =>
    intro a o n h8 h
    rw [impl_mul.l0]
    by_cases h0 : n = 0
    · subst h0
      rw [if_neg (by omega), show BitVec.ofNat 8 0 = 0#8 from rfl, Gf.mul_zero, BitVec.xor_zero]
    · rw [if_pos (by omega), mul_next a o n h8]
      rw [← ih (Gf.xt a) (if n % 2 = 1 then o ^^^ a else o) (n / 2) (by omega) (by rw [Nat.pow_succ] at h; omega)]
      simp only [odd_and n (by omega), half_div, w_un2, xor_un]
      by_cases hp : n % 2 = 1 <;> by_cases hx : un a * 2 > 255
      · rw [if_pos (by omega), if_pos hx, if_pos hp, xt_high a hx]
      · rw [if_pos (by omega), if_neg hx, if_pos hp, xt_low a hx]
      · rw [if_neg (by omega), if_pos hx, if_neg hp, xt_high a hx]
      · rw [if_neg (by omega), if_neg hx, if_neg hp, xt_low a hx]
theorem impl_mul_f (k : Nat) (hk : 9 ≤ k) (a b : Gf.B) : impl_mul.f k (un a) (un b) = some (un (Gf.mul a b)) := by
  obtain ⟨m, rfl⟩ : ∃ m, k = m + 1 := ⟨k - 1, by omega⟩
  have h := impl_mul_l0 m a 0#8 b.toNat b.isLt (Nat.lt_of_lt_of_le b.isLt (Nat.pow_le_pow_right (by decide) (show 8 ≤ m by omega)))
  rw [ofNat_un, BitVec.zero_xor] at h
  exact h
theorem spec_mul_l2 (K r c d i j : Nat) (la lb out : List Int) (hK : 10 ≤ K) (hr : r ≤ 16) (hc : c ≤ 16) (hd : d ≤ 16) (hla : la.length = r * c) (hlb : lb.length = c * d) (hba : Bytes la) (hbb : Bytes lb) (hi : i < r) (hj : j < d) (ho : out.length ≤ 1000000) :
    ∀ m n, n + m = c → spec_MatrixMul.l2 (K + m + 1) i j (un (dot la lb c d i j n)) n r c la c d lb r d out = spec_MatrixMul.l1 K i ((j + 1 : Nat) : Int) r c la c d lb r d (out ++ [un (dot la lb c d i j c)]) := by
  have hic := step_le c hi
  have hrc := side_le hr hc
  intro m
  induction m with
  | zero =>
    intro n hn
    obtain rfl : n = c := by omega
    rw [spec_MatrixMul.l2, if_neg (by omega), if_pos (by omega), w_succ j (by omega)]
  | succ m ih =>
    intro n hn
    have hnd := step_le d (show n < c by omega)
    have hcd := side_le hc hd
    rw [spec_MatrixMul.l2, if_pos (by omega), w_mul i c (by omega), w_mul n d (by omega), ← Int.natCast_add, ← Int.natCast_add, w_nat (i * c + n) (by omega), w_nat (n * d + j) (by omega), if_pos (by omega), if_pos (by omega), if_pos (by omega), if_pos (by omega), rd_cell hba (by omega), rd_cell hbb (by omega),
      spec_l02Mul_f (K + (m + 1)) (by omega), Option.bind_some, xor_un, w_succ n (by omega)]
    exact ih (n + 1) (by omega)
theorem spec_mul_l1 (K r c d i : Nat) (la lb : List Int) (hK : 10 ≤ K) (hr : r ≤ 16) (hc : c ≤ 16) (hd : d ≤ 16) (hla : la.length = r * c) (hlb : lb.length = c * d) (hba : Bytes la) (hbb : Bytes lb) (hi : i < r) :
    ∀ m j, j + m = d → spec_MatrixMul.l1 (K + m * (c + 2) + 1) i j r c la c d lb r d (grid (fun i j => un (dot la lb c d i j c)) d (i * d + j)) = spec_MatrixMul.l0 K ((i + 1 : Nat) : Int) r c la c d lb r d (grid (fun i j => un (dot la lb c d i j c)) d ((i + 1) * d)) := by
  intro m
  induction m with
  | zero =>
    intro j hj
    obtain rfl : j = d := by omega
    rw [Nat.zero_mul, Nat.add_zero, spec_MatrixMul.l1, if_neg (by omega), w_succ i (by omega), ← Nat.succ_mul]
  | succ m ih =>
    intro j hj
    have hid := step_le d hi
    have hrd := side_le hr hd
    have h := spec_mul_l2 (K + m * (c + 2) + 1) r c d i j la lb (grid (fun i j => un (dot la lb c d i j c)) d (i * d + j)) (by omega) hr hc hd hla hlb hba hbb hi (by omega) (by rw [grid_len]; omega) c 0 (by omega)
    rw [show K + (m + 1) * (c + 2) + 1 = (K + m * (c + 2) + 1 + c + 1) + 1 by rw [Nat.succ_mul]; omega, spec_MatrixMul.l1, if_pos (by omega)]
    refine h.trans ?_
    rw [grid_succ (fun i j => un (dot la lb c d i j c)) (by omega)]
    exact ih (j + 1) (by omega)
theorem spec_mul_l0 (r c d : Nat) (la lb : List Int) (hr : r ≤ 16) (hc : c ≤ 16) (hd : d ≤ 16) (hla : la.length = r * c) (hlb : lb.length = c * d) (hba : Bytes la) (hbb : Bytes lb) :
    ∀ m K i, 10 ≤ K → i + m = r → spec_MatrixMul.l0 (K + m * (d * (c + 2) + 2) + 1) i r c la c d lb r d (grid (fun i j => un (dot la lb c d i j c)) d (i * d)) = some ((r : Int), (d : Int), mulL la lb r c d, 0) := by
  intro m
  induction m with
  | zero =>
    intro K i hK hi
    obtain rfl : i = r := by omega
    rw [Nat.zero_mul, Nat.add_zero, spec_MatrixMul.l0, if_neg (by omega)]
    rfl
  | succ m ih =>
    intro K i hK hi
    have h := spec_mul_l1 (K + m * (d * (c + 2) + 2) + 1) r c d i la lb (by omega) hr hc hd hla hlb hba hbb (by omega) d 0 (by omega)
    rw [show K + (m + 1) * (d * (c + 2) + 2) + 1 = (K + m * (d * (c + 2) + 2) + 1 + d * (c + 2) + 1) + 1 by rw [Nat.succ_mul]; omega, spec_MatrixMul.l0, if_pos (by omega)]
    refine Eq.trans ?_ (ih K (i + 1) hK (by omega))
    exact h
theorem impl_mul_l2' (K r c d i j : Nat) (la lb out : List Int) (hK : 10 ≤ K) (hr : r ≤ 16) (hc : c ≤ 16) (hd : d ≤ 16) (hla : la.length = r * c) (hlb : lb.length = c * d) (hba : Bytes la) (hbb : Bytes lb) (hi : i < r) (hj : j < d) (ho : out.length ≤ 1000000) :
    ∀ m n, n + m = c → impl_Matrix_times.l2 (K + m + 1) i j (un (dot la lb c d i j n)) r i d j (rowL la c i) c n r c la c d lb r d out = impl_Matrix_times.l1 K i r i d ((j + 1 : Nat) : Int) r c la c d lb r d (out ++ [un (dot la lb c d i j c)]) := by
  have hic := step_le c hi
  have hrc := side_le hr hc
  have hrl := rowL_len hla hi
  intro m
  induction m with
  | zero =>
    intro n hn
    obtain rfl : n = c := by omega
    rw [impl_Matrix_times.l2, if_neg (by omega), if_pos (by omega), w_succ j (by omega)]
  | succ m ih =>
    intro n hn
    have hnd := step_le d (show n < c by omega)
    have hcd := side_le hc hd
    have hsm : (n + 1) * d = n * d + d := Nat.succ_mul n d
    have e : (lb.take (((n + 1) * d : Nat) : Int).toNat).drop ((n * d : Nat) : Int).toNat = rowL lb d n := by rw [Int.toNat_natCast, Int.toNat_natCast, Nat.succ_mul]; rfl
    have hl2 := rowL_len hlb (show n < c by omega)
    rw [impl_Matrix_times.l2, if_pos (by omega), if_pos (by omega), if_pos (by omega), w_succ n (by omega), w_mul n d (by omega), w_mul (n + 1) d (by omega), e, if_pos (by omega), if_pos (by omega), if_pos (by omega), if_pos (by omega), if_pos (by omega), rd_row hba hla hi (by omega), rd_row hbb hlb (by omega) hj,
      impl_mul_f (K + (m + 1)) (by omega), Option.bind_some, xor_un]
    exact ih (n + 1) (by omega)
theorem impl_mul_l1' (K r c d i : Nat) (la lb : List Int) (hK : 10 ≤ K) (hr : r ≤ 16) (hc : c ≤ 16) (hd : d ≤ 16) (hla : la.length = r * c) (hlb : lb.length = c * d) (hba : Bytes la) (hbb : Bytes lb) (hi : i < r) :
    ∀ m j, j + m = d → impl_Matrix_times.l1 (K + m * (c + 2) + 1) i r i d j r c la c d lb r d (grid (fun i j => un (dot la lb c d i j c)) d (i * d + j)) = impl_Matrix_times.l0 K r ((i + 1 : Nat) : Int) r c la c d lb r d (grid (fun i j => un (dot la lb c d i j c)) d ((i + 1) * d)) := by
  intro m
  induction m with
  | zero =>
    intro j hj
    obtain rfl : j = d := by omega
    rw [Nat.zero_mul, Nat.add_zero, impl_Matrix_times.l1, if_neg (by omega), w_succ i (by omega), ← Nat.succ_mul]
  | succ m ih =>
    intro j hj
    have hid := step_le d hi
    have hrd := side_le hr hd
    have hic := step_le c hi
    have hrc := side_le hr hc
    have hsm : (i + 1) * c = i * c + c := Nat.succ_mul i c
    have e : (la.take (((i + 1) * c : Nat) : Int).toNat).drop ((i * c : Nat) : Int).toNat = rowL la c i := by rw [Int.toNat_natCast, Int.toNat_natCast, Nat.succ_mul]; rfl
    have h := impl_mul_l2' (K + m * (c + 2) + 1) r c d i j la lb (grid (fun i j => un (dot la lb c d i j c)) d (i * d + j)) (by omega) hr hc hd hla hlb hba hbb hi (by omega) (by rw [grid_len]; omega) c 0 (by omega)
    rw [show K + (m + 1) * (c + 2) + 1 = (K + m * (c + 2) + 1 + c + 1) + 1 by rw [Nat.succ_mul]; omega, impl_Matrix_times.l1, if_pos (by omega), w_succ i (by omega), w_mul i c (by omega), w_mul (i + 1) c (by omega), if_pos (by omega), if_pos (by omega), if_pos (by omega), e, rowL_len hla hi]
    refine h.trans ?_
    rw [grid_succ (fun i j => un (dot la lb c d i j c)) (by omega)]
    exact ih (j + 1) (by omega)
theorem impl_mul_l0' (r c d : Nat) (la lb : List Int) (hr : r ≤ 16) (hc : c ≤ 16) (hd : d ≤ 16) (hla : la.length = r * c) (hlb : lb.length = c * d) (hba : Bytes la) (hbb : Bytes lb) :
    ∀ m K i, 10 ≤ K → i + m = r → impl_Matrix_times.l0 (K + m * (d * (c + 2) + 2) + 1) r i r c la c d lb r d (grid (fun i j => un (dot la lb c d i j c)) d (i * d)) = some ((r : Int), (d : Int), mulL la lb r c d) := by
  intro m
  induction m with
  | zero =>
    intro K i hK hi
    obtain rfl : i = r := by omega
    rw [Nat.zero_mul, Nat.add_zero, impl_Matrix_times.l0, if_neg (by omega)]
    rfl
  | succ m ih =>
    intro K i hK hi
    have h := impl_mul_l1' (K + m * (d * (c + 2) + 2) + 1) r c d i la lb (by omega) hr hc hd hla hlb hba hbb (by omega) d 0 (by omega)
    rw [show K + (m + 1) * (d * (c + 2) + 2) + 1 = (K + m * (d * (c + 2) + 2) + 1 + d * (c + 2) + 1) + 1 by rw [Nat.succ_mul]; omega, impl_Matrix_times.l0, if_pos (by omega)]
    refine Eq.trans ?_ (ih K (i + 1) hK (by omega))
    exact h
theorem okM_out {a b : Int} {l : List Int} (h : okM a b l = true) : ∃ r c : Nat, a = (r : Int) ∧ b = (c : Int) ∧ 1 ≤ r ∧ r ≤ 16 ∧ 1 ≤ c ∧ c ≤ 16 ∧ l.length = r * c ∧ Bytes l := by
  unfold okM at h
  rw [Bool.and_eq_true, decide_eq_true_iff, List.all_eq_true] at h
  obtain ⟨⟨h1, h2, h3, h4, h5⟩, h6⟩ := h
  obtain ⟨r, rfl⟩ := Int.eq_ofNat_of_zero_le (show 0 ≤ a by omega)
  obtain ⟨c, rfl⟩ := Int.eq_ofNat_of_zero_le (show 0 ≤ b by omega)
  refine ⟨r, c, rfl, rfl, by omega, by omega, by omega, by omega, ?_, fun x hx => ?_⟩
  · rw [← Int.natCast_mul] at h5
    exact Int.ofNat_inj.1 h5
  · have := h6 x hx
    unfold byteB at this
    rw [Bool.and_eq_true, decide_eq_true_iff, decide_eq_true_iff] at this
    exact this
/-- What MatrixMul answers. -/
def resMul (a b : Int) (l : List Int) (a' b' : Int) (l' : List Int) : Int × Int × List Int × Int := if okM a b l = true ∧ okM a' b' l' = true ∧ b = a' then (a, b', mulL l l' a.toNat b.toNat b'.toNat, 0) else (0, 0, [], 1)
theorem cost_le (r d c : Nat) (hr : r ≤ 16) (hd : d ≤ 16) (hc : c ≤ 16) : r * (d * (c + 2) + 2) ≤ 4700 := by
  have h1 : d * (c + 2) ≤ 16 * 18 := Nat.mul_le_mul hd (by omega)
  have h2 : r * (d * (c + 2) + 2) ≤ 16 * (16 * 18 + 2) := Nat.mul_le_mul hr (by omega)
  omega
theorem okM_same (a b : Int) (l : List Int) : okM a b l = FnExactMatrixRight_.okM a b l := rfl
theorem spec_mul (a b : Int) (l : List Int) (a' b' : Int) (l' : List Int) (hl : l.length ≤ 1000000000) (hl' : l'.length ≤ 1000000000) (k : Nat) (hk : l.length + l'.length + 5000 ≤ k) : spec_MatrixMul.f k a b l a' b' l' = some (resMul a b l a' b' l') := by
  unfold spec_MatrixMul.f resMul
  rw [spec_right a b l hl k (by omega), spec_right a' b' l' hl' k (by omega)]
  simp only [Option.bind_some]
  obtain ⟨k, rfl⟩ : ∃ m, k = m + 1 := ⟨k - 1, by omega⟩
  by_cases h1 : okM a b l = true
  · rw [if_pos h1]
    by_cases h2 : okM a' b' l' = true
    · rw [if_pos h2, spec_MatrixMul.j0]
      by_cases h3 : b = a'
      · obtain ⟨r, c, rfl, rfl, r1, r2, c1, c2, e1, by1⟩ := okM_out h1
        obtain ⟨c', d, rfl, rfl, c1', c2', d1, d2, e2, by2⟩ := okM_out h2
        obtain rfl : c = c' := by omega
        have hc := cost_le r d c r2 d2 c2
        rw [if_neg (by simp), if_pos ⟨h1, h2, rfl⟩]
        have h := spec_mul_l0 r c d l l' r2 c2 d2 e1 e2 by1 by2 r (k - (r * (d * (c + 2) + 2) + 1)) 0 (by omega) (by omega)
        rw [show k - (r * (d * (c + 2) + 2) + 1) + r * (d * (c + 2) + 2) + 1 = k by omega, Nat.zero_mul] at h
        exact h
      · rw [if_pos (by simpa using h3), if_neg (fun h => h3 h.2.2)]
        rfl
    · rw [if_neg h2, if_neg (fun h => h2 h.2.1), spec_MatrixMul.j0, if_pos rfl]
      rfl
  · rw [if_neg h1, if_neg (fun h => h1 h.1), spec_MatrixMul.j0, if_pos rfl]
    rfl
theorem impl_mul' (a b : Int) (l : List Int) (a' b' : Int) (l' : List Int) (hl : l.length ≤ 1000000000) (hl' : l'.length ≤ 1000000000) (k : Nat) (hk : l.length + l'.length + 5000 ≤ k) : impl_MatrixMul.f k a b l a' b' l' = some (resMul a b l a' b' l') := by
  unfold impl_MatrixMul.f resMul impl_MatrixRight.f ExtRight.mright
  rw [if_pos hl, if_pos hl']
  simp only [Option.bind_some]
  rw [← okM_same a b l, ← okM_same a' b' l']
  by_cases h1 : okM a b l = true
  · rw [if_pos h1]
    by_cases h2 : okM a' b' l' = true
    · rw [if_pos h2]
      by_cases h3 : b = a'
      · obtain ⟨r, c, rfl, rfl, r1, r2, c1, c2, e1, by1⟩ := okM_out h1
        obtain ⟨c', d, rfl, rfl, c1', c2', d1, d2, e2, by2⟩ := okM_out h2
        obtain rfl : c = c' := by omega
        have hc := cost_le r d c r2 d2 c2
        rw [if_pos rfl, if_pos ⟨h1, h2, rfl⟩]
        have h := impl_mul_l0' r c d l l' r2 c2 d2 e1 e2 by1 by2 r (k - (r * (d * (c + 2) + 2) + 1)) 0 (by omega) (by omega)
        rw [show k - (r * (d * (c + 2) + 2) + 1) + r * (d * (c + 2) + 2) + 1 = k by omega, Nat.zero_mul] at h
        unfold impl_Matrix_times.f
        rw [show ([] : List Int) = grid (fun i j => un (dot l l' c d i j c)) d 0 from rfl, show (0 : Int) = ((0 : Nat) : Int) from rfl, h]
        rfl
      · rw [if_neg h3, if_neg (fun h => h3 h.2.2)]
    · rw [if_neg h2, if_neg (fun h => h2 h.2.1)]
  · rw [if_neg h1, if_neg (fun h => h1 h.1)]
theorem res_len (a b : Int) (l : List Int) (a' b' : Int) (l' : List Int) : (resMul a b l a' b' l').2.2.1.length ≤ 256 := by
  unfold resMul
  split
  · rename_i h
    obtain ⟨h1, h2, h3⟩ := h
    obtain ⟨r, c, rfl, rfl, r1, r2, c1, c2, e1, by1⟩ := okM_out h1
    obtain ⟨c', d, rfl, rfl, c1', c2', d1, d2, e2, by2⟩ := okM_out h2
    show (mulL _ _ _ _ _).length ≤ 256
    unfold mulL
    rw [grid_len, Int.toNat_natCast, Int.toNat_natCast]
    exact side_le r2 d2
  · exact Nat.zero_le _
theorem j0_true (a b : Int) (l : List Int) (a' b' : Int) (l' : List Int) (hl : l.length ≤ 1048576) (hl' : l'.length ≤ 1048576) (k : Nat) (hk : l.length + l'.length + 6000 ≤ k) (R : Int × Int × List Int × Int) (hR : resMul a b l a' b' l' = R) :
    laws_FnExactMatrixMul.j0 k false a b l a' b' l' R.1 R.2.1 R.2.2.1 R.2.2.2 R.1 R.2.1 R.2.2.1 R.2.2.2 = some true := by
  obtain ⟨k, rfl⟩ : ∃ m, k = m + 1 := ⟨k - 1, by omega⟩
  have hRl : R.2.2.1.length ≤ 256 := by rw [← hR]; exact res_len a b l a' b' l'
  obtain ⟨r, e1, e2, e3⟩ := marks_ints R.2.2.1 1 (by omega) (by omega) k (by omega)
  have e4 := e3 k (by omega)
  rw [laws_FnExactMatrixMul.j0, if_neg (by simp)]
  unfold laws_markMatrixOut.f laws_markMatrix.f laws_heldMatrixOut.f laws_heldMatrix.f
  rw [e1]
  simp only [Option.bind_some]
  rw [e4]
  simp only [Option.bind_some]
  rw [if_neg (by omega)]
  simp only [Option.bind_some]
  rw [if_neg (by omega)]
  simp only [Option.bind_some]
  rw [if_neg (by omega)]
  rw [if_pos (by first | rfl | exact True.intro)]
  rw [toMatrix_eq a b l (by omega) k (by omega), toMatrix_eq a' b' l' (by omega) k (by omega)]
  simp only [Option.bind_some]
  rw [impl_mul' a b l a' b' l' (by omega) (by omega) k (by omega), hR]
  simp only [Option.bind_some]
  rw [eqOut_same R.1 R.2.1 R.2.2.1 R.2.2.2 (by omega) k (by omega)]
  simp only [Option.bind_some, if_true]
  rw [if_neg (by omega)]
end FnExactMatrixMul_
open FnExactMatrixMul_
theorem FnExactMatrixMul (a b : Int) (l : List Int) (a' b' : Int) (l' : List Int) (_ : (Lit.int .i64 a).wf = true) (_ : (Lit.int .i64 b).wf = true) (hm : l.length ≤ maxLen) (_ : ∀ x ∈ l, (Lit.int .i64 x).wf = true) (_ : (Lit.int .i64 a').wf = true) (_ : (Lit.int .i64 b').wf = true) (hm' : l'.length ≤ maxLen) (_ : ∀ x ∈ l', (Lit.int .i64 x).wf = true) : ∃ k, laws_FnExactMatrixMul.f k a b l a' b' l' = some true := by
  suffices main : ∀ K : Nat, l.length + l'.length + 7000 ≤ K → laws_FnExactMatrixMul.f K a b l a' b' l' = some true from ⟨_, main (l.length + l'.length + 7000) (by omega)⟩
  intro K hK
  unfold laws_FnExactMatrixMul.f
  rw [szMatrix_eq a b l 1048576 (by omega) (by omega) hm]
  simp only [Option.bind_some]
  by_cases h : (1048576 : Int) - (l.length : Int) < 0
  · rw [if_pos h, if_pos (by omega)]
  rw [if_neg h, if_neg h, szMatrix_eq a' b' l' _ (by omega) (by omega) hm']
  simp only [Option.bind_some]
  by_cases h' : (1048576 : Int) - (l.length : Int) - (l'.length : Int) < 0
  · rw [if_pos h', if_pos (by omega)]
  rw [if_neg h', if_neg h']
  obtain ⟨r, e1, e2, _⟩ := marks_ints l 1 (by omega) (by omega) K (by omega)
  obtain ⟨r', e1', e2', _⟩ := marks_ints l' (1 + (l.length : Int)) (by omega) (by omega) K (by omega)
  have hj := j0_true a b l a' b' l' (by omega) (by omega) K (by omega) (resMul a b l a' b' l') rfl
  have hRl := res_len a b l a' b' l'
  rw [toMatrix_eq a b l (by omega) K (by omega), toMatrix_eq a' b' l' (by omega) K (by omega)]
  simp only [Option.bind_some]
  rw [spec_mul a b l a' b' l' (by omega) (by omega) K (by omega), impl_mul' a b l a' b' l' (by omega) (by omega) K (by omega)]
  generalize resMul a b l a' b' l' = R at hj hRl
  simp only [Option.bind_some]
  rw [eqOut_same R.1 R.2.1 R.2.2.1 R.2.2.2 (by omega) K (by omega), eqMatrix_same a b l (by omega) K (by omega), eqMatrix_same a' b' l' (by omega) K (by omega)]
  simp only [Option.bind_some, if_true]
  unfold laws_markMatrix.f
  rw [e1]
  simp only [Option.bind_some]
  rw [e1']
  simp only [Option.bind_some]
  rw [if_neg (by omega)]
  exact hj
end Go.Proofs.Ytlololbhlnapkaa.Pure
