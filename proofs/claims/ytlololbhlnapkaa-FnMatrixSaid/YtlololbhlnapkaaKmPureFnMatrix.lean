/-
  The law FnMatrix, over plain values: products of drawn right matrices do not ask for the brackets; a square one has an inverse just if its rows are independent, and their product is the unit matrix. No conditions beyond the statement's own.
-/
import Derived.Test.YtlololbhlnapkaaKmAid
import Derived.Test.YtlololbhlnapkaaKmMc
import Derived.Test.YtlololbhlnapkaaKmRd
import Derived.Test.YtlololbhlnapkaaKmCk
import Derived.Test.YtlololbhlnapkaaKmMt
import Derived.Test.YtlololbhlnapkaaKmCp
import Derived.Test.YtlololbhlnapkaaKmXFnMatrixx13
namespace Go.Proofs.Ytlololbhlnapkaa.Pure
open Go.RowKit Go.Proofs.Ytlololbhlnapkaa.XFnMatrix Go.Proofs.Ytlololbhlnapkaa.Gf Go.Proofs.Ytlololbhlnapkaa.FieldAid Go.Proofs.Ytlololbhlnapkaa.Mp Go.Proofs.YtlololbhlnapkaaW.PrintWords Go.Proofs.YtlololbhlnapkaaW.PrintLast Go.Proofs.YtlololbhlnapkaaW.PrintMore
open Go.Proofs.Ytlololbhlnapkaa.Mc Go.Proofs.Ytlololbhlnapkaa.Rd Go.Proofs.Ytlololbhlnapkaa.Rw Go.Proofs.Ytlololbhlnapkaa
set_option linter.unusedVariables false
set_option linter.unusedSimpArgs false
namespace FnMatrix_
theorem rd_get (l : List Int) (i : Nat) (h : i < l.length) : rd l (i : Int) = l[i] := by
  unfold rd
  rw [Int.toNat_natCast, List.getD_eq_getElem?_getD, List.getElem?_eq_getElem h, Option.getD_some]
def byteB (x : Int) : Bool := decide (0 ≤ x) && decide (x ≤ 255)
def okM (a b : Int) (l : List Int) : Bool := decide (1 ≤ a ∧ a ≤ 16 ∧ 1 ≤ b ∧ b ≤ 16 ∧ (l.length : Int) = a * b) && l.all byteB
theorem side_mul {a b : Int} (h1 : 1 ≤ a) (h2 : a ≤ 16) (h3 : 1 ≤ b) (h4 : b ≤ 16) : 1 ≤ a * b ∧ a * b ≤ 256 := by
  constructor
  · have := Int.mul_le_mul h1 h3 (by omega) (by omega)
    omega
  · have := Int.mul_le_mul h2 h4 (by omega) (by omega)
    omega
theorem okM_out {a b : Int} {l : List Int} (h : okM a b l = true) : ∃ r c : Nat, a = (r : Int) ∧ b = (c : Int) ∧ 1 ≤ r ∧ r ≤ 16 ∧ 1 ≤ c ∧ c ≤ 16 ∧ l.length = r * c ∧ Bytes l := by
  unfold okM at h
  rw [Bool.and_eq_true, decide_eq_true_iff, List.all_eq_true] at h
  obtain ⟨⟨h1, h2, h3, h4, h5⟩, h6⟩ := h
  obtain ⟨r, rfl⟩ := Int.eq_ofNat_of_zero_le (show 0 ≤ a by omega)
  obtain ⟨c, rfl⟩ := Int.eq_ofNat_of_zero_le (show 0 ≤ b by omega)
  refine ⟨r, c, rfl, rfl, by omega, by omega, by omega, by omega, ?_, fun x hx => ?_⟩
  · rw [← Int.natCast_mul] at h5
    exact Int.ofNat_inj.1 h5
  · have := h6 x hx
    unfold byteB at this
    rw [Bool.and_eq_true, decide_eq_true_iff, decide_eq_true_iff] at this
    exact this
theorem spec_byte (x : Int) : spec_l02Byte.f x = some (byteB x) := by
  unfold spec_l02Byte.f byteB
  by_cases h : x ≥ 0
  · have h' : 0 ≤ x := h
    simp [h']
  · have h' : ¬ 0 ≤ x := h
    simp [h']
theorem spec_right_l0 (a b : Int) (l : List Int) (hl : l.length ≤ 1000000000) (d : Nat) : ∀ (k i : Nat), i + d = l.length → d + 1 ≤ k → spec_MatrixRight.l0 k (i : Int) a b l = some ((l.drop i).all byteB) := by
  induction d with
  | zero =>
    intro k i hi hk
    obtain ⟨k, rfl⟩ : ∃ m, k = m + 1 := ⟨k - 1, by omega⟩
    rw [spec_MatrixRight.l0, if_neg (by omega), List.drop_of_length_le (by omega)]
    rfl
  | succ d ih =>
    intro k i hi hk
    obtain ⟨k, rfl⟩ : ∃ m, k = m + 1 := ⟨k - 1, by omega⟩
    rw [spec_MatrixRight.l0, if_pos (by omega), if_pos (by omega), rd_get l i (by omega), spec_byte]
    simp only [Option.bind_some]
    rw [show wrap64 ((i : Int) + 1) = ((i + 1 : Nat) : Int) by unfold wrap64; omega, ih k (i + 1) (by omega) (by omega)]
    rw [List.drop_eq_getElem_cons (show i < l.length by omega), List.all_cons]
    cases byteB l[i] <;> simp
theorem spec_right (a b : Int) (l : List Int) (hl : l.length ≤ 1000000000) (k : Nat) (hk : l.length + 2 ≤ k) : spec_MatrixRight.f k a b l = some (okM a b l) := by
  obtain ⟨k, rfl⟩ : ∃ m, k = m + 1 := ⟨k - 1, by omega⟩
  unfold spec_MatrixRight.f okM
  simp only [spec_MatrixRight.j0]
  by_cases h1 : a < 1
  · rw [if_pos h1]
    simp
    omega
  rw [if_neg h1]
  by_cases h2 : a > 16
  · rw [if_pos h2]
    simp
    omega
  rw [if_neg h2]
  by_cases h3 : b < 1
  · rw [if_pos h3]
    simp
    omega
  rw [if_neg h3]
  by_cases h4 : b > 16
  · rw [if_pos h4]
    simp
    omega
  rw [if_neg h4]
  have hm := side_mul (a := a) (b := b) (by omega) (by omega) (by omega) (by omega)
  rw [show wrap64 (a * b) = a * b by unfold wrap64; omega]
  by_cases h5 : (l.length : Int) = a * b
  · have e : ((l.length : Int) != a * b) = false := by simp [h5]
    have h := spec_right_l0 a b l hl l.length k 0 (by omega) (by omega)
    rw [List.drop_zero] at h
    have h' : spec_MatrixRight.l0 k 0 a b l = some (l.all byteB) := h
    rw [e, if_neg (by simp), h', decide_eq_true (by omega)]
    rfl
  · have e : ((l.length : Int) != a * b) = true := by simp [h5]
    rw [e, if_pos rfl, decide_eq_false (by omega)]
    rfl
theorem spec_l02Mul_l0 (k : Nat) : ∀ (a o : Gf.B) (n : Nat), n < 256 → n < 2 ^ k → spec_l02Mul.l0 (k + 1) (un a) (n : Int) (un o) = some (un (o ^^^ Gf.mul a (BitVec.ofNat 8 n))) := by
  induction k with
  | zero =>
    intro a o n _ h
    obtain rfl : n = 0 := by omega
    simp only [spec_l02Mul.l0]
    rw [if_neg (by omega), show BitVec.ofNat 8 0 = 0#8 from rfl, Gf.mul_zero, BitVec.xor_zero]
  | succ k ih =>
    intro a o n h8 h
    rw [spec_l02Mul.l0]
    by_cases h0 : n = 0
    · subst h0
      rw [if_neg (by omega), show BitVec.ofNat 8 0 = 0#8 from rfl, Gf.mul_zero, BitVec.xor_zero]
    · rw [if_pos (by omega), mul_next a o n h8]
      rw [← ih (Gf.xt a) (if n % 2 = 1 then o ^^^ a else o) (n / 2) (by omega) (by rw [Nat.pow_succ] at h; omega)]
      simp only [odd_tmod, half_tdiv n (by omega), w_2un, xor_un]
      by_cases hp : n % 2 = 1 <;> by_cases hx : un a * 2 > 255
      · rw [if_pos (by omega), if_pos hx, if_pos hp, xt_high a hx]
      · rw [if_pos (by omega), if_neg hx, if_pos hp, xt_low a hx]
      · rw [if_neg (by omega), if_pos hx, if_neg hp, xt_high a hx]
      · rw [if_neg (by omega), if_neg hx, if_neg hp, xt_low a hx]
theorem spec_l02Mul_f (k : Nat) (hk : 9 ≤ k) (a b : Gf.B) : spec_l02Mul.f k (un a) (un b) = some (un (Gf.mul a b)) := by
  obtain ⟨m, rfl⟩ : ∃ m, k = m + 1 := ⟨k - 1, by omega⟩
  have h := spec_l02Mul_l0 m a 0#8 b.toNat b.isLt (Nat.lt_of_lt_of_le b.isLt (Nat.pow_le_pow_right (by decide) (show 8 ≤ m by omega)))
  rw [ofNat_un, BitVec.zero_xor] at h
  exact h
theorem impl_mul_l0 (k : Nat) : ∀ (a o : Gf.B) (n : Nat), n < 256 → n < 2 ^ k → impl_mul.l0 (k + 1) (un a) (n : Int) (un o) = some (un (o ^^^ Gf.mul a (BitVec.ofNat 8 n))) := by
  induction k with
  | zero =>
    intro a o n _ h
    obtain rfl : n = 0 := by omega
    simp only [impl_mul.l0]
    rw [if_neg (by omega), show BitVec.ofNat 8 0 = 0#8 from rfl, Gf.mul_zero, BitVec.xor_zero]
  | succ k ih =>
    intro a o n h8 h
    rw [impl_mul.l0]
    by_cases h0 : n = 0
    · subst h0
      rw [if_neg (by omega), show BitVec.ofNat 8 0 = 0#8 from rfl, Gf.mul_zero, BitVec.xor_zero]
    · rw [if_pos (by omega), mul_next a o n h8]
      rw [← ih (Gf.xt a) (if n % 2 = 1 then o ^^^ a else o) (n / 2) (by omega) (by rw [Nat.pow_succ] at h; omega)]
      simp only [odd_and n (by omega), half_div, w_un2, xor_un]
      by_cases hp : n % 2 = 1 <;> by_cases hx : un a * 2 > 255
      · rw [if_pos (by omega), if_pos hx, if_pos hp, xt_high a hx]
      · rw [if_pos (by omega), if_neg hx, if_pos hp, xt_low a hx]
      · rw [if_neg (by omega), if_pos hx, if_neg hp, xt_high a hx]
      · rw [if_neg (by omega), if_neg hx, if_neg hp, xt_low a hx]
theorem impl_mul_f (k : Nat) (hk : 9 ≤ k) (a b : Gf.B) : impl_mul.f k (un a) (un b) = some (un (Gf.mul a b)) := by
  obtain ⟨m, rfl⟩ : ∃ m, k = m + 1 := ⟨k - 1, by omega⟩
  have h := impl_mul_l0 m a 0#8 b.toNat b.isLt (Nat.lt_of_lt_of_le b.isLt (Nat.pow_le_pow_right (by decide) (show 8 ≤ m by omega)))
  rw [ofNat_un, BitVec.zero_xor] at h
  exact h
theorem spec_mul_l2 (K r c d i j : Nat) (la lb out : List Int) (hK : 10 ≤ K) (hr : r ≤ 16) (hc : c ≤ 16) (hd : d ≤ 16) (hla : la.length = r * c) (hlb : lb.length = c * d) (hba : Bytes la) (hbb : Bytes lb) (hi : i < r) (hj : j < d) (ho : out.length ≤ 1000000) :
    ∀ m n, n + m = c → spec_MatrixMul.l2 (K + m + 1) i j (un (dot la lb c d i j n)) n r c la c d lb r d out = spec_MatrixMul.l1 K i ((j + 1 : Nat) : Int) r c la c d lb r d (out ++ [un (dot la lb c d i j c)]) := by
  have hic := step_le c hi
  have hrc := side_le hr hc
  intro m
  induction m with
  | zero =>
    intro n hn
    obtain rfl : n = c := by omega
    rw [spec_MatrixMul.l2, if_neg (by omega), if_pos (by omega), w_succ j (by omega)]
  | succ m ih =>
    intro n hn
    have hnd := step_le d (show n < c by omega)
    have hcd := side_le hc hd
    rw [spec_MatrixMul.l2, if_pos (by omega), w_mul i c (by omega), w_mul n d (by omega), ← Int.natCast_add, ← Int.natCast_add, w_nat (i * c + n) (by omega), w_nat (n * d + j) (by omega), if_pos (by omega), if_pos (by omega), if_pos (by omega), if_pos (by omega), rd_cell hba (by omega), rd_cell hbb (by omega),
      spec_l02Mul_f (K + (m + 1)) (by omega), Option.bind_some, xor_un, w_succ n (by omega)]
    exact ih (n + 1) (by omega)
theorem spec_mul_l1 (K r c d i : Nat) (la lb : List Int) (hK : 10 ≤ K) (hr : r ≤ 16) (hc : c ≤ 16) (hd : d ≤ 16) (hla : la.length = r * c) (hlb : lb.length = c * d) (hba : Bytes la) (hbb : Bytes lb) (hi : i < r) :
    ∀ m j, j + m = d → spec_MatrixMul.l1 (K + m * (c + 2) + 1) i j r c la c d lb r d (grid (fun i j => un (dot la lb c d i j c)) d (i * d + j)) = spec_MatrixMul.l0 K ((i + 1 : Nat) : Int) r c la c d lb r d (grid (fun i j => un (dot la lb c d i j c)) d ((i + 1) * d)) := by
  intro m
  induction m with
  | zero =>
    intro j hj
    obtain rfl : j = d := by omega
    rw [Nat.zero_mul, Nat.add_zero, spec_MatrixMul.l1, if_neg (by omega), w_succ i (by omega), ← Nat.succ_mul]
  | succ m ih =>
    intro j hj
    have hid := step_le d hi
    have hrd := side_le hr hd
    have h := spec_mul_l2 (K + m * (c + 2) + 1) r c d i j la lb (grid (fun i j => un (dot la lb c d i j c)) d (i * d + j)) (by omega) hr hc hd hla hlb hba hbb hi (by omega) (by rw [grid_len]; omega) c 0 (by omega)
    rw [show K + (m + 1) * (c + 2) + 1 = (K + m * (c + 2) + 1 + c + 1) + 1 by rw [Nat.succ_mul]; omega, spec_MatrixMul.l1, if_pos (by omega)]
    refine h.trans ?_
    rw [grid_succ (fun i j => un (dot la lb c d i j c)) (by omega)]
    exact ih (j + 1) (by omega)
theorem spec_mul_l0 (r c d : Nat) (la lb : List Int) (hr : r ≤ 16) (hc : c ≤ 16) (hd : d ≤ 16) (hla : la.length = r * c) (hlb : lb.length = c * d) (hba : Bytes la) (hbb : Bytes lb) :
    ∀ m K i, 10 ≤ K → i + m = r → spec_MatrixMul.l0 (K + m * (d * (c + 2) + 2) + 1) i r c la c d lb r d (grid (fun i j => un (dot la lb c d i j c)) d (i * d)) = some ((r : Int), (d : Int), mulL la lb r c d, 0) := by
  intro m
  induction m with
  | zero =>
    intro K i hK hi
    obtain rfl : i = r := by omega
    rw [Nat.zero_mul, Nat.add_zero, spec_MatrixMul.l0, if_neg (by omega)]
    rfl
  | succ m ih =>
    intro K i hK hi
    have h := spec_mul_l1 (K + m * (d * (c + 2) + 2) + 1) r c d i la lb (by omega) hr hc hd hla hlb hba hbb (by omega) d 0 (by omega)
    rw [show K + (m + 1) * (d * (c + 2) + 2) + 1 = (K + m * (d * (c + 2) + 2) + 1 + d * (c + 2) + 1) + 1 by rw [Nat.succ_mul]; omega, spec_MatrixMul.l0, if_pos (by omega)]
    refine Eq.trans ?_ (ih K (i + 1) hK (by omega))
    exact h
theorem impl_mul_l2' (K r c d i j : Nat) (la lb out : List Int) (hK : 10 ≤ K) (hr : r ≤ 16) (hc : c ≤ 16) (hd : d ≤ 16) (hla : la.length = r * c) (hlb : lb.length = c * d) (hba : Bytes la) (hbb : Bytes lb) (hi : i < r) (hj : j < d) (ho : out.length ≤ 1000000) :
    ∀ m n, n + m = c → impl_Matrix_times.l2 (K + m + 1) i j (un (dot la lb c d i j n)) r i d j (rowL la c i) c n r c la c d lb r d out = impl_Matrix_times.l1 K i r i d ((j + 1 : Nat) : Int) r c la c d lb r d (out ++ [un (dot la lb c d i j c)]) := by
  have hic := step_le c hi
  have hrc := side_le hr hc
  have hrl := rowL_len hla hi
  intro m
  induction m with
  | zero =>
    intro n hn
    obtain rfl : n = c := by omega
    rw [impl_Matrix_times.l2, if_neg (by omega), if_pos (by omega), w_succ j (by omega)]
  | succ m ih =>
    intro n hn
    have hnd := step_le d (show n < c by omega)
    have hcd := side_le hc hd
    have hsm : (n + 1) * d = n * d + d := Nat.succ_mul n d
    have e : (lb.take (((n + 1) * d : Nat) : Int).toNat).drop ((n * d : Nat) : Int).toNat = rowL lb d n := by rw [Int.toNat_natCast, Int.toNat_natCast, Nat.succ_mul]; rfl
    have hl2 := rowL_len hlb (show n < c by omega)
    rw [impl_Matrix_times.l2, if_pos (by omega), if_pos (by omega), if_pos (by omega), w_succ n (by omega), w_mul n d (by omega), w_mul (n + 1) d (by omega), e, if_pos (by omega), if_pos (by omega), if_pos (by omega), if_pos (by omega), if_pos (by omega), rd_row hba hla hi (by omega), rd_row hbb hlb (by omega) hj,
      impl_mul_f (K + (m + 1)) (by omega), Option.bind_some, xor_un]
    exact ih (n + 1) (by omega)
theorem impl_mul_l1' (K r c d i : Nat) (la lb : List Int) (hK : 10 ≤ K) (hr : r ≤ 16) (hc : c ≤ 16) (hd : d ≤ 16) (hla : la.length = r * c) (hlb : lb.length = c * d) (hba : Bytes la) (hbb : Bytes lb) (hi : i < r) :
    ∀ m j, j + m = d → impl_Matrix_times.l1 (K + m * (c + 2) + 1) i r i d j r c la c d lb r d (grid (fun i j => un (dot la lb c d i j c)) d (i * d + j)) = impl_Matrix_times.l0 K r ((i + 1 : Nat) : Int) r c la c d lb r d (grid (fun i j => un (dot la lb c d i j c)) d ((i + 1) * d)) := by
  intro m
  induction m with
  | zero =>
    intro j hj
    obtain rfl : j = d := by omega
    rw [Nat.zero_mul, Nat.add_zero, impl_Matrix_times.l1, if_neg (by omega), w_succ i (by omega), ← Nat.succ_mul]
  | succ m ih =>
    intro j hj
    have hid := step_le d hi
    have hrd := side_le hr hd
    have hic := step_le c hi
    have hrc := side_le hr hc
    have hsm : (i + 1) * c = i * c + c := Nat.succ_mul i c
    have e : (la.take (((i + 1) * c : Nat) : Int).toNat).drop ((i * c : Nat) : Int).toNat = rowL la c i := by rw [Int.toNat_natCast, Int.toNat_natCast, Nat.succ_mul]; rfl
    have h := impl_mul_l2' (K + m * (c + 2) + 1) r c d i j la lb (grid (fun i j => un (dot la lb c d i j c)) d (i * d + j)) (by omega) hr hc hd hla hlb hba hbb hi (by omega) (by rw [grid_len]; omega) c 0 (by omega)
    rw [show K + (m + 1) * (c + 2) + 1 = (K + m * (c + 2) + 1 + c + 1) + 1 by rw [Nat.succ_mul]; omega, impl_Matrix_times.l1, if_pos (by omega), w_succ i (by omega), w_mul i c (by omega), w_mul (i + 1) c (by omega), if_pos (by omega), if_pos (by omega), if_pos (by omega), e, rowL_len hla hi]
    refine h.trans ?_
    rw [grid_succ (fun i j => un (dot la lb c d i j c)) (by omega)]
    exact ih (j + 1) (by omega)
theorem impl_mul_l0' (r c d : Nat) (la lb : List Int) (hr : r ≤ 16) (hc : c ≤ 16) (hd : d ≤ 16) (hla : la.length = r * c) (hlb : lb.length = c * d) (hba : Bytes la) (hbb : Bytes lb) :
    ∀ m K i, 10 ≤ K → i + m = r → impl_Matrix_times.l0 (K + m * (d * (c + 2) + 2) + 1) r i r c la c d lb r d (grid (fun i j => un (dot la lb c d i j c)) d (i * d)) = some ((r : Int), (d : Int), mulL la lb r c d) := by
  intro m
  induction m with
  | zero =>
    intro K i hK hi
    obtain rfl : i = r := by omega
    rw [Nat.zero_mul, Nat.add_zero, impl_Matrix_times.l0, if_neg (by omega)]
    rfl
  | succ m ih =>
    intro K i hK hi
    have h := impl_mul_l1' (K + m * (d * (c + 2) + 2) + 1) r c d i la lb (by omega) hr hc hd hla hlb hba hbb (by omega) d 0 (by omega)
    rw [show K + (m + 1) * (d * (c + 2) + 2) + 1 = (K + m * (d * (c + 2) + 2) + 1 + d * (c + 2) + 1) + 1 by rw [Nat.succ_mul]; omega, impl_Matrix_times.l0, if_pos (by omega)]
    refine Eq.trans ?_ (ih K (i + 1) hK (by omega))
    exact h
/-- What MatrixMul answers. -/
def resMul (a b : Int) (l : List Int) (a' b' : Int) (l' : List Int) : Int × Int × List Int × Int := if okM a b l = true ∧ okM a' b' l' = true ∧ b = a' then (a, b', mulL l l' a.toNat b.toNat b'.toNat, 0) else (0, 0, [], 1)
theorem cost_le (r d c : Nat) (hr : r ≤ 16) (hd : d ≤ 16) (hc : c ≤ 16) : r * (d * (c + 2) + 2) ≤ 4700 := by
  have h1 : d * (c + 2) ≤ 16 * 18 := Nat.mul_le_mul hd (by omega)
  have h2 : r * (d * (c + 2) + 2) ≤ 16 * (16 * 18 + 2) := Nat.mul_le_mul hr (by omega)
  omega
theorem okM_same (a b : Int) (l : List Int) : okM a b l = FnExactMatrixRight_.okM a b l := rfl
theorem spec_mul (a b : Int) (l : List Int) (a' b' : Int) (l' : List Int) (hl : l.length ≤ 1000000000) (hl' : l'.length ≤ 1000000000) (k : Nat) (hk : l.length + l'.length + 5000 ≤ k) : spec_MatrixMul.f k a b l a' b' l' = some (resMul a b l a' b' l') := by
  unfold spec_MatrixMul.f resMul
  rw [spec_right a b l hl k (by omega), spec_right a' b' l' hl' k (by omega)]
  simp only [Option.bind_some]
  obtain ⟨k, rfl⟩ : ∃ m, k = m + 1 := ⟨k - 1, by omega⟩
  by_cases h1 : okM a b l = true
  · rw [if_pos h1]
    by_cases h2 : okM a' b' l' = true
    · rw [if_pos h2, spec_MatrixMul.j0]
      by_cases h3 : b = a'
      · obtain ⟨r, c, rfl, rfl, r1, r2, c1, c2, e1, by1⟩ := okM_out h1
        obtain ⟨c', d, rfl, rfl, c1', c2', d1, d2, e2, by2⟩ := okM_out h2
        obtain rfl : c = c' := by omega
        have hc := cost_le r d c r2 d2 c2
        rw [if_neg (by simp), if_pos ⟨h1, h2, rfl⟩]
        have h := spec_mul_l0 r c d l l' r2 c2 d2 e1 e2 by1 by2 r (k - (r * (d * (c + 2) + 2) + 1)) 0 (by omega) (by omega)
        rw [show k - (r * (d * (c + 2) + 2) + 1) + r * (d * (c + 2) + 2) + 1 = k by omega, Nat.zero_mul] at h
        exact h
      · rw [if_pos (by simpa using h3), if_neg (fun h => h3 h.2.2)]
        rfl
    · rw [if_neg h2, if_neg (fun h => h2 h.2.1), spec_MatrixMul.j0, if_pos rfl]
      rfl
  · rw [if_neg h1, if_neg (fun h => h1 h.1), spec_MatrixMul.j0, if_pos rfl]
    rfl
theorem impl_mul' (a b : Int) (l : List Int) (a' b' : Int) (l' : List Int) (hl : l.length ≤ 1000000000) (hl' : l'.length ≤ 1000000000) (k : Nat) (hk : l.length + l'.length + 5000 ≤ k) : impl_MatrixMul.f k a b l a' b' l' = some (resMul a b l a' b' l') := by
  unfold impl_MatrixMul.f resMul impl_MatrixRight.f ExtRight.mright
  rw [if_pos hl, if_pos hl']
  simp only [Option.bind_some]
  rw [← okM_same a b l, ← okM_same a' b' l']
  by_cases h1 : okM a b l = true
  · rw [if_pos h1]
    by_cases h2 : okM a' b' l' = true
    · rw [if_pos h2]
      by_cases h3 : b = a'
      · obtain ⟨r, c, rfl, rfl, r1, r2, c1, c2, e1, by1⟩ := okM_out h1
        obtain ⟨c', d, rfl, rfl, c1', c2', d1, d2, e2, by2⟩ := okM_out h2
        obtain rfl : c = c' := by omega
        have hc := cost_le r d c r2 d2 c2
        rw [if_pos rfl, if_pos ⟨h1, h2, rfl⟩]
        have h := impl_mul_l0' r c d l l' r2 c2 d2 e1 e2 by1 by2 r (k - (r * (d * (c + 2) + 2) + 1)) 0 (by omega) (by omega)
        rw [show k - (r * (d * (c + 2) + 2) + 1) + r * (d * (c + 2) + 2) + 1 = k by omega, Nat.zero_mul] at h
        unfold impl_Matrix_times.f
        rw [show ([] : List Int) = grid (fun i j => un (dot l l' c d i j c)) d 0 from rfl, show (0 : Int) = ((0 : Nat) : Int) from rfl, h]
        rfl
      · rw [if_neg h3, if_neg (fun h => h3 h.2.2)]
    · rw [if_neg h2, if_neg (fun h => h2 h.2.1)]
  · rw [if_neg h1, if_neg (fun h => h1 h.1)]
theorem res_len (a b : Int) (l : List Int) (a' b' : Int) (l' : List Int) : (resMul a b l a' b' l').2.2.1.length ≤ 256 := by
  unfold resMul
  split
  · rename_i h
    obtain ⟨h1, h2, h3⟩ := h
    obtain ⟨r, c, rfl, rfl, r1, r2, c1, c2, e1, by1⟩ := okM_out h1
    obtain ⟨c', d, rfl, rfl, c1', c2', d1, d2, e2, by2⟩ := okM_out h2
    show (mulL _ _ _ _ _).length ≤ 256
    unfold mulL
    rw [grid_len, Int.toNat_natCast, Int.toNat_natCast]
    exact side_le r2 d2
  · exact Nat.zero_le _
def gridB (g : Rd.H) (d n : Nat) : List Int := grid (fun i j => un (g i j)) d (n * d)
theorem gridB_len (g : Rd.H) (d n : Nat) : (gridB g d n).length = n * d := grid_len _ _ _
theorem gridB_congr {g g' : Rd.H} {d n : Nat} (hd : 0 < d) (e : ∀ i j, i < n → j < d → g i j = g' i j) : gridB g d n = gridB g' d n := by
  refine grid_congr hd (fun a b hb hab => ?_)
  have ha : a < n := Nat.lt_of_not_le (fun hc => by
    have := Nat.mul_le_mul_right d hc
    omega)
  rw [e a b ha hb]
def sh (c : Nat) (h : Rd.H) : Rd.H := fun i j => h i (c + j)
/-- A matrix of bytes, told by its cells. -/
def cellH (l : List Int) (c : Nat) : Rd.H := fun i j => cell l (i * c + j)
/-- What MatrixInv answers. -/
def resInv (a b : Int) (l : List Int) : Int × Int × List Int × Int := if okM a b l = true ∧ a = b then (if (red a.toNat a.toNat 0 0 (h0_inv l a.toNat a.toNat)).2 < a.toNat then (0, 0, [], 8) else (a, a, gridB (sh a.toNat (red a.toNat a.toNat 0 0 (h0_inv l a.toNat a.toNat)).1) a.toNat a.toNat, 0)) else (0, 0, [], 1)
theorem impl_inv_ (a b : Int) (l : List Int) (hl : l.length ≤ 1000000000) (k : Nat) (hk : 1 ≤ k) : impl_MatrixInv.f k a b l = some (resInv a b l) := by
  unfold impl_MatrixInv.f resInv impl_MatrixRight.f ExtRight.mright
  obtain ⟨k, rfl⟩ : ∃ m, k = m + 1 := ⟨k - 1, by omega⟩
  rw [if_pos hl, Option.bind_some, ← okM_same a b l]
  by_cases h : okM a b l = true
  · rw [if_pos h, impl_MatrixInv.j0]
    by_cases hab : a = b
    · subst hab
      rw [if_neg (by simp), if_pos ⟨h, rfl⟩]
      unfold impl_Matrix_inverse.f
      rw [← okM_same a a l, if_pos ⟨h, rfl⟩, Option.bind_some]
      by_cases hr : (red a.toNat a.toNat 0 0 (h0_inv l a.toNat a.toNat)).2 < a.toNat
      · rw [if_pos hr, if_pos hr, if_neg (by simp)]
      · rw [if_neg hr, if_neg hr, if_pos rfl]
        rfl
    · rw [if_pos (by simpa using hab), if_neg (fun h => hab h.2)]
  · rw [if_neg h, if_neg (fun h' => h h'.1), impl_MatrixInv.j0, if_pos rfl]
/-- What MatrixRank answers. -/
def resRank (a b : Int) (l : List Int) : Int := if okM a b l = true then (((red a.toNat b.toNat 0 0 (cellH l b.toNat)).2 : Nat) : Int) else 0
theorem impl_rank (a b : Int) (l : List Int) (hl : l.length ≤ 1000000000) : impl_MatrixRank.f a b l = some (resRank a b l) := by
  unfold impl_MatrixRank.f resRank impl_MatrixRight.f ExtRight.mright
  rw [if_pos hl, Option.bind_some, ← okM_same a b l]
  by_cases h : okM a b l = true
  · rw [if_pos h, if_pos h]
    unfold impl_Matrix_reduced.f
    rw [← okM_same a b l, if_pos h, Option.bind_some]
    rfl
  · rw [if_neg h, if_neg h]
theorem okM_in {l : List Int} {r c : Nat} (r1 : 1 ≤ r) (r2 : r ≤ 16) (c1 : 1 ≤ c) (c2 : c ≤ 16) (hl : l.length = r * c) (hb : Bytes l) : okM (r : Int) (c : Int) l = true := by
  unfold okM
  rw [Bool.and_eq_true, decide_eq_true_iff, List.all_eq_true]
  refine ⟨⟨by omega, by omega, by omega, by omega, by rw [hl, Int.natCast_mul]⟩, fun x hx => ?_⟩
  unfold byteB
  rw [Bool.and_eq_true, decide_eq_true_iff, decide_eq_true_iff]
  exact hb x hx
theorem cell_grid (g : Rd.H) {n d i j : Nat} (hi : i < n) (hj : j < d) : cell (grid (fun i j => un (g i j)) d (n * d)) (i * d + j) = g i j := by
  have hst := step_le d hi
  unfold cell
  rw [List.getD_eq_getElem?_getD, grid_at _ hj (by omega), Option.getD_some]
  unfold un
  rw [Int.toNat_natCast]
  exact ofNat_un _
theorem u64_id (n : Int) (h0 : 0 ≤ n) (h1 : n < 4294967296) : IntKind.u64.wrap n = n := by
  simp [IntKind.wrap, IntKind.bits, IntKind.signed]
  omega
theorem u64_nn (n : Int) : 0 ≤ IntKind.u64.wrap n := by
  simp [IntKind.wrap, IntKind.bits, IntKind.signed]
  omega
theorem tmod_bd (x most : Int) (h0 : 0 ≤ x) (h1 : 1 < most) (h2 : most ≤ 1000) : 0 ≤ wrap64 (Int.tmod x most) ∧ wrap64 (Int.tmod x most) < most := by
  have a := Int.tmod_nonneg most h0
  have b := Int.tmod_lt_of_pos x (show 0 < most by omega)
  unfold wrap64
  omega
theorem n_ok (l : List Int) (hl : l.length ≤ 140737488351232) (at_ mix size most : Int) (h0 : 0 ≤ at_) (h1 : 1 ≤ most) (h2 : most ≤ 1000) :
    ∃ r at' mix' : Int, spec_l01Src_n.f l at_ mix size most = some (r, at', mix', size) ∧ 0 ≤ r ∧ r < most ∧ 0 ≤ at' := by
  unfold spec_l01Src_n.f
  by_cases h : most ≤ 1
  · rw [if_pos h]
    exact ⟨0, at_, mix, rfl, by omega, by omega, h0⟩
  · rw [if_neg h, u64_id most (by omega) (by omega)]
    by_cases hc : at_ < (l.length : Int)
    · rw [if_pos hc, if_pos h0, if_neg (by omega)]
      have b := tmod_bd _ most (u64_nn ((IntKind.u64.wrap (rd l at_)) + ((Go.bits .xor .u64 (Go.bits .xor .u64 (Go.bits .xor .u64 mix (IntKind.u64.wrap (mix * 8192))) ((Go.bits .xor .u64 mix (IntKind.u64.wrap (mix * 8192))) / 128)) (IntKind.u64.wrap ((Go.bits .xor .u64 (Go.bits .xor .u64 mix (IntKind.u64.wrap (mix * 8192))) ((Go.bits .xor .u64 mix (IntKind.u64.wrap (mix * 8192))) / 128)) * 131072))) / 1048576))) (by omega) h2
      exact ⟨_, _, _, rfl, b.1, b.2, by unfold wrap64; omega⟩
    · rw [if_neg hc, if_neg (by omega)]
      have b := tmod_bd _ most (u64_nn (0 + ((Go.bits .xor .u64 (Go.bits .xor .u64 (Go.bits .xor .u64 mix (IntKind.u64.wrap (mix * 8192))) ((Go.bits .xor .u64 mix (IntKind.u64.wrap (mix * 8192))) / 128)) (IntKind.u64.wrap ((Go.bits .xor .u64 (Go.bits .xor .u64 mix (IntKind.u64.wrap (mix * 8192))) ((Go.bits .xor .u64 mix (IntKind.u64.wrap (mix * 8192))) / 128)) * 131072))) / 1048576))) (by omega) h2
      exact ⟨_, _, _, rfl, b.1, b.2, h0⟩
theorem one_ok (l : List Int) (hl : l.length ≤ 140737488351232) (at_ mix size most : Int) (h0 : 0 ≤ at_) (h1 : 1 ≤ most) (h2 : most ≤ 1000) :
    ∃ (r : Bool) (at' mix' : Int), spec_l01Src_one.f l at_ mix size most = some (r, at', mix', size) ∧ 0 ≤ at' := by
  obtain ⟨r, a, m, e, _, _, ha⟩ := n_ok l hl at_ mix size most h0 h1 h2
  unfold spec_l01Src_one.f
  rw [e, Option.bind_some]
  exact ⟨_, a, m, rfl, ha⟩
theorem edge_ok (l : List Int) (hl : l.length ≤ 140737488351232) (at_ mix size : Int) (h0 : 0 ≤ at_) :
    ∃ r at' mix' : Int, spec_l01Src_edge.f l at_ mix size = some (r, at', mix', size) ∧ 0 ≤ at' := by
  obtain ⟨r, a, m, e, r0, r1, ha⟩ := n_ok l hl at_ mix size 14 h0 (by omega) (by omega)
  unfold spec_l01Src_edge.f
  rw [Option.bind_some, e, Option.bind_some, if_pos r0]
  exact ⟨_, a, m, if_pos (show r < 14 from r1), ha⟩
theorem source_l0 (l : List Int) (d : Nat) : ∀ (K i : Nat) (mix : Int), i + d = 64 → d + 1 ≤ K → ∃ mix' size : Int, spec_l01Source.l0 K l (i : Int) l 0 mix 0 = some (l, 0, mix', size) := by
  have fin : ∀ mix : Int, ∃ mix' size : Int, (if (wrap64 ((l.length : Int) / 20)) > 12 then (some (l, (0 : Int), mix, (12 : Int))) else (some (l, 0, mix, wrap64 ((l.length : Int) / 20)))) = some (l, 0, mix', size) := by
    intro mix
    split
    · exact ⟨mix, 12, rfl⟩
    · exact ⟨mix, _, rfl⟩
  induction d with
  | zero =>
    intro K i mix hi hK
    obtain ⟨K, rfl⟩ : ∃ m, K = m + 1 := ⟨K - 1, by omega⟩
    rw [spec_l01Source.l0, if_neg (show ¬ (i : Int) < 64 by omega)]
    by_cases h : (i : Int) < (l.length : Int)
    · rw [if_pos h]
      exact fin mix
    · rw [if_neg h]
      exact fin mix
  | succ d ih =>
    intro K i mix hi hK
    obtain ⟨K, rfl⟩ : ∃ m, K = m + 1 := ⟨K - 1, by omega⟩
    rw [spec_l01Source.l0, if_pos (show (i : Int) < 64 by omega), if_pos (show 0 ≤ (i : Int) by omega), w_succ i (by omega)]
    by_cases h : (i : Int) < (l.length : Int)
    · rw [if_pos h]
      exact ih K (i + 1) _ (by omega) (by omega)
    · rw [if_neg h]
      exact fin mix
theorem source_ok (l : List Int) (K : Nat) (hK : 100 ≤ K) : ∃ mix size : Int, spec_l01Source.f K l = some (l, 0, mix, size) := source_l0 l 64 K 0 _ (by omega) (by omega)
theorem n_nat (l : List Int) (hl : l.length ≤ 140737488351232) (at_ mix size most : Int) (h0 : 0 ≤ at_) (h1 : 1 ≤ most) (h2 : most ≤ 1000) :
    ∃ (r : Nat) (at' mix' : Int), spec_l01Src_n.f l at_ mix size most = some ((r : Int), at', mix', size) ∧ (r : Int) < most ∧ 0 ≤ at' := by
  obtain ⟨r, a, m, e, r0, r1, ha⟩ := n_ok l hl at_ mix size most h0 h1 h2
  obtain ⟨p, rfl⟩ := Int.eq_ofNat_of_zero_le r0
  exact ⟨p, a, m, e, r1, ha⟩
theorem matrix_l0 (l : List Int) (hl : l.length ≤ 140737488351232) (size x1 x2 : Int) (n : Nat) (hn : wrap64 (x1 * x2) = (n : Int)) (n1 : 1 ≤ n) (n2 : n ≤ 100) (p q : Int) (d : Nat) : ∀ (K i : Nat) (at_ mix : Int) (cs : List Int), i + d = n → cs.length = i → 0 ≤ at_ → d + 1 ≤ K →
    ∃ (r c : Int) (cs' : List Int) (at' mix' : Int), spec_l01Src_l03Matrix.l0 K x1 x2 (i : Int) l at_ mix size p q cs = some (r, c, cs', at', mix', size) ∧ 0 ≤ at' ∧ cs'.length ≤ n := by
  induction d with
  | zero =>
    intro K i at_ mix cs hi hc h0 hK
    obtain ⟨K, rfl⟩ : ∃ m, K = m + 1 := ⟨K - 1, by omega⟩
    rw [spec_l01Src_l03Matrix.l0, hn, if_neg (by omega)]
    obtain ⟨r1, a1, m1, e1, h1⟩ := one_ok l hl at_ mix size 15 h0 (by omega) (by omega)
    rw [e1, Option.bind_some]
    simp only []
    by_cases hr : r1 = true
    · rw [if_pos hr]
      obtain ⟨r2, a2, m2, e2, l2, h2⟩ := n_nat l hl a1 m1 size 4 h1 (by omega) (by omega)
      rw [e2, Option.bind_some]
      simp only []
      by_cases c0 : (r2 : Int) = 0
      · rw [if_pos c0]
        obtain ⟨r3, a3, m3, e3, h3⟩ := edge_ok l hl a2 m2 size h2
        rw [e3, Option.bind_some]
        simp only []
        rw [Option.bind_some]
        obtain ⟨r4, a4, m4, e4, l4, h4⟩ := n_nat l hl a3 m3 size 4 h3 (by omega) (by omega)
        rw [e4, Option.bind_some]
        simp only []
        rw [if_pos (by omega)]
        exact ⟨_, _, _, _, _, if_pos (show (r4 : Int) < 4 from l4), h4, by omega⟩
      · rw [if_neg c0]
        by_cases c1 : (r2 : Int) = 1
        · rw [if_pos c1]
          obtain ⟨r4, a4, m4, e4, l4, h4⟩ := n_nat l hl a2 m2 size 18 h2 (by omega) (by omega)
          rw [e4, Option.bind_some]
          exact ⟨_, _, _, _, _, rfl, h4, by omega⟩
        · rw [if_neg c1]
          by_cases c2 : (r2 : Int) = 2
          · rw [if_pos c2, Option.bind_some]
            obtain ⟨r4, a4, m4, e4, l4, h4⟩ := n_nat l hl a2 m2 size 2 h2 (by omega) (by omega)
            rw [e4, Option.bind_some]
            simp only []
            rw [if_pos (by omega)]
            exact ⟨_, _, _, _, _, (if_pos (show (r4 : Int) < 2 from l4)).trans (if_pos (by omega)), h4, by rw [List.length_set]; omega⟩
          · rw [if_neg c2, if_pos (by omega)]
            exact ⟨_, _, _, _, _, rfl, h2, by rw [List.length_drop]; omega⟩
    · rw [if_neg hr]
      exact ⟨_, _, _, _, _, rfl, h1, by omega⟩
  | succ d ih =>
    intro K i at_ mix cs hi hc h0 hK
    obtain ⟨K, rfl⟩ : ∃ m, K = m + 1 := ⟨K - 1, by omega⟩
    rw [spec_l01Src_l03Matrix.l0, hn, if_pos (by omega), w_succ i (by omega)]
    obtain ⟨r1, a1, m1, e1, l1, h1⟩ := n_nat l hl at_ mix size 256 h0 (by omega) (by omega)
    obtain ⟨r2, a2, m2, e2, h2⟩ := one_ok l hl a1 m1 size 3 h1 (by omega) (by omega)
    rw [e1, Option.bind_some]
    simp only []
    rw [e2, Option.bind_some]
    simp only []
    by_cases hr : r2 = true
    · obtain ⟨r3, a3, m3, e3, l3, h3⟩ := n_nat l hl a2 m2 size 2 h2 (by omega) (by omega)
      rw [if_pos hr, e3, Option.bind_some]
      simp only []
      rw [if_pos (by omega)]
      exact ih K (i + 1) a3 m3 _ (by omega) (by rw [List.length_append, hc]; rfl) h3 (by omega)
    · rw [if_neg hr, if_pos (by omega)]
      exact ih K (i + 1) a2 m2 _ (by omega) (by rw [List.length_append, hc]; rfl) h2 (by omega)
theorem matrix_ok (l : List Int) (hl : l.length ≤ 140737488351232) (at_ mix size : Int) (h0 : 0 ≤ at_) (p q : Nat) (p1 : 1 ≤ p) (p2 : p ≤ 10) (q1 : 1 ≤ q) (q2 : q ≤ 10) (K : Nat) (hK : 200 ≤ K) :
    ∃ (r c : Int) (cs : List Int) (at' mix' : Int), spec_l01Src_l03Matrix.f K l at_ mix size (p : Int) (q : Int) = some (r, c, cs, at', mix', size) ∧ 0 ≤ at' ∧ cs.length ≤ p * q := by
  have b1 : 1 * 1 ≤ p * q := Nat.mul_le_mul p1 q1
  have b2 : p * q ≤ 10 * 10 := Nat.mul_le_mul p2 q2
  unfold spec_l01Src_l03Matrix.f
  exact matrix_l0 l hl size (p : Int) (q : Int) (p * q) (w_mul p q (by omega)) (by omega) (by omega) _ _ (p * q) K 0 at_ mix [] (by omega) rfl h0 (by omega)
theorem w_one (r : Nat) (h : (r : Int) < 100) : wrap64 (1 + (r : Int)) = ((1 + r : Nat) : Int) := by unfold wrap64; omega
theorem draw_mul (l : List Int) (hl : l.length ≤ 140737488351232) (K : Nat) (hK : 300 ≤ K) : ∃ (a b : Int) (la : List Int) (a' b' : Int) (lb : List Int), spec_DrawMatrixMul.f K l = some (a, b, la, a', b', lb) ∧ la.length ≤ 100 ∧ lb.length ≤ 100 := by
  unfold spec_DrawMatrixMul.f
  obtain ⟨mix, size, e⟩ := source_ok l K (by omega)
  obtain ⟨r1, a1, m1, e1, l1, h1⟩ := n_nat l hl 0 mix size 4 (by omega) (by omega) (by omega)
  obtain ⟨r2, a2, m2, e2, l2, h2⟩ := n_nat l hl a1 m1 size 4 h1 (by omega) (by omega)
  obtain ⟨r3, a3, m3, e3, l3, h3⟩ := n_nat l hl a2 m2 size 4 h2 (by omega) (by omega)
  obtain ⟨x1, x2, x3, a4, m4, e4, h4, s4⟩ := matrix_ok l hl a3 m3 size h3 (1 + r1) (1 + r2) (by omega) (by omega) (by omega) (by omega) K (by omega)
  obtain ⟨r5, a5, m5, e5, h5⟩ := one_ok l hl a4 m4 size 15 h4 (by omega) (by omega)
  have b1 : (1 + r1) * (1 + r2) ≤ 10 * 10 := Nat.mul_le_mul (by omega) (by omega)
  rw [e, Option.bind_some]
  simp only []
  rw [e1, Option.bind_some]
  simp only []
  rw [e2, Option.bind_some]
  simp only []
  rw [e3, Option.bind_some]
  simp only []
  rw [w_one r1 (by omega), w_one r2 (by omega), w_one r3 (by omega), e4, Option.bind_some]
  simp only []
  rw [e5, Option.bind_some]
  simp only []
  by_cases hr : r5 = true
  · have b2 : (1 + r2 + 1) * (1 + r3) ≤ 10 * 10 := Nat.mul_le_mul (by omega) (by omega)
    obtain ⟨y1, y2, y3, a6, m6, e6, h6, s6⟩ := matrix_ok l hl a5 m5 size h5 (1 + r2 + 1) (1 + r3) (by omega) (by omega) (by omega) (by omega) K (by omega)
    rw [if_pos hr, w_succ (1 + r2) (by omega), e6, Option.bind_some]
    simp only []
    exact ⟨_, _, _, _, _, _, rfl, by omega, by omega⟩
  · have b2 : (1 + r2) * (1 + r3) ≤ 10 * 10 := Nat.mul_le_mul (by omega) (by omega)
    obtain ⟨y1, y2, y3, a6, m6, e6, h6, s6⟩ := matrix_ok l hl a5 m5 size h5 (1 + r2) (1 + r3) (by omega) (by omega) (by omega) (by omega) K (by omega)
    rw [if_neg hr, e6, Option.bind_some]
    simp only []
    exact ⟨_, _, _, _, _, _, rfl, by omega, by omega⟩
theorem dup_le (k : Nat) (l : List Int) : (Cp.dup k l).length ≤ 3 * l.length := by
  unfold Cp.dup
  simp only [List.length_append, List.length_take, List.length_drop]
  omega
theorem draw_inv (l : List Int) (hl : l.length ≤ 140737488351232) (K : Nat) (hK : 300 ≤ K) : ∃ (a b : Int) (la : List Int), spec_DrawMatrixInv.f K l = some (a, b, la) ∧ la.length ≤ 1000 := by
  unfold spec_DrawMatrixInv.f spec_l01Src_l03Square.f
  obtain ⟨mix, size, e⟩ := source_ok l K (by omega)
  obtain ⟨r1, a1, m1, e1, l1, h1⟩ := n_nat l hl 0 mix size 5 (by omega) (by omega) (by omega)
  obtain ⟨x1, x2, x3, a4, m4, e4, h4, s4⟩ := matrix_ok l hl a1 m1 size h1 (1 + r1) (1 + r1) (by omega) (by omega) (by omega) (by omega) K (by omega)
  obtain ⟨r5, a5, m5, e5, h5⟩ := one_ok l hl a4 m4 size 3 h4 (by omega) (by omega)
  have b1 : (1 + r1) * (1 + r1) ≤ 10 * 10 := Nat.mul_le_mul (by omega) (by omega)
  rw [e, Option.bind_some]
  simp only []
  rw [e1, Option.bind_some]
  simp only []
  rw [w_one r1 (by omega), e4, Option.bind_some]
  simp only []
  rw [e5, Option.bind_some]
  simp only []
  by_cases hr : r5 = true
  · rw [if_pos hr]
    by_cases g1 : ((1 + r1 : Nat) : Int) > 1
    · rw [if_pos g1]
      by_cases g2 : (x3.length : Int) = wrap64 (((1 + r1 : Nat) : Int) * ((1 + r1 : Nat) : Int))
      · rw [if_pos g2, if_pos (by omega), Option.bind_some]
        exact ⟨_, _, _, rfl, by have := dup_le ((1 + r1 : Nat) : Int).toNat x3; show (Cp.dup _ _).length ≤ 1000; omega⟩
      · rw [if_neg g2, Option.bind_some]
        exact ⟨_, _, _, rfl, by show x3.length ≤ 1000; omega⟩
    · rw [if_neg g1, Option.bind_some]
      exact ⟨_, _, _, rfl, by show x3.length ≤ 1000; omega⟩
  · rw [if_neg hr, Option.bind_some]
    exact ⟨_, _, _, rfl, by show x3.length ≤ 1000; omega⟩
theorem same_l0 (l : List Int) (a b : Int) (hl : l.length ≤ 1000000000) (d : Nat) : ∀ (K i : Nat), i + d = l.length → d + 1 ≤ K → laws_lwSame.l0 K (i : Int) a b l a b l = some true := by
  induction d with
  | zero =>
    intro K i hi hK
    obtain ⟨K, rfl⟩ : ∃ m, K = m + 1 := ⟨K - 1, by omega⟩
    rw [laws_lwSame.l0, if_neg (by omega)]
  | succ d ih =>
    intro K i hi hK
    obtain ⟨K, rfl⟩ : ∃ m, K = m + 1 := ⟨K - 1, by omega⟩
    rw [laws_lwSame.l0, if_pos (by omega), if_pos (by omega), if_pos (by omega), if_pos rfl, w_succ i (by omega)]
    exact ih K (i + 1) (by omega) (by omega)
theorem same_eq (a b : Int) (l : List Int) (hl : l.length ≤ 1000000000) (K : Nat) (hK : l.length + 2 ≤ K) : laws_lwSame.f K a b l a b l = some true := by
  unfold laws_lwSame.f
  obtain ⟨K, rfl⟩ : ∃ m, K = m + 1 := ⟨K - 1, by omega⟩
  rw [if_pos rfl, if_pos rfl, laws_lwSame.j0, if_neg (by simp)]
  exact same_l0 l a b hl l.length K 0 (by omega) (by omega)
theorem bytes_mul (la lb : List Int) (r c d : Nat) : Bytes (mulL la lb r c d) := grid_bytes (fun _ _ => un_bd _) _ _
theorem len_mul (la lb : List Int) (r c d : Nat) : (mulL la lb r c d).length = r * d := grid_len _ _ _
theorem cell_mul (la lb : List Int) {r c d i j : Nat} (hi : i < r) (hj : j < d) : cell (mulL la lb r c d) (i * d + j) = dot la lb c d i j c := cell_grid (fun i j => dot la lb c d i j c) hi hj
theorem in_rows {c r a b : Nat} (h : a * c + b < r * c) : a < r := Nat.lt_of_not_le (fun hc => by
  have := Nat.mul_le_mul_right c hc
  omega)
theorem mul_assoc_eq (la lb : List Int) {r c d : Nat} (c1 : 1 ≤ c) : mulL (mulL la lb r c d) lb r d c = mulL la (mulL lb lb c d c) r c c := by
  refine grid_congr (by omega) (fun i j hj hij => congrArg un ?_)
  have hi := in_rows hij
  have h1 : dot (mulL la lb r c d) lb d c i j d = S (fun k => Gf.mul (S (fun q => Gf.mul (cell la (i * c + q)) (cell lb (q * d + k))) c) (cell lb (k * c + j))) d := Ck.S_congr fun k hk => by rw [cell_mul la lb hi hk]; rfl
  have h2 : dot la (mulL lb lb c d c) c c i j c = S (fun q => Gf.mul (cell la (i * c + q)) (S (fun k => Gf.mul (cell lb (q * d + k)) (cell lb (k * c + j))) d)) c := Ck.S_congr fun q hq => by rw [cell_mul lb lb hq hj]; rfl
  rw [h1, h2]
  exact Mt.assoc_sum (fun i q => cell la (i * c + q)) (fun q k => cell lb (q * d + k)) (fun k j => cell lb (k * c + j)) c d i j
theorem unit_l0 (n : Nat) (n1 : 1 ≤ n) (n2 : n ≤ 16) (d : Nat) : ∀ (K t : Nat), t + d = n * n → d + 1 ≤ K → laws_lwUnit.l0 K (t : Int) (n : Int) (n : Int) (grid (fun i j => if i = j then 1 else 0) n (n * n)) = some true := by
  have hnn := side_le n2 n2
  induction d with
  | zero =>
    intro K t ht hK
    obtain ⟨K, rfl⟩ : ∃ m, K = m + 1 := ⟨K - 1, by omega⟩
    rw [laws_lwUnit.l0, grid_len, if_neg (by omega)]
    simp
  | succ d ih =>
    intro K t ht hK
    obtain ⟨K, rfl⟩ : ∃ m, K = m + 1 := ⟨K - 1, by omega⟩
    have hr : rd (grid (fun i j => if i = j then 1 else 0) n (n * n)) (t : Int) = if t / n = t % n then 1 else 0 := by
      unfold rd
      rw [Int.toNat_natCast, List.getD_eq_getElem?_getD, grid_get _ (show t < n * n by omega), Option.getD_some]
    have hq : t / n ≤ t := Nat.div_le_self t n
    rw [laws_lwUnit.l0, grid_len, if_pos (by omega), if_neg (by omega), ← Int.ofNat_tdiv, w_nat (t / n) (by omega), ← Int.ofNat_tmod, hr, w_succ t (by omega)]
    by_cases e : t / n = t % n
    · rw [if_pos (by omega), if_pos (by omega), if_pos e, if_pos rfl]
      exact ih K (t + 1) (by omega) (by omega)
    · rw [if_neg (by omega), if_pos (by omega), if_neg e, if_pos rfl]
      exact ih K (t + 1) (by omega) (by omega)
theorem unit_ok (n : Nat) (n1 : 1 ≤ n) (n2 : n ≤ 16) (l : List Int) (hl : l = grid (fun i j => if i = j then 1 else 0) n (n * n)) (K : Nat) (hK : 300 ≤ K) : laws_lwUnit.f K (n : Int) (n : Int) l = some true := by
  have hnn := side_le n2 n2
  unfold laws_lwUnit.f
  rw [hl]
  exact unit_l0 n n1 n2 (n * n) K 0 (by omega) (by omega)
theorem un_if (c : Prop) [Decidable c] : un (if c then 1#8 else 0#8) = if c then 1 else 0 := by split <;> rfl
theorem beside (l : List Int) (n : Nat) : Mt.Beside n (cellH l n) (h0_inv l n n) := fun i hi => ⟨fun j hj => by
    unfold h0_inv
    rw [if_pos hj]
    rfl, fun j hj => by
    unfold h0_inv
    rw [if_neg (by omega), Nat.add_sub_cancel_left]⟩
theorem left_unit {l : List Int} {n : Nat} (n1 : 1 ≤ n) (hr : (red n n 0 0 (h0_inv l n n)).2 = n) : mulL (gridB (sh n (red n n 0 0 (h0_inv l n n)).1) n n) l n n n = grid (fun i j => if i = j then 1 else 0) n (n * n) := by
  have hu := Mt.red_unit n n 0 (h0_inv l n n) (by omega) (fun i j _ hj => by omega) hr
  refine grid_congr (by omega) (fun i j hj hij => ?_)
  have hi := in_rows hij
  have h1 : dot (gridB (sh n (red n n 0 0 (h0_inv l n n)).1) n n) l n n i j n = S (fun k => Gf.mul ((red n n 0 0 (h0_inv l n n)).1 i (n + k)) (cellH l n k j)) n := Ck.S_congr fun k hk => by
    rw [show cell (gridB (sh n (red n n 0 0 (h0_inv l n n)).1) n n) (i * n + k) = sh n (red n n 0 0 (h0_inv l n n)).1 i k from cell_grid _ hi hk]
    rfl
  rw [h1, Mt.inv_left (beside l n) hu hi hj]
  exact un_if _
theorem right_unit {l : List Int} {n : Nat} (n1 : 1 ≤ n) (hr : (red n n 0 0 (h0_inv l n n)).2 = n) : mulL l (gridB (sh n (red n n 0 0 (h0_inv l n n)).1) n n) n n n = grid (fun i j => if i = j then 1 else 0) n (n * n) := by
  have hu := Mt.red_unit n n 0 (h0_inv l n n) (by omega) (fun i j _ hj => by omega) hr
  refine grid_congr (by omega) (fun i j hj hij => ?_)
  have hi := in_rows hij
  have h1 : dot l (gridB (sh n (red n n 0 0 (h0_inv l n n)).1) n n) n n i j n = S (fun k => Gf.mul (cellH l n i k) ((red n n 0 0 (h0_inv l n n)).1 k (n + j))) n := Ck.S_congr fun k hk => by
    rw [show cell (gridB (sh n (red n n 0 0 (h0_inv l n n)).1) n n) (k * n + j) = sh n (red n n 0 0 (h0_inv l n n)).1 k j from cell_grid _ hk hj]
    rfl
  rw [h1, Mt.inv_right (beside l n) hu hi hj]
  exact un_if _
theorem j2_true (a b : Int) (l : List Int) (hl : l.length ≤ 1000) (K : Nat) (hK : 10000 ≤ K) : laws_FnMatrix.j2 K a b l = some true := by
  obtain ⟨K, rfl⟩ : ∃ m, K = m + 2 := ⟨K - 2, by omega⟩
  rw [laws_FnMatrix.j2, spec_right a b l (by omega) (K + 1) (by omega), Option.bind_some]
  have no : ¬ (okM a b l = true ∧ a = b) → laws_FnMatrix.j3 (K + 1) true a b l = some true := fun h => by
    rw [laws_FnMatrix.j3, if_pos rfl, impl_inv_ a b l (by omega) K (by omega), Option.bind_some]
    unfold resInv
    rw [if_neg h]
    rfl
  by_cases h : okM a b l = true
  · rw [if_pos h]
    by_cases hab : a = b
    · subst hab
      have hf : (a != a) = false := by simp
      rw [hf, laws_FnMatrix.j3, if_neg (by simp), impl_inv_ a a l (by omega) K (by omega), Option.bind_some, impl_rank a a l (by omega), Option.bind_some]
      unfold resInv resRank
      rw [if_pos (show okM a a l = true ∧ a = a from ⟨h, rfl⟩), if_pos (show okM a a l = true from h)]
      obtain ⟨n, n', rfl, hn', n1, n2, _, _, e, hb⟩ := okM_out h
      obtain rfl : n = n' := by omega
      rw [Int.toNat_natCast]
      have hal : (red n n 0 0 (h0_inv l n n)).2 = (red n n 0 0 (cellH l n)).2 := (red_cols (n := n) (c := n) n 0 0 (h0_inv l n n) (cellH l n) (fun i j hi hj => (beside l n i hi).1 j hj) (by omega) (by omega)).2
      rw [← hal]
      have hle := Mt.red_bd n n 0 0 (h0_inv l n n)
      by_cases hr : (red n n 0 0 (h0_inv l n n)).2 < n
      · rw [if_pos hr, if_neg (by omega)]
        rfl
      · have hr2 : (red n n 0 0 (h0_inv l n n)).2 = n := by omega
        have hg : (gridB (sh n (red n n 0 0 (h0_inv l n n)).1) n n).length = n * n := gridB_len _ _ _
        have hnn := side_le n2 n2
        have hgok : okM (n : Int) (n : Int) (gridB (sh n (red n n 0 0 (h0_inv l n n)).1) n n) = true := okM_in n1 n2 n1 n2 hg (grid_bytes (fun _ _ => un_bd _) _ _)
        have R := right_unit (l := l) n1 hr2
        have L := left_unit (l := l) n1 hr2
        rw [if_neg hr, if_pos (by omega)]
        simp only [if_true]
        revert hg hgok R L
        generalize gridB (sh n (red n n 0 0 (h0_inv l n n)).1) n n = g
        intro hg hgok R L
        rw [impl_mul' (n : Int) (n : Int) l (n : Int) (n : Int) g (by omega) (by omega) K (by omega), Option.bind_some]
        have e1 : resMul (n : Int) (n : Int) l (n : Int) (n : Int) g = ((n : Int), (n : Int), mulL l g n n n, 0) := by
          unfold resMul
          rw [if_pos ⟨h, hgok, rfl⟩]
          rfl
        have e2 : resMul (n : Int) (n : Int) g (n : Int) (n : Int) l = ((n : Int), (n : Int), mulL g l n n n, 0) := by
          unfold resMul
          rw [if_pos ⟨hgok, h, rfl⟩]
          rfl
        rw [e1]
        simp only []
        rw [unit_ok n n1 n2 _ R K (by omega), Option.bind_some, if_pos rfl, impl_mul' (n : Int) (n : Int) g (n : Int) (n : Int) l (by omega) (by omega) K (by omega), Option.bind_some, e2]
        simp only []
        rw [unit_ok n n1 n2 _ L K (by omega), Option.bind_some]
    · have hf : (a != b) = true := by simpa using hab
      rw [hf]
      exact no (fun h' => hab h'.2)
  · rw [if_neg h]
    exact no (fun h' => h h'.1)
theorem j1_true (a b : Int) (la : List Int) (a' b' : Int) (lb : List Int) (hla : la.length ≤ 1000) (hlb : lb.length ≤ 1000) (x y : Int) (m : List Int) (hm : m.length ≤ 1000) (K : Nat) (hK : 20000 ≤ K) (R : Int × Int × List Int × Int) (hR : resMul a b la a' b' lb = R) :
    laws_FnMatrix.j1 K (!true) a b la a' b' lb x y m R.1 R.2.1 R.2.2.1 R.2.2.2 = some true := by
  obtain ⟨K, rfl⟩ : ∃ m, K = m + 1 := ⟨K - 1, by omega⟩
  have hj := j2_true x y m hm K (by omega)
  rw [laws_FnMatrix.j1, if_neg (by simp)]
  subst hR
  unfold resMul
  by_cases h : okM a b la = true ∧ okM a' b' lb = true ∧ b = a'
  · rw [if_pos h]
    obtain ⟨h1, h2, h3⟩ := h
    subst h3
    obtain ⟨r, c, rfl, rfl, r1, r2, c1, c2, e1, by1⟩ := okM_out h1
    obtain ⟨c', d, hc', rfl, c1', c2', d1, d2, e2, by2⟩ := okM_out h2
    obtain rfl : c = c' := by omega
    have hrd := side_le r2 d2
    have hcc := side_le c2 c2
    have hrc := side_le r2 c2
    have hb : okM (d : Int) (c : Int) lb = true := okM_in d1 d2 c1 c2 (by rw [e2, Nat.mul_comm]) by2
    have hab : okM (r : Int) (d : Int) (mulL la lb r c d) = true := okM_in r1 r2 d1 d2 (len_mul _ _ _ _ _) (bytes_mul _ _ _ _ _)
    have hbb : okM (c : Int) (c : Int) (mulL lb lb c d c) = true := okM_in c1 c2 c1 c2 (len_mul _ _ _ _ _) (bytes_mul _ _ _ _ _)
    have l1 := len_mul la lb r c d
    have l2 := len_mul lb lb c d c
    have l3 := len_mul la (mulL lb lb c d c) r c c
    have A := mul_assoc_eq la lb (r := r) (d := d) c1
    have q1 : resMul (r : Int) (d : Int) (mulL la lb r c d) (d : Int) (c : Int) lb = ((r : Int), (c : Int), mulL (mulL la lb r c d) lb r d c, 0) := by
      unfold resMul
      rw [if_pos ⟨hab, hb, rfl⟩]
      rfl
    have q2 : resMul (c : Int) (d : Int) lb (d : Int) (c : Int) lb = ((c : Int), (c : Int), mulL lb lb c d c, 0) := by
      unfold resMul
      rw [if_pos ⟨h2, hb, rfl⟩]
      rfl
    have q3 : resMul (r : Int) (c : Int) la (c : Int) (c : Int) (mulL lb lb c d c) = ((r : Int), (c : Int), mulL la (mulL lb lb c d c) r c c, 0) := by
      unfold resMul
      rw [if_pos ⟨h1, hbb, rfl⟩]
      rfl
    simp only [Int.toNat_natCast]
    rw [if_pos (by first | rfl | exact True.intro), impl_mul' (r : Int) (d : Int) (mulL la lb r c d) (d : Int) (c : Int) lb (by omega) (by omega) K (by omega), Option.bind_some, q1, impl_mul' (c : Int) (d : Int) lb (d : Int) (c : Int) lb (by omega) (by omega) K (by omega), Option.bind_some, q2]
    simp only []
    rw [impl_mul' (r : Int) (c : Int) la (c : Int) (c : Int) (mulL lb lb c d c) (by omega) (by omega) K (by omega), Option.bind_some, q3]
    simp only []
    rw [if_pos (by first | rfl | exact True.intro), A, same_eq _ _ _ (by omega) K (by omega), Option.bind_some, if_pos rfl]
    exact hj
  · rw [if_neg h]
    simp only []
    rw [if_neg (by omega)]
    exact hj
end FnMatrix_
open FnMatrix_
theorem FnMatrix : laws_FnMatrix.Pure := by
  intro x y _ hx _ _ hy _
  suffices main : ∀ K : Nat, 40000 ≤ K → laws_FnMatrix.f K x y = some true from ⟨_, main 40000 (by omega)⟩
  intro K hK
  obtain ⟨K, rfl⟩ : ∃ m, K = m + 1 := ⟨K - 1, by omega⟩
  unfold laws_FnMatrix.f
  have hj : laws_FnMatrix.j0 (K + 1) x y false = some true := by
    obtain ⟨a, b, la, a', b', lb, e1, s1, s2⟩ := draw_mul x (by omega) K (by omega)
    obtain ⟨p, q, m, e2, s3⟩ := draw_inv y (by omega) K (by omega)
    rw [laws_FnMatrix.j0, if_neg (by simp), e1, Option.bind_some]
    simp only []
    rw [e2, Option.bind_some]
    simp only []
    rw [impl_mul' a b la a' b' lb (by omega) (by omega) K (by omega), Option.bind_some, spec_mul a b la a' b' lb (by omega) (by omega) K (by omega), Option.bind_some, if_pos rfl]
    have hRl := res_len a b la a' b' lb
    have h1 := j1_true a b la a' b' lb (by omega) (by omega) p q m s3 K (by omega) (resMul a b la a' b' lb) rfl
    generalize resMul a b la a' b' lb = R at hRl h1
    rw [same_eq _ _ _ (by omega) K (by omega), Option.bind_some]
    exact h1
  by_cases h1 : (x.length : Int) > 1048576
  · rw [if_pos h1, laws_FnMatrix.j0, if_pos rfl]
  · rw [if_neg h1]
    by_cases h2 : (y.length : Int) > 1048576
    · rw [decide_eq_true h2, laws_FnMatrix.j0, if_pos rfl]
    · rw [decide_eq_false h2]
      exact hj
end Go.Proofs.Ytlololbhlnapkaa.Pure
