/-
  The law FnExactMatrixRight, over plain values: program and reference give the same answer for every matrix. No conditions.
-/
import Derived.Test.YtlololbhlnapkaaKyAid
import Derived.Test.YtlololbhlnapkaaKyXFnExactMatrixRightx2
namespace Go.Proofs.Ytlololbhlnapkaa.Pure
open Go.RowKit Go.Proofs.Ytlololbhlnapkaa.XFnExactMatrixRight Go.Proofs.YtlololbhlnapkaaW.PrintWords Go.Proofs.YtlololbhlnapkaaW.PrintLast Go.Proofs.YtlololbhlnapkaaW.PrintMore
set_option linter.unusedVariables false
set_option linter.unusedSimpArgs false
namespace FnExactMatrixRight_
theorem rd_get (l : List Int) (i : Nat) (h : i < l.length) : rd l (i : Int) = l[i] := by
  unfold rd
  rw [Int.toNat_natCast, List.getD_eq_getElem?_getD, List.getElem?_eq_getElem h, Option.getD_some]
def byteB (x : Int) : Bool := decide (0 ≤ x) && decide (x ≤ 255)
def okM (a b : Int) (l : List Int) : Bool := decide (1 ≤ a ∧ a ≤ 16 ∧ 1 ≤ b ∧ b ≤ 16 ∧ (l.length : Int) = a * b) && l.all byteB
theorem side_mul {a b : Int} (h1 : 1 ≤ a) (h2 : a ≤ 16) (h3 : 1 ≤ b) (h4 : b ≤ 16) : 1 ≤ a * b ∧ a * b ≤ 256 := by
  constructor
  · have := Int.mul_le_mul h1 h3 (by omega) (by omega)
    omega
  · have := Int.mul_le_mul h2 h4 (by omega) (by omega)
    omega
theorem spec_byte (x : Int) : spec_l02Byte.f x = some (byteB x) := by
  unfold spec_l02Byte.f byteB
  by_cases h : x ≥ 0
  · have h' : 0 ≤ x := h
    simp [h']
  · have h' : ¬ 0 ≤ x := h
    simp [h']
theorem spec_right_l0 (a b : Int) (l : List Int) (hl : l.length ≤ 1000000000) (d : Nat) : ∀ (k i : Nat), i + d = l.length → d + 1 ≤ k → spec_MatrixRight.l0 k (i : Int) a b l = some ((l.drop i).all byteB) := by
  induction d with
  | zero =>
    intro k i hi hk
    obtain ⟨k, rfl⟩ : ∃ m, k = m + 1 := ⟨k - 1, by omega⟩
    rw [spec_MatrixRight.l0, if_neg (by omega), List.drop_of_length_le (by omega)]
    rfl
  | succ d ih =>
    intro k i hi hk
    obtain ⟨k, rfl⟩ : ∃ m, k = m + 1 := ⟨k - 1, by omega⟩
    rw [spec_MatrixRight.l0, if_pos (by omega), if_pos (by omega), rd_get l i (by omega), spec_byte]
    simp only [Option.bind_some]
    rw [show wrap64 ((i : Int) + 1) = ((i + 1 : Nat) : Int) by unfold wrap64; omega, ih k (i + 1) (by omega) (by omega)]
    rw [List.drop_eq_getElem_cons (show i < l.length by omega), List.all_cons]
    cases byteB l[i] <;> simp
theorem spec_right (a b : Int) (l : List Int) (hl : l.length ≤ 1000000000) (k : Nat) (hk : l.length + 2 ≤ k) : spec_MatrixRight.f k a b l = some (okM a b l) := by
  obtain ⟨k, rfl⟩ : ∃ m, k = m + 1 := ⟨k - 1, by omega⟩
  unfold spec_MatrixRight.f okM
  simp only [spec_MatrixRight.j0]
  by_cases h1 : a < 1
  · rw [if_pos h1]
    simp
    omega
  rw [if_neg h1]
  by_cases h2 : a > 16
  · rw [if_pos h2]
    simp
    omega
  rw [if_neg h2]
  by_cases h3 : b < 1
  · rw [if_pos h3]
    simp
    omega
  rw [if_neg h3]
  by_cases h4 : b > 16
  · rw [if_pos h4]
    simp
    omega
  rw [if_neg h4]
  have hm := side_mul (a := a) (b := b) (by omega) (by omega) (by omega) (by omega)
  rw [show wrap64 (a * b) = a * b by unfold wrap64; omega]
  by_cases h5 : (l.length : Int) = a * b
  · have e : ((l.length : Int) != a * b) = false := by simp [h5]
    have h := spec_right_l0 a b l hl l.length k 0 (by omega) (by omega)
    rw [List.drop_zero] at h
    have h' : spec_MatrixRight.l0 k 0 a b l = some (l.all byteB) := h
    rw [e, if_neg (by simp), h', decide_eq_true (by omega)]
    rfl
  · have e : ((l.length : Int) != a * b) = true := by simp [h5]
    rw [e, if_pos rfl, decide_eq_false (by omega)]
    rfl
theorem impl_bad (x : Int) : impl_MatrixRight_1.f x = some (!byteB x) := by
  unfold impl_MatrixRight_1.f impl_isByte.f impl_within.f byteB
  by_cases h : x ≥ 0
  · have h' : 0 ≤ x := h
    simp [h']
  · have h' : ¬ 0 ≤ x := h
    simp [h']
theorem index_l0 (l : List Int) (hl : l.length ≤ 1000000000) (d : Nat) : ∀ (k i : Nat), i + d = l.length → d + 1 ≤ k → ∃ r, slices_IndexFunc_int64_int64.l0 k l (l.length : Int) (i : Int) = some r ∧ decide (r ≥ 0) = !((l.drop i).all byteB) := by
  induction d with
  | zero =>
    intro k i hi hk
    obtain ⟨k, rfl⟩ : ∃ m, k = m + 1 := ⟨k - 1, by omega⟩
    refine ⟨-1, ?_, ?_⟩
    · rw [slices_IndexFunc_int64_int64.l0, if_neg (by omega)]
    · rw [List.drop_of_length_le (by omega)]
      rfl
  | succ d ih =>
    intro k i hi hk
    obtain ⟨k, rfl⟩ : ∃ m, k = m + 1 := ⟨k - 1, by omega⟩
    rw [slices_IndexFunc_int64_int64.l0, if_pos (by omega), if_pos (by omega), if_pos (by omega), rd_get l i (by omega), impl_bad]
    simp only [Option.bind_some]
    rw [show wrap64 ((i : Int) + 1) = ((i + 1 : Nat) : Int) by unfold wrap64; omega]
    rw [List.drop_eq_getElem_cons (show i < l.length by omega), List.all_cons]
    cases hb : byteB l[i] with
    | true =>
      obtain ⟨r, e, h⟩ := ih k (i + 1) (by omega) (by omega)
      refine ⟨r, ?_, ?_⟩
      · simpa using e
      · simpa using h
    | false =>
      refine ⟨i, ?_, ?_⟩
      · simp
      · simp
end FnExactMatrixRight_
open FnExactMatrixRight_
end Go.Proofs.Ytlololbhlnapkaa.Pure
