/-
  The law FnExactMatrixRight, over plain values: program and reference give the same answer for every matrix. No conditions.
-/
import Derived.Test.YtlololbhlnapkaaKwAid
import Derived.Test.YtlololbhlnapkaaKwXFnExactMatrixRightx2
namespace Go.Proofs.Ytlololbhlnapkaa.Pure
open Go.RowKit Go.Proofs.Ytlololbhlnapkaa.XFnExactMatrixRight Go.Proofs.YtlololbhlnapkaaW.PrintWords Go.Proofs.YtlololbhlnapkaaW.PrintLast Go.Proofs.YtlololbhlnapkaaW.PrintMore
set_option linter.unusedVariables false
set_option linter.unusedSimpArgs false
namespace FnExactMatrixRight_
theorem rd_get (l : List Int) (i : Nat) (h : i < l.length) : rd l (i : Int) = l[i] := by
  unfold rd
  rw [Int.toNat_natCast, List.getD_eq_getElem?_getD, List.getElem?_eq_getElem h, Option.getD_some]
def byteB (x : Int) : Bool := decide (0 ≤ x) && decide (x ≤ 255)
theorem impl_bad (x : Int) : impl_MatrixRight_1.f x = some (!byteB x) := by
  unfold impl_MatrixRight_1.f impl_isByte.f impl_within.f byteB
  by_cases h : x ≥ 0
  · have h' : 0 ≤ x := h
    simp [h']
  · have h' : ¬ 0 ≤ x := h
    simp [h']
theorem index_l0 (l : List Int) (hl : l.length ≤ 1000000000) (d : Nat) : ∀ (k i : Nat), i + d = l.length → d + 1 ≤ k → ∃ r, slices_IndexFunc_int64_int64.l0 k l (l.length : Int) (i : Int) = some r ∧ decide (r ≥ 0) = !((l.drop i).all byteB) := by
  induction d with
  | zero =>
    intro k i hi hk
    obtain ⟨k, rfl⟩ : ∃ m, k = m + 1 := ⟨k - 1, by omega⟩
    refine ⟨-1, ?_, ?_⟩
    · rw [slices_IndexFunc_int64_int64.l0, if_neg (by omega)]
    · rw [List.drop_of_length_le (by omega)]
      rfl
  | succ d ih =>
    intro k i hi hk
    obtain ⟨k, rfl⟩ : ∃ m, k = m + 1 := ⟨k - 1, by omega⟩
    rw [slices_IndexFunc_int64_int64.l0, if_pos (by omega), if_pos (by omega), if_pos (by omega), rd_get l i (by omega), impl_bad]
    simp only [Option.bind_some]
    rw [show wrap64 ((i : Int) + 1) = ((i + 1 : Nat) : Int) by unfold wrap64; omega]
    rw [List.drop_eq_getElem_cons (show i < l.length by omega), List.all_cons]
    cases hb : byteB l[i] with
    | true =>
      obtain ⟨r, e, h⟩ := ih k (i + 1) (by omega) (by omega)
      refine ⟨r, ?_, ?_⟩
      · simpa using e
      · simpa using h
    | false =>
      refine ⟨i, ?_, ?_⟩
      · simp
      · simp
end FnExactMatrixRight_
open FnExactMatrixRight_
end Go.Proofs.Ytlololbhlnapkaa.Pure
