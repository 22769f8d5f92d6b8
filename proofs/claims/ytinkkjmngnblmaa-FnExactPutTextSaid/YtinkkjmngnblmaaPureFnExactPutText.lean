/-
  The law FnExactPutText, over plain values: program and reference give the same bytes of every text. No conditions.
-/
import Derived.Test.YtinkkjmngnblmaaAid
import Derived.Test.YtinkkjmngnblmaaPFnExactPutTextx1
namespace Go.Proofs.Ytinkkjmngnblmaa.Pure
open Go.RowKit Go.Proofs.Ytinkkjmngnblmaa.PFnExactPutText Go.Proofs.YtinkkjmngnblmaaW.PrintWords Go.Proofs.YtinkkjmngnblmaaW.PrintLast
set_option linter.unusedVariables false
set_option linter.unusedSimpArgs false

theorem fold_eq (a : Int) (h : -9223372036854775808 ≤ a ∧ a ≤ 9223372036854775807) :
    ∃ u, 0 ≤ u ∧ u < 18446744073709551616 ∧ spec_l01Fold.f a = some u ∧ Go.bits .xor .u64 (IntKind.u64.wrap ((IntKind.u64.wrap a) * 2)) (IntKind.u64.wrap (a / 9223372036854775808)) = u := by
  obtain ⟨h0, h1⟩ := h
  unfold spec_l01Fold.f
  by_cases hn : a < 0
  · refine ⟨-2 * a - 1, by omega, by omega, ?_, ?_⟩
    · rw [if_pos hn]
      simp only [IntKind.wrap_u64]
      unfold wrap64
      congr 1
      omega
    · rw [show IntKind.u64.wrap (a / 9223372036854775808) = 18446744073709551615 by rw [IntKind.wrap_u64]; omega]
      rw [Aid.u64_xor_ones _ (by rw [IntKind.wrap_u64]; omega) (by rw [IntKind.wrap_u64]; omega)]
      simp only [IntKind.wrap_u64]
      omega
  · refine ⟨2 * a, by omega, by omega, ?_, ?_⟩
    · rw [if_neg hn]
      simp only [IntKind.wrap_u64]
      congr 1
      omega
    · rw [show IntKind.u64.wrap (a / 9223372036854775808) = 0 by rw [IntKind.wrap_u64]; omega]
      rw [Aid.u64_xor_zero _ (by rw [IntKind.wrap_u64]; omega) (by rw [IntKind.wrap_u64]; omega)]
      simp only [IntKind.wrap_u64]
      omega
/-- The bytes of a number: both loops tell the same, and end. -/
theorem putnum_loop (k : Nat) : ∀ (u : Int) (xs : List Int), 0 ≤ u → u < 18446744073709551616 → u < 128 ^ (k + 1) → xs.length + k ≤ 100 →
    ∃ ys : List Int, ys.length ≤ xs.length + k + 1 ∧ spec_PutNum.l0 (k + 1) u xs = some (strOfNums ys) ∧ impl_PutNum.l0 (k + 1) u xs = some (strOfNums ys) := by
  induction k with
  | zero =>
    intro u xs h0 h1 h2 hx
    have hl : xs.length < 140737488355328 := by omega
    have hu : u < 128 := by simpa using h2
    simp only [spec_PutNum.l0, impl_PutNum.l0, hl, if_true]
    rw [if_neg (by omega), if_neg (by omega)]
    exact ⟨_, by simp, rfl, rfl⟩
  | succ k ih =>
    intro u xs h0 h1 h2 hx
    have hl : xs.length < 140737488355328 := by omega
    rw [spec_PutNum.l0, impl_PutNum.l0]
    simp only [hl, if_true]
    by_cases hu : u ≥ 128
    · have hp : u / 128 < 128 ^ (k + 1) := by
        rw [Int.pow_succ] at h2
        exact Int.ediv_lt_of_lt_mul (by omega) h2
      obtain ⟨ys, hl, e1, e2⟩ := ih (u / 128) (xs ++ [u % 128 + 128]) (by omega) (by omega) hp (by simp; omega)
      have a1 : IntKind.u64.wrap (Int.tdiv u 128) = u / 128 := by rw [Int.tdiv_eq_ediv_of_nonneg h0, IntKind.wrap_u64]; omega
      have a2 : IntKind.u64.wrap (Int.tmod u 128 + 128) % 256 = u % 128 + 128 := by rw [Int.tmod_eq_emod_of_nonneg h0, IntKind.wrap_u64]; omega
      have a3 : Go.bits .or .u8 ((Go.bits .and .u64 u 127) % 256) 128 = u % 128 + 128 := by rw [Aid.u64_low7 u h0 h1, Aid.u8_or_128 _ (by omega) (by omega)]; omega
      refine ⟨ys, by simp at hl; omega, ?_, ?_⟩
      · rw [if_pos hu, a1, a2]
        exact e1
      · rw [if_pos (show u > 127 by omega), a3]
        exact e2
    · rw [if_neg hu, if_neg (show ¬ u > 127 by omega)]
      exact ⟨_, by simp, rfl, rfl⟩
theorem putnum_eq (a : Int) (h : -9223372036854775808 ≤ a ∧ a ≤ 9223372036854775807) : ∃ ys : List Int, ys.length ≤ 10 ∧ spec_PutNum.f 10 a = some (strOfNums ys) ∧ impl_PutNum.f 10 a = some (strOfNums ys) := by
  obtain ⟨u, h0, h1, e1, e2⟩ := fold_eq a h
  obtain ⟨ys, hl, e3, e4⟩ := putnum_loop 9 u [] h0 h1 (by omega) (by simp)
  refine ⟨ys, by simpa using hl, ?_, ?_⟩
  · unfold spec_PutNum.f
    rw [e1]
    exact e3
  · unfold impl_PutNum.f
    rw [e2]
    exact e4

theorem FnExactPutText : laws_FnExactPutText.Pure := by
  intro s hs
  refine ⟨10, ?_⟩
  unfold laws_FnExactPutText.f
  by_cases hb : (s.size : Int) > 1048576
  · rw [if_pos hb]
  · rw [if_neg hb]
    obtain ⟨ys, hl, e1, e2⟩ := putnum_eq (s.size : Int) (by omega)
    have hz : (strOfNums ys).size = ys.length := by simp [strOfNums, ByteArray.size]
    unfold spec_PutText.f impl_PutText.f impl_putText.f impl_isLong.f impl_long.f
    simp only [Option.bind_some, e1, e2]
    rw [if_pos (show (strOfNums ys).size + s.size ≤ 9223372036854775807 by omega)]
    by_cases hm : (s.size : Int) > 20000
    · simp [hm]
    · simp [hm]

end Go.Proofs.Ytinkkjmngnblmaa.Pure
