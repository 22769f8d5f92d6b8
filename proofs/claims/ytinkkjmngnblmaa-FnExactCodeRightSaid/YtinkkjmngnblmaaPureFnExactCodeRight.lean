/-
  The law FnExactCodeRight, over plain values: program and reference give the same answer. No conditions.
-/
import Derived.Test.YtinkkjmngnblmaaPFnExactCodeRightx1
namespace Go.Proofs.Ytinkkjmngnblmaa.Pure
open Go.RowKit Go.Proofs.Ytinkkjmngnblmaa.PFnExactCodeRight Go.Proofs.YtinkkjmngnblmaaW.PrintWords Go.Proofs.YtinkkjmngnblmaaW.PrintLast

theorem FnExactCodeRight : laws_FnExactCodeRight.Pure := by
  intro a b _ _
  unfold laws_FnExactCodeRight.f spec_CodeRight.f impl_CodeRight.f impl_within.f
  by_cases h1 : a ≥ 1 <;> by_cases h2 : a ≤ 8 <;> by_cases h3 : b ≥ 0 <;> by_cases h4 : b ≤ 6 <;> simp [h1, h2, h3, h4]

end Go.Proofs.Ytinkkjmngnblmaa.Pure
