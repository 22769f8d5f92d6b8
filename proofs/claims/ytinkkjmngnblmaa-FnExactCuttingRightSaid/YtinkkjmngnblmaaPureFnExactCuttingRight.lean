/-
  The law FnExactCuttingRight, over plain values: program and reference give the same answer. No conditions.
-/
import Derived.Test.YtinkkjmngnblmaaAid
import Derived.Test.YtinkkjmngnblmaaPFnExactCuttingRightx1
namespace Go.Proofs.Ytinkkjmngnblmaa.Pure
open Go.RowKit Go.Proofs.Ytinkkjmngnblmaa.PFnExactCuttingRight Go.Proofs.YtinkkjmngnblmaaW.PrintWords Go.Proofs.YtinkkjmngnblmaaW.PrintLast
set_option linter.unusedVariables false
set_option linter.unusedSimpArgs false

theorem FnExactCuttingRight (a b c : Int) (_ : (Lit.int .i64 a).wf = true) (_ : (Lit.int .i64 b).wf = true) (_ : (Lit.int .i64 c).wf = true) : laws_FnExactCuttingRight.f a b c = some true := by
  unfold laws_FnExactCuttingRight.f laws_toCutting.f spec_CuttingRight.f impl_CuttingRight.f impl_within.f
  by_cases h1 : a ≥ 16 <;> by_cases h2 : a ≤ 1000 <;> by_cases h3 : b ≥ 0 <;> by_cases h4 : b ≤ 12 <;> by_cases h5 : c ≥ a <;> by_cases h6 : c ≤ 2000 <;> simp [h1, h2, h3, h4, h5, h6]

end Go.Proofs.Ytinkkjmngnblmaa.Pure
