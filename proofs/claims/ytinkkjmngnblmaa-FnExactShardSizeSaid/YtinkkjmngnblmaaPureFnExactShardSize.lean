/-
  The law FnExactShardSize, over plain values: program and reference give the same answer. No conditions.
-/
import Derived.Test.YtinkkjmngnblmaaPFnExactShardSizex1
namespace Go.Proofs.Ytinkkjmngnblmaa.Pure
open Go.RowKit Go.Proofs.Ytinkkjmngnblmaa.PFnExactShardSize Go.Proofs.YtinkkjmngnblmaaW.PrintWords Go.Proofs.YtinkkjmngnblmaaW.PrintLast

theorem FnExactShardSize : laws_FnExactShardSize.Pure := by
  intro a b _ _
  unfold laws_FnExactShardSize.f spec_ShardSize.f impl_ShardSize.f spec_CodeRight.f spec_l04Size.f impl_within.f
  by_cases h1 : a ≥ 1
  · have h0 : ¬ a = 0 := by omega
    by_cases h2 : a ≤ 8 <;> by_cases h3 : b ≥ 0 <;> by_cases h4 : b ≤ 20000 <;> simp [h0, h1, h2, h3, h4]
  · simp [h1]

end Go.Proofs.Ytinkkjmngnblmaa.Pure
