/-
  The law FnExactBlobRight, over plain values: program and reference give the same answer. No conditions.
-/
import Derived.Test.YtinkkjmngnblmaaAid
import Derived.Test.YtinkkjmngnblmaaPFnExactBlobRightx1
namespace Go.Proofs.Ytinkkjmngnblmaa.Pure
open Go.RowKit Go.Proofs.Ytinkkjmngnblmaa.PFnExactBlobRight Go.Proofs.YtinkkjmngnblmaaW.PrintWords Go.Proofs.YtinkkjmngnblmaaW.PrintLast
set_option linter.unusedVariables false
set_option linter.unusedSimpArgs false

theorem FnExactBlobRight (a : Int) (s : ByteArray) (_ : (Lit.int .i64 a).wf = true) (hs : s.size ≤ maxLen) : laws_FnExactBlobRight.f a s = some true := by
  unfold maxLen at hs
  unfold laws_FnExactBlobRight.f laws_szBlob.f laws_toBlob.f spec_BlobRight.f impl_BlobRight.f impl_isKind.f
  rw [show wrap64 (1048576 - (s.size : Int)) = 1048576 - (s.size : Int) by unfold wrap64; omega]
  by_cases h0 : 1048576 - (s.size : Int) < 0
  · simp [h0]
  · by_cases h1 : a = 1
    · simp [h0, h1]
    · by_cases h2 : a = 2 <;> simp [h0, h1, h2]

end Go.Proofs.Ytinkkjmngnblmaa.Pure
