/-
  The law FnExactConstants, over plain values: each constant of the program is the document's. No conditions.
-/
import Derived.Test.YtinkkjmngnblmaaPFnExactConstantsx1
namespace Go.Proofs.Ytinkkjmngnblmaa.Pure
open Go.RowKit Go.Proofs.Ytinkkjmngnblmaa.PFnExactConstants Go.Proofs.YtinkkjmngnblmaaW.PrintWords Go.Proofs.YtinkkjmngnblmaaW.PrintLast

theorem FnExactConstants : laws_FnExactConstants.Pure := by
  rfl

end Go.Proofs.Ytinkkjmngnblmaa.Pure
