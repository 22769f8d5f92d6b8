/- Lemmas and walks that fnExactHashMore_holds stands on, written by programs (the print, and this session's own), kept to what is reached. No conditions beyond each lemma's own. -/
import Derived.Test.YtbbgahoeokffbaaDoorKhWInv
import Derived.Test.YtbbgahoeokffbaaDoorKhWFootNe
namespace Go.Proofs.YtbbgahoeokffbaaDoorW.PrintWords
open Go.RowKit
end Go.Proofs.YtbbgahoeokffbaaDoorW.PrintWords
namespace Go.Proofs.YtbbgahoeokffbaaDoorW.PrintLast
section
variable {ops : Array Oper} {a : Act} {o og : Oper} {g : Nat} {t : Tmp} {u : Bool}
end
end Go.Proofs.YtbbgahoeokffbaaDoorW.PrintLast
