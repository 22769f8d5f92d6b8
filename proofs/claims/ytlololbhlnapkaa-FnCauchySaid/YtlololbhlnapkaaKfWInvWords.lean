/- Lemmas and walks that fnCauchy_holds stands on, written by programs (the print, and this session's own), kept to what is reached. No conditions beyond each lemma's own. -/
import Derived.Test.YtlololbhlnapkaaKfWInv
import Derived.Test.YtlololbhlnapkaaKfWFootNe
namespace Go.Proofs.YtlololbhlnapkaaW.PrintWords
open Go.RowKit
end Go.Proofs.YtlololbhlnapkaaW.PrintWords
namespace Go.Proofs.YtlololbhlnapkaaW.PrintLast
section
variable {ops : Array Oper} {a : Act} {o og : Oper} {g : Nat} {t : Tmp} {u : Bool}
end
end Go.Proofs.YtlololbhlnapkaaW.PrintLast
