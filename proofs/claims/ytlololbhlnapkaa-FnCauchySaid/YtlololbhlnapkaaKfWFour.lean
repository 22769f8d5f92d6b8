/- Lemmas and walks that fnCauchy_holds stands on, written by programs (the print, and this session's own), kept to what is reached. No conditions beyond each lemma's own. -/
import Derived.Test.YtlololbhlnapkaaKfWTab
namespace Go.Proofs.YtlololbhlnapkaaW.PrintLast
section
variable {P : Program} {ops : Array Oper} {Q : Exit → Act → World → Prop} {md : Region.Mode} {S : World → Prop} {ds : List Nat} {T : Bool × List (List Nat × List Nat)}
end
end Go.Proofs.YtlololbhlnapkaaW.PrintLast
