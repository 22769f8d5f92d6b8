/- Lemmas and walks that fnCauchy_holds stands on, written by programs (the print, and this session's own), kept to what is reached. No conditions beyond each lemma's own. -/
import Derived.Test.YtlololbhlnapkaaKfWWords
import Derived.Laws.StructEq
namespace Go.Proofs.YtlololbhlnapkaaW.PrintWords
open Go.RowKit
section
variable {P : Program} {d : Nat} {xs ys : Array Value} {f : Field} {fs : List Field} {a b : Value} {r s : Bool} {w : World}
end
end Go.Proofs.YtlololbhlnapkaaW.PrintWords
