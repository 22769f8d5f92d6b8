/- Lemmas and walks that fnExactMatrixMul_holds stands on, written by programs (the print, and this session's own), kept to what is reached. No conditions beyond each lemma's own. -/
import Derived.Test.YtlololbhlnapkaaKmWLast
import Derived.Test.YtlololbhlnapkaaKmWWords
namespace Go.Proofs.YtlololbhlnapkaaW.PrintLast
open Go.Proofs.YtlololbhlnapkaaW.PrintWords (Aside0)
section
variable {md : Region.Mode} {ops : Array Oper} {T : Bool × List (List Nat × List Nat)} {l l' li lj lk : Array Bool} {ds : List Nat} {i j k : Nat}
end
end Go.Proofs.YtlololbhlnapkaaW.PrintLast
