/- Lemmas and walks that fnExactMatrixMul_holds stands on, written by programs (the print, and this session's own), kept to what is reached. No conditions beyond each lemma's own. -/
import Derived.Test.YtlololbhlnapkaaKmWApart
import Derived.Test.YtlololbhlnapkaaKmWArr
namespace Go.Proofs.YtlololbhlnapkaaW.PrintWords
open Go.RowKit
section
variable {P : Program}
end
namespace Kd
section
variable {P : Program} {ops : Array Oper} {rest : List Oper} {o : Oper} {a : Act} {Q : Exit → Act → World → Prop} {Kc : Act → World → Prop} {α : Type}
end
section
variable {α : Type} {d : Kd α} {e : Nat} {w : World} {base : Nat} {ok : Nat → Prop} {v : Value} {xs : List α}
end
section
variable {P : Program} {ops : Array Oper} {rest : List Oper} {o : Oper} {a : Act} {Q : Exit → Act → World → Prop} {Kc : Act → World → Prop} {α : Type}
end
end Kd
end Go.Proofs.YtlololbhlnapkaaW.PrintWords
