/-
  Laws of the walk that this seat's functions want beside the print's words: a make with a capacity of its own. No conditions beyond each lemma's own.
-/
import Derived.Test.YtbbgahoeokffbaaDoorKpWWords
import Derived.Test.YtbbgahoeokffbaaDoorKpWLast
import Derived.Test.YtbbgahoeokffbaaDoorKpWMore
import Derived.Laws.MakeOwn
import Derived.ProofKit
import Derived.OpenShut
namespace Go.Proofs.YtbbgahoeokffbaaDoor.Ext
open Go Go.RowKit Go.Proofs.YtbbgahoeokffbaaDoorW.PrintWords
set_option linter.unusedVariables false
section
variable {P : Program} {ops : Array Oper} {rest : List Oper} {o : Oper} {a : Act} {Q : Exit → Act → World → Prop} {α : Type}
end
end Go.Proofs.YtbbgahoeokffbaaDoor.Ext
namespace Go.Proofs.YtbbgahoeokffbaaDoor.Ext
open Go Go.RowKit Go.Proofs.YtbbgahoeokffbaaDoorW.PrintWords Go.ChangeShapes
section
variable {H : Type} {enc : TypeId × Value → H} {P : Program} {w : World}
end
end Go.Proofs.YtbbgahoeokffbaaDoor.Ext
