/-
  strings.Repeat of the zero byte, off the shelf's contract; copy of a text onto a row of bytes of the call's own. Conditions: at most a thousand million bytes; the text is no longer than the row.
-/
import Derived.Test.YtlololbhlnapkaaKxMx2
import Derived.Test.YtlololbhlnapkaaKxShelf
import Derived.Lib.Repeat
import Derived.Lib.LazyBuf
import Derived.Laws.IdiomCopy
namespace Go.Proofs.Ytlololbhlnapkaa.Rp
open Go Go.RowKit Go.Proofs.YtlololbhlnapkaaW.PrintWords Go.Proofs.YtlololbhlnapkaaW.PrintLast Go.Proofs.YtlololbhlnapkaaW.PrintMore
set_option linter.unusedVariables false
set_option linter.unusedSimpArgs false
section
variable {P : Program} {ops : Array Oper} {rest : List Oper} {o : Oper} {a : Act} {Q : Exit → Act → World → Prop}
end
end Go.Proofs.Ytlololbhlnapkaa.Rp
