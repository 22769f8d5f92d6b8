/-
  The field's bytes as the model's whole numbers: one step of a product. No conditions beyond each lemma's own.
-/
import Derived.Test.YtlololbhlnapkaaKpGf
import Derived.Test.YtlololbhlnapkaaKpAid
namespace Go.Proofs.Ytlololbhlnapkaa.FieldAid
open Go Go.RowKit Go.Proofs.Ytlololbhlnapkaa.Gf
set_option linter.unusedVariables false
set_option linter.unusedSimpArgs false
end Go.Proofs.Ytlololbhlnapkaa.FieldAid
