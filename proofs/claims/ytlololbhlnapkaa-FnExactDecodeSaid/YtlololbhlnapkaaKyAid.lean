/-
  Small facts on the model's whole numbers and bits, used by the plain laws of this seat. No conditions beyond each lemma's own.
-/
import Derived.Laws.BitsAllLaws
import Derived.Laws.BitsLemmas
import Derived.OpenShut
import Derived.RowKit
namespace Go.Proofs.Ytlololbhlnapkaa.Aid
open Go Go.RowKit
set_option linter.unusedVariables false
set_option linter.unusedSimpArgs false
end Go.Proofs.Ytlololbhlnapkaa.Aid
