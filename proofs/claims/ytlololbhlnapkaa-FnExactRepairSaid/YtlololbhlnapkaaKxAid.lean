/-
  Small facts on the model's whole numbers and bits, used by the plain laws of this seat. No conditions beyond each lemma's own.
-/
import Derived.Laws.BitsAllLaws
import Derived.Laws.BitsLemmas
import Derived.OpenShut
import Derived.RowKit
namespace Go.Proofs.Ytlololbhlnapkaa.Aid
open Go Go.RowKit
set_option linter.unusedVariables false
set_option linter.unusedSimpArgs false
theorem w64 {n : Int} (h0 : -9223372036854775808 ≤ n) (h1 : n ≤ 9223372036854775807) : wrap64 n = n := by unfold wrap64; omega
end Go.Proofs.Ytlololbhlnapkaa.Aid
