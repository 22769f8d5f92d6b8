/-
  Small facts on the model's whole numbers and bits, used by the plain laws of this seat. No conditions beyond each lemma's own.
-/
import Derived.Laws.BitsAllLaws
import Derived.Laws.BitsLemmas
import Derived.OpenShut
import Derived.RowKit
namespace Go.Proofs.Ytlololbhlnapkaa.Aid
open Go Go.RowKit
set_option linter.unusedVariables false
set_option linter.unusedSimpArgs false
theorem i64_bd {n : Int} (h : (Lit.int .i64 n).wf = true) : -9223372036854775808 ≤ n ∧ n ≤ 9223372036854775807 := by
  simp [Lit.wf, IntKind.min, IntKind.max, IntKind.signed, IntKind.bits] at h
  omega
end Go.Proofs.Ytlololbhlnapkaa.Aid
