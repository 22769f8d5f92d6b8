/-
  The contract of impl.MatrixRight in one plain word. No conditions beyond each lemma's own.
-/
import Derived.Test.YtlololbhlnapkaaKyPureFnExactMatrixRight
namespace Go.Proofs.Ytlololbhlnapkaa.ExtRight
open Go Go.RowKit Go.Proofs.YtlololbhlnapkaaW.PrintWords
end Go.Proofs.Ytlololbhlnapkaa.ExtRight
