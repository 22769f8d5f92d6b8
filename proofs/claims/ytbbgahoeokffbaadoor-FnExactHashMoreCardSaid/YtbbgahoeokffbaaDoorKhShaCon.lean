/-
  The contracts of the reference's digest in the program's own words. Conditions: those of each lemma.
-/
import Derived.Test.YtbbgahoeokffbaaDoorKhShaLaw
namespace Go.Proofs.YtbbgahoeokffbaaDoor.Sha
open Go Go.RowKit Go.Proofs.YtbbgahoeokffbaaDoorW.PrintWords Go.Proofs.YtbbgahoeokffbaaDoorW.PrintLast Go.Proofs.YtbbgahoeokffbaaDoorW.PrintMore Go.Proofs.YtbbgahoeokffbaaDoor.XFnExactDigest
set_option linter.unusedVariables false
set_option linter.unusedSimpArgs false
end Go.Proofs.YtbbgahoeokffbaaDoor.Sha
