/-
  strings.Repeat of the zero byte, off the shelf's contract; what impl.digest answers, without that premise. Conditions: a text of at most 2^40 bytes, the package's tables as the text lays them.
-/
import Derived.Test.YtbbgahoeokffbaaDoorKhSha3
import Derived.Test.YtbbgahoeokffbaaDoorKhShelf
import Derived.Lib.Repeat
namespace Go.Proofs.YtbbgahoeokffbaaDoor.Sha
open Go Go.RowKit Go.Proofs.YtbbgahoeokffbaaDoorW.PrintWords
set_option linter.unusedVariables false
set_option linter.unusedSimpArgs false
end Go.Proofs.YtbbgahoeokffbaaDoor.Sha
