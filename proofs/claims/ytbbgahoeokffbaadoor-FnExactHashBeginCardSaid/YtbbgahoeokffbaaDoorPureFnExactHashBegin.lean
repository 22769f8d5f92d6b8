/- The plain law: what the walk of FnExactHashBegin computes is true: a reckoning. No conditions. -/
import Derived.Test.YtbbgahoeokffbaaDoorXFnExactHashBeginx1
namespace Go.Proofs.YtbbgahoeokffbaaDoor.Pure
open Go.RowKit Go.Proofs.YtbbgahoeokffbaaDoor.XFnExactHashBegin Go.Proofs.YtbbgahoeokffbaaDoorW.PrintWords Go.Proofs.YtbbgahoeokffbaaDoorW.PrintLast

/-- It is a reckoning. -/
theorem FnExactHashBegin : laws_FnExactHashBegin.Pure := ⟨20, by kernel_rfl⟩

end Go.Proofs.YtbbgahoeokffbaaDoor.Pure
