/- Plain functions of what the law reaches, proofs that the calls come to them, and the law's row: written by a program of this session (xprint.py) over the kit's print. No conditions beyond each lemma's own. -/
import Derived.Test.YtbbgahoeokffbaaDoorProg
import Derived.Below
import Derived.Deep.Draws
import Derived.Deep.AppendLies
import Derived.Maps.AppendAt
import Derived.OwnWalk
import Derived.Laws.BytesArg
import Derived.Laws.MakeOwn
import Derived.Laws.OwnMore
import Derived.Deep.OwnRows
import Derived.Tactics
import Derived.Lib.ConvBytes
import Derived.Laws.Slices
import Derived.WalkKit
import Derived.KernelRfl
import Derived.RowKit3
import Derived.Deep.LoopGhost
import Derived.Deep.QuietTactic
import Derived.BigQuiet
import Derived.WideLaws
import Derived.Deep.DeepCutAuto
import Derived.Deep.CutBlock
import Derived.Deep.RegionHeld3
import Derived.Laws.Rows
import Derived.Lib.AppendStr
import Derived.ArgAppend
import Derived.Laws.IdiomCopy
import Derived.OrdersHeld
import Derived.Laws.BitsLemmas
import Derived.RowKit
import Derived.Test.YtbbgahoeokffbaaDoorKpWWords
import Derived.Test.YtbbgahoeokffbaaDoorKpWLast
import Derived.Test.YtbbgahoeokffbaaDoorKpWTab
import Derived.Test.YtbbgahoeokffbaaDoorKpWFour
import Derived.Test.YtbbgahoeokffbaaDoorKpWQPut
import Derived.Test.YtbbgahoeokffbaaDoorKpWApart
import Derived.Test.YtbbgahoeokffbaaDoorKpWArr
import Derived.Test.YtbbgahoeokffbaaDoorKpWZeros
import Derived.Test.YtbbgahoeokffbaaDoorKpWFoot
import Derived.Test.YtbbgahoeokffbaaDoorKpWKept
import Derived.Test.YtbbgahoeokffbaaDoorKpWShare
import Derived.Test.YtbbgahoeokffbaaDoorKpWN
import Derived.Test.YtbbgahoeokffbaaDoorKpWFootNe
import Derived.Test.YtbbgahoeokffbaaDoorKpWAt
import Derived.Test.YtbbgahoeokffbaaDoorKpWEqStruct
import Derived.Test.YtbbgahoeokffbaaDoorKpWRepsOne
import Derived.Test.YtbbgahoeokffbaaDoorKpWInv
import Derived.Test.YtbbgahoeokffbaaDoorKpWInvWords
import Derived.Test.YtbbgahoeokffbaaDoorKpWGuard
import Derived.Test.YtbbgahoeokffbaaDoorKpWNEv
import Derived.Test.YtbbgahoeokffbaaDoorKpWMore
import Derived.Test.YtbbgahoeokffbaaDoorKpSha4
namespace Go.Proofs.YtbbgahoeokffbaaDoor.XFnExactDigest
open Go.RowKit Go.Proofs.YtbbgahoeokffbaaDoorW.PrintWords Go.Proofs.YtbbgahoeokffbaaDoorW.PrintLast Go.Proofs.YtbbgahoeokffbaaDoorW.PrintMore
attribute [local go_sem] max2_int min2_int max_two min_two max_three min_three max_four min_four   -- for this text's walks alone
set_option linter.unusedVariables false
set_option linter.unusedSimpArgs false
def errW : Option Int → Value
  | none => .nilIface
  | some c => .iface 0 (.int .i64 c)
theorem errW_none : errW none = .nilIface := rfl
theorem errW_some (c : Int) : errW (some c) = .iface 0 (.int .i64 c) := rfl
theorem info2 : (Tryd.prog.info? 2).map (fun i => (i.zero, i.size, i.bytes)) = some (some (.int .i64 0), 1, 8) := by kernel_rfl
theorem info5 : (Tryd.prog.info? 5).map (fun i => (i.zero, i.size, i.bytes)) = some (some (.int .u8 0), 1, 1) := by kernel_rfl
theorem info65 : (Tryd.prog.info? 65).map (fun i => (i.zero, i.size, i.bytes)) = some (some (.int .u32 0), 1, 4) := by kernel_rfl
end Go.Proofs.YtbbgahoeokffbaaDoor.XFnExactDigest
