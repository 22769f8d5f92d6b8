/- Plain functions of what the law reaches, proofs that the calls come to them, and the law's row: written by a program of this session (xprint.py) over the kit's print. No conditions beyond each lemma's own. -/
import Derived.Test.YtbbgahoeokffbaaDoorProg
import Derived.Below
import Derived.Deep.Draws
import Derived.Deep.AppendLies
import Derived.Maps.AppendAt
import Derived.OwnWalk
import Derived.Laws.BytesArg
import Derived.Laws.MakeOwn
import Derived.Laws.OwnMore
import Derived.Deep.OwnRows
import Derived.Tactics
import Derived.Lib.ConvBytes
import Derived.Laws.Slices
import Derived.WalkKit
import Derived.KernelRfl
import Derived.RowKit3
import Derived.Deep.LoopGhost
import Derived.Deep.QuietTactic
import Derived.BigQuiet
import Derived.WideLaws
import Derived.Deep.DeepCutAuto
import Derived.Deep.CutBlock
import Derived.Deep.RegionHeld3
import Derived.Laws.Rows
import Derived.Lib.AppendStr
import Derived.ArgAppend
import Derived.Laws.IdiomCopy
import Derived.OrdersHeld
import Derived.Laws.BitsLemmas
import Derived.RowKit
import Derived.Test.YtbbgahoeokffbaaDoorKgWWords
import Derived.Test.YtbbgahoeokffbaaDoorKgWLast
import Derived.Test.YtbbgahoeokffbaaDoorKgWTab
import Derived.Test.YtbbgahoeokffbaaDoorKgWFour
import Derived.Test.YtbbgahoeokffbaaDoorKgWQPut
import Derived.Test.YtbbgahoeokffbaaDoorKgWApart
import Derived.Test.YtbbgahoeokffbaaDoorKgWArr
import Derived.Test.YtbbgahoeokffbaaDoorKgWZeros
import Derived.Test.YtbbgahoeokffbaaDoorKgWFoot
import Derived.Test.YtbbgahoeokffbaaDoorKgWKept
import Derived.Test.YtbbgahoeokffbaaDoorKgWShare
import Derived.Test.YtbbgahoeokffbaaDoorKgWN
import Derived.Test.YtbbgahoeokffbaaDoorKgWFootNe
import Derived.Test.YtbbgahoeokffbaaDoorKgWAt
import Derived.Test.YtbbgahoeokffbaaDoorKgWEqStruct
import Derived.Test.YtbbgahoeokffbaaDoorKgWRepsOne
import Derived.Test.YtbbgahoeokffbaaDoorKgWInv
import Derived.Test.YtbbgahoeokffbaaDoorKgWInvWords
import Derived.Test.YtbbgahoeokffbaaDoorKgWGuard
import Derived.Test.YtbbgahoeokffbaaDoorKgWNEv
import Derived.Test.YtbbgahoeokffbaaDoorKgWMore
import Derived.Test.YtbbgahoeokffbaaDoorKgShaCon
namespace Go.Proofs.YtbbgahoeokffbaaDoor.XFnExactPackGet
open Go.RowKit Go.Proofs.YtbbgahoeokffbaaDoorW.PrintWords Go.Proofs.YtbbgahoeokffbaaDoorW.PrintLast Go.Proofs.YtbbgahoeokffbaaDoorW.PrintMore
attribute [local go_sem] max2_int min2_int max_two min_two max_three min_three max_four min_four   -- for this text's walks alone
set_option linter.unusedVariables false
set_option linter.unusedSimpArgs false
def errW : Option Int → Value
  | none => .nilIface
  | some c => .iface 0 (.int .i64 c)
theorem errW_none : errW none = .nilIface := rfl
theorem errW_some (c : Int) : errW (some c) = .iface 0 (.int .i64 c) := rfl
theorem info2 : (Tryd.prog.info? 2).map (fun i => (i.zero, i.size, i.bytes)) = some (some (.int .i64 0), 1, 8) := by kernel_rfl
theorem info5 : (Tryd.prog.info? 5).map (fun i => (i.zero, i.size, i.bytes)) = some (some (.int .u8 0), 1, 1) := by kernel_rfl
theorem info65 : (Tryd.prog.info? 65).map (fun i => (i.zero, i.size, i.bytes)) = some (some (.int .u32 0), 1, 4) := by kernel_rfl
end Go.Proofs.YtbbgahoeokffbaaDoor.XFnExactPackGet
