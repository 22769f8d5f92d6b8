/- Plain functions of what the law reaches, proofs that the calls come to them, and the law's row: written by a program of this session (xprint.py) over the kit's print. No conditions beyond each lemma's own. -/
import Derived.Test.YtinkkjmngnblmaaProg
import Derived.Below
import Derived.Deep.Draws
import Derived.Deep.AppendLies
import Derived.Maps.AppendAt
import Derived.OwnWalk
import Derived.Laws.BytesArg
import Derived.Laws.MakeOwn
import Derived.Laws.OwnMore
import Derived.Deep.OwnRows
import Derived.Tactics
import Derived.Lib.ConvBytes
import Derived.Laws.Slices
import Derived.WalkKit
import Derived.KernelRfl
import Derived.RowKit3
import Derived.Deep.LoopGhost
import Derived.Deep.QuietTactic
import Derived.BigQuiet
import Derived.WideLaws
import Derived.Deep.DeepCutAuto
import Derived.Deep.CutBlock
import Derived.Deep.RegionHeld3
import Derived.Laws.Rows
import Derived.Lib.AppendStr
import Derived.ArgAppend
import Derived.Laws.IdiomCopy
import Derived.OrdersHeld
import Derived.Laws.BitsLemmas
import Derived.RowKit
import Derived.Test.YtinkkjmngnblmaaWWords
import Derived.Test.YtinkkjmngnblmaaWLast
import Derived.Test.YtinkkjmngnblmaaWTab
import Derived.Test.YtinkkjmngnblmaaWFour
import Derived.Test.YtinkkjmngnblmaaWQPut
import Derived.Test.YtinkkjmngnblmaaWApart
import Derived.Test.YtinkkjmngnblmaaWArr
import Derived.Test.YtinkkjmngnblmaaWZeros
import Derived.Test.YtinkkjmngnblmaaWFoot
import Derived.Test.YtinkkjmngnblmaaWKept
import Derived.Test.YtinkkjmngnblmaaWShare
import Derived.Test.YtinkkjmngnblmaaWN
import Derived.Test.YtinkkjmngnblmaaWFootNe
import Derived.Test.YtinkkjmngnblmaaWAt
import Derived.Test.YtinkkjmngnblmaaWEqStruct
import Derived.Test.YtinkkjmngnblmaaWRepsOne
import Derived.Test.YtinkkjmngnblmaaWInv
import Derived.Test.YtinkkjmngnblmaaWInvWords
import Derived.Test.YtinkkjmngnblmaaWGuard
import Derived.Test.YtinkkjmngnblmaaWNEv
import Derived.Test.YtinkkjmngnblmaaWMore
import Derived.Test.YtinkkjmngnblmaaExtLaws
import Derived.Test.YtinkkjmngnblmaaShelf
namespace Go.Proofs.Ytinkkjmngnblmaa.XFnExactHexRead
open Go.RowKit Go.Proofs.YtinkkjmngnblmaaW.PrintWords Go.Proofs.YtinkkjmngnblmaaW.PrintLast Go.Proofs.YtinkkjmngnblmaaW.PrintMore
attribute [local go_sem] max2_int min2_int max_two min_two max_three min_three max_four min_four   -- for this text's walks alone
set_option linter.unusedVariables false
set_option linter.unusedSimpArgs false



def errW : Option Int → Value
  | none => .nilIface
  | some c => .iface 0 (.int .i64 c)
theorem errW_none : errW none = .nilIface := rfl
theorem errW_some (c : Int) : errW (some c) = .iface 0 (.int .i64 c) := rfl

theorem info5 : (Try.prog.info? 5).map (fun i => (i.zero, i.size, i.bytes)) = some (some (.int .u8 0), 1, 1) := by kernel_rfl
-- the values' own types

end Go.Proofs.Ytinkkjmngnblmaa.XFnExactHexRead
