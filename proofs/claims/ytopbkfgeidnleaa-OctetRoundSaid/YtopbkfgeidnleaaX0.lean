/- Walks of Go functions of this seat: each calls-theorem says that the Go function, called at values of its kinds, returns what the Lean function of its name tells, where that tells something; what was in memory stays. Written by our own program xprint.py. -/
import Derived.Test.YtopbkfgeidnleaaProg
import Derived.Below
import Derived.Deep.Draws
import Derived.Deep.AppendLies
import Derived.Maps.AppendAt
import Derived.OwnWalk
import Derived.Laws.BytesArg
import Derived.Laws.MakeOwn
import Derived.Laws.OwnMore
import Derived.Deep.OwnRows
import Derived.Tactics
import Derived.Lib.ConvBytes
import Derived.Laws.Slices
import Derived.WalkKit
import Derived.KernelRfl
import Derived.RowKit3
import Derived.Deep.LoopGhost
import Derived.Deep.QuietTactic
import Derived.BigQuiet
import Derived.WideLaws
import Derived.Deep.DeepCutAuto
import Derived.Deep.CutBlock
import Derived.Deep.RegionHeld3
import Derived.Laws.Rows
import Derived.Lib.AppendStr
import Derived.ArgAppend
import Derived.Laws.IdiomCopy
import Derived.OrdersHeld
import Derived.Laws.BitsLemmas
import Derived.RowKit
import Derived.Test.YtopbkfgeidnleaaWWords
import Derived.Test.YtopbkfgeidnleaaWLast
import Derived.Test.YtopbkfgeidnleaaWTab
import Derived.Test.YtopbkfgeidnleaaWFour
import Derived.Test.YtopbkfgeidnleaaWQPut
import Derived.Test.YtopbkfgeidnleaaWApart
import Derived.Test.YtopbkfgeidnleaaWArr
import Derived.Test.YtopbkfgeidnleaaWZeros
import Derived.Test.YtopbkfgeidnleaaWFoot
import Derived.Test.YtopbkfgeidnleaaWKept
import Derived.Test.YtopbkfgeidnleaaWShare
import Derived.Test.YtopbkfgeidnleaaWN
import Derived.Test.YtopbkfgeidnleaaWFootNe
import Derived.Test.YtopbkfgeidnleaaWAt
import Derived.Test.YtopbkfgeidnleaaWEqStruct
import Derived.Test.YtopbkfgeidnleaaWRepsOne
import Derived.Test.YtopbkfgeidnleaaWInv
import Derived.Test.YtopbkfgeidnleaaWInvWords
import Derived.Test.YtopbkfgeidnleaaWGuard
import Derived.Test.YtopbkfgeidnleaaWNEv
import Derived.Test.YtopbkfgeidnleaaWMore
import Derived.Test.YtopbkfgeidnleaaXW
import Derived.Test.YtopbkfgeidnleaaShelf
namespace Go.Proofs.Ytopbkfgeidnleaa.X
open Go.RowKit Go.Proofs.YtopbkfgeidnleaaW.PrintWords Go.Proofs.YtopbkfgeidnleaaW.PrintLast Go.Proofs.YtopbkfgeidnleaaW.PrintMore
attribute [local go_sem] max2_int min2_int max_two min_two max_three min_three max_four min_four   -- for this text's walks alone
set_option linter.unusedVariables false
set_option linter.unusedSimpArgs false



def errW : Option Int → Value
  | none => .nilIface
  | some c => .iface 0 (.int .i64 c)
theorem errW_none : errW none = .nilIface := rfl
theorem errW_some (c : Int) : errW (some c) = .iface 0 (.int .i64 c) := rfl

theorem info5 : (Try.prog.info? 5).map (fun i => (i.zero, i.size, i.bytes)) = some (some (.int .u8 0), 1, 1) := by kernel_rfl
-- the values' own types

end Go.Proofs.Ytopbkfgeidnleaa.X
