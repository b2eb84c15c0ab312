/- Laid by xprint.py, a program of this session, which runs the kit's print with contracts of its own. -/
import Derived.Test.YtimeknpdgloenaaProg
import Derived.Below
import Derived.Deep.Draws
import Derived.Deep.AppendLies
import Derived.Maps.AppendAt
import Derived.OwnWalk
import Derived.Laws.BytesArg
import Derived.Laws.MakeOwn
import Derived.Laws.OwnMore
import Derived.Deep.OwnRows
import Derived.Tactics
import Derived.Lib.ConvBytes
import Derived.Laws.Slices
import Derived.WalkKit
import Derived.KernelRfl
import Derived.RowKit3
import Derived.Deep.LoopGhost
import Derived.Deep.QuietTactic
import Derived.BigQuiet
import Derived.WideLaws
import Derived.Deep.DeepCutAuto
import Derived.Deep.CutBlock
import Derived.Deep.RegionHeld3
import Derived.Laws.Rows
import Derived.Lib.AppendStr
import Derived.ArgAppend
import Derived.Laws.IdiomCopy
import Derived.OrdersHeld
import Derived.Laws.BitsLemmas
import Derived.RowKit
import Derived.Test.YtimeknpdgloenaaMem
import Derived.Test.YtimeknpdgloenaaShelf
import Derived.WalkSpells
import Derived.Test.YtimeknpdgloenaaWWords
import Derived.Test.YtimeknpdgloenaaWLast
import Derived.Test.YtimeknpdgloenaaWTab
import Derived.Test.YtimeknpdgloenaaWFour
import Derived.Test.YtimeknpdgloenaaWQPut
import Derived.Test.YtimeknpdgloenaaWApart
import Derived.Test.YtimeknpdgloenaaWArr
import Derived.Test.YtimeknpdgloenaaWZeros
import Derived.Test.YtimeknpdgloenaaWFoot
import Derived.Test.YtimeknpdgloenaaWKept
import Derived.Test.YtimeknpdgloenaaWShare
import Derived.Test.YtimeknpdgloenaaWN
import Derived.Test.YtimeknpdgloenaaWFootNe
import Derived.Test.YtimeknpdgloenaaWAt
import Derived.Test.YtimeknpdgloenaaWEqStruct
import Derived.Test.YtimeknpdgloenaaWRepsOne
import Derived.Test.YtimeknpdgloenaaWInv
import Derived.Test.YtimeknpdgloenaaWInvWords
import Derived.Test.YtimeknpdgloenaaWGuard
import Derived.Test.YtimeknpdgloenaaWNEv
import Derived.Test.YtimeknpdgloenaaWMore
namespace Go.Proofs.Ytimeknpdgloenaa.XConfMore
open Go.RowKit Go.Proofs.YtimeknpdgloenaaW.PrintWords Go.Proofs.YtimeknpdgloenaaW.PrintLast Go.Proofs.YtimeknpdgloenaaW.PrintMore
attribute [local go_sem] max2_int min2_int max_two min_two max_three min_three max_four min_four   -- for this text's walks alone
set_option linter.unusedVariables false
set_option linter.unusedSimpArgs false



def errW : Option Int → Value
  | none => .nilIface
  | some c => .iface 0 (.int .i64 c)
theorem errW_none : errW none = .nilIface := rfl
theorem errW_some (c : Int) : errW (some c) = .iface 0 (.int .i64 c) := rfl

theorem info3 : (Try.prog.info? 3).map (fun i => (i.zero, i.size, i.bytes)) = some (some (.int .i64 0), 1, 8) := by kernel_rfl
-- the values' own types

end Go.Proofs.Ytimeknpdgloenaa.XConfMore
