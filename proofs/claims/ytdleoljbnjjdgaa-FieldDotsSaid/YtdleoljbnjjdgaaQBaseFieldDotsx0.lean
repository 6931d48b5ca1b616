-- Printed by a program of this session (wrap.py) over the kit's print.py, with hand-proved contracts among its functions.
import Derived.Test.YtdleoljbnjjdgaaProg
import Derived.Below
import Derived.Deep.Draws
import Derived.Deep.AppendLies
import Derived.Maps.AppendAt
import Derived.OwnWalk
import Derived.Laws.BytesArg
import Derived.Laws.MakeOwn
import Derived.Laws.OwnMore
import Derived.Deep.OwnRows
import Derived.Tactics
import Derived.Lib.ConvBytes
import Derived.Laws.Slices
import Derived.WalkKit
import Derived.KernelRfl
import Derived.RowKit3
import Derived.Deep.LoopGhost
import Derived.Deep.QuietTactic
import Derived.BigQuiet
import Derived.WideLaws
import Derived.Deep.DeepCutAuto
import Derived.Deep.CutBlock
import Derived.Deep.RegionHeld3
import Derived.Laws.Rows
import Derived.Lib.AppendStr
import Derived.ArgAppend
import Derived.Laws.IdiomCopy
import Derived.OrdersHeld
import Derived.Laws.BitsLemmas
import Derived.RowKit
import Derived.Test.YtdleoljbnjjdgaaWWords
import Derived.Test.YtdleoljbnjjdgaaWLast
import Derived.Test.YtdleoljbnjjdgaaWTab
import Derived.Test.YtdleoljbnjjdgaaWFour
import Derived.Test.YtdleoljbnjjdgaaWQPut
import Derived.Test.YtdleoljbnjjdgaaWApart
import Derived.Test.YtdleoljbnjjdgaaWArr
import Derived.Test.YtdleoljbnjjdgaaWZeros
import Derived.Test.YtdleoljbnjjdgaaWFoot
import Derived.Test.YtdleoljbnjjdgaaWKept
import Derived.Test.YtdleoljbnjjdgaaWShare
import Derived.Test.YtdleoljbnjjdgaaWN
import Derived.Test.YtdleoljbnjjdgaaWFootNe
import Derived.Test.YtdleoljbnjjdgaaWAt
import Derived.Test.YtdleoljbnjjdgaaWEqStruct
import Derived.Test.YtdleoljbnjjdgaaWRepsOne
import Derived.Test.YtdleoljbnjjdgaaWInv
import Derived.Test.YtdleoljbnjjdgaaWInvWords
import Derived.Test.YtdleoljbnjjdgaaWGuard
import Derived.Test.YtdleoljbnjjdgaaWNEv
import Derived.Test.YtdleoljbnjjdgaaWMore
namespace Go.Proofs.Ytdleoljbnjjdgaa.QBaseFieldDots
open Go.RowKit Go.Proofs.YtdleoljbnjjdgaaW.PrintWords Go.Proofs.YtdleoljbnjjdgaaW.PrintLast Go.Proofs.YtdleoljbnjjdgaaW.PrintMore
attribute [local go_sem] max2_int min2_int max_two min_two max_three min_three max_four min_four   -- for this text's walks alone
set_option linter.unusedVariables false
set_option linter.unusedSimpArgs false



def errW : Option Int → Value
  | none => .nilIface
  | some c => .iface 0 (.int .i64 c)
theorem errW_none : errW none = .nilIface := rfl
theorem errW_some (c : Int) : errW (some c) = .iface 0 (.int .i64 c) := rfl

-- the values' own types

end Go.Proofs.Ytdleoljbnjjdgaa.QBaseFieldDots
