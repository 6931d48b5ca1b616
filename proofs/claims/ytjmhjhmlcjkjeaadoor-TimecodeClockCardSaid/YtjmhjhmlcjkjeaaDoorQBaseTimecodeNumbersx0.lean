-- Printed by a program of this session (wrap.py) over the kit's print.py, with hand-proved contracts among its functions.
import Derived.Test.YtjmhjhmlcjkjeaaDoorProg
import Derived.Below
import Derived.Deep.Draws
import Derived.Deep.AppendLies
import Derived.Maps.AppendAt
import Derived.OwnWalk
import Derived.Laws.BytesArg
import Derived.Laws.MakeOwn
import Derived.Laws.OwnMore
import Derived.Deep.OwnRows
import Derived.Tactics
import Derived.Lib.ConvBytes
import Derived.Laws.Slices
import Derived.WalkKit
import Derived.KernelRfl
import Derived.RowKit3
import Derived.Deep.LoopGhost
import Derived.Deep.QuietTactic
import Derived.BigQuiet
import Derived.WideLaws
import Derived.Deep.DeepCutAuto
import Derived.Deep.CutBlock
import Derived.Deep.RegionHeld3
import Derived.Laws.Rows
import Derived.Lib.AppendStr
import Derived.ArgAppend
import Derived.Laws.IdiomCopy
import Derived.OrdersHeld
import Derived.Laws.BitsLemmas
import Derived.RowKit
import Derived.Test.YtjmhjhmlcjkjeaaDoorWWords
import Derived.Test.YtjmhjhmlcjkjeaaDoorWLast
import Derived.Test.YtjmhjhmlcjkjeaaDoorWTab
import Derived.Test.YtjmhjhmlcjkjeaaDoorWFour
import Derived.Test.YtjmhjhmlcjkjeaaDoorWQPut
import Derived.Test.YtjmhjhmlcjkjeaaDoorWApart
import Derived.Test.YtjmhjhmlcjkjeaaDoorWArr
import Derived.Test.YtjmhjhmlcjkjeaaDoorWZeros
import Derived.Test.YtjmhjhmlcjkjeaaDoorWFoot
import Derived.Test.YtjmhjhmlcjkjeaaDoorWKept
import Derived.Test.YtjmhjhmlcjkjeaaDoorWShare
import Derived.Test.YtjmhjhmlcjkjeaaDoorWN
import Derived.Test.YtjmhjhmlcjkjeaaDoorWFootNe
import Derived.Test.YtjmhjhmlcjkjeaaDoorWAt
import Derived.Test.YtjmhjhmlcjkjeaaDoorWEqStruct
import Derived.Test.YtjmhjhmlcjkjeaaDoorWRepsOne
import Derived.Test.YtjmhjhmlcjkjeaaDoorWInv
import Derived.Test.YtjmhjhmlcjkjeaaDoorWInvWords
import Derived.Test.YtjmhjhmlcjkjeaaDoorWGuard
import Derived.Test.YtjmhjhmlcjkjeaaDoorWNEv
import Derived.Test.YtjmhjhmlcjkjeaaDoorWMore
namespace Go.Proofs.YtjmhjhmlcjkjeaaDoor.QBaseTimecodeNumbers
open Go.RowKit Go.Proofs.YtjmhjhmlcjkjeaaDoorW.PrintWords Go.Proofs.YtjmhjhmlcjkjeaaDoorW.PrintLast Go.Proofs.YtjmhjhmlcjkjeaaDoorW.PrintMore
attribute [local go_sem] max2_int min2_int max_two min_two max_three min_three max_four min_four   -- for this text's walks alone
set_option linter.unusedVariables false
set_option linter.unusedSimpArgs false



def errW : Option Int → Value
  | none => .nilIface
  | some c => .iface 0 (.int .i64 c)
theorem errW_none : errW none = .nilIface := rfl
theorem errW_some (c : Int) : errW (some c) = .iface 0 (.int .i64 c) := rfl

theorem info5 : (Tryd.prog.info? 5).map (fun i => (i.zero, i.size, i.bytes)) = some (some (.int .u8 0), 1, 1) := by kernel_rfl
-- the values' own types

end Go.Proofs.YtjmhjhmlcjkjeaaDoor.QBaseTimecodeNumbers
