/- Printed by the kit for this seat, cut by cutp.py: the reference functions of Heapmap as Lean functions, and that the code comes to them. -/
import Derived.Test.YtephgjjlbnminaaDoorProg
import Derived.Below
import Derived.Deep.Draws
import Derived.Deep.AppendLies
import Derived.Maps.AppendAt
import Derived.OwnWalk
import Derived.Laws.BytesArg
import Derived.Laws.MakeOwn
import Derived.Laws.OwnMore
import Derived.Deep.OwnRows
import Derived.Tactics
import Derived.Lib.ConvBytes
import Derived.Laws.Slices
import Derived.WalkKit
import Derived.KernelRfl
import Derived.RowKit3
import Derived.Deep.LoopGhost
import Derived.Deep.QuietTactic
import Derived.BigQuiet
import Derived.WideLaws
import Derived.Deep.DeepCutAuto
import Derived.Deep.CutBlock
import Derived.Deep.RegionHeld3
import Derived.Laws.Rows
import Derived.Lib.AppendStr
import Derived.ArgAppend
import Derived.Laws.IdiomCopy
import Derived.OrdersHeld
import Derived.Laws.BitsLemmas
import Derived.RowKit
import Derived.Test.YtephgjjlbnminaaDoorWWords
import Derived.Test.YtephgjjlbnminaaDoorWLast
import Derived.Test.YtephgjjlbnminaaDoorWTab
import Derived.Test.YtephgjjlbnminaaDoorWFour
import Derived.Test.YtephgjjlbnminaaDoorWQPut
import Derived.Test.YtephgjjlbnminaaDoorWApart
import Derived.Test.YtephgjjlbnminaaDoorWArr
import Derived.Test.YtephgjjlbnminaaDoorWZeros
import Derived.Test.YtephgjjlbnminaaDoorWFoot
import Derived.Test.YtephgjjlbnminaaDoorWKept
import Derived.Test.YtephgjjlbnminaaDoorWShare
import Derived.Test.YtephgjjlbnminaaDoorWN
import Derived.Test.YtephgjjlbnminaaDoorWFootNe
import Derived.Test.YtephgjjlbnminaaDoorWAt
import Derived.Test.YtephgjjlbnminaaDoorWEqStruct
import Derived.Test.YtephgjjlbnminaaDoorWRepsOne
import Derived.Test.YtephgjjlbnminaaDoorWInv
import Derived.Test.YtephgjjlbnminaaDoorWInvWords
import Derived.Test.YtephgjjlbnminaaDoorWGuard
import Derived.Test.YtephgjjlbnminaaDoorWNEv
import Derived.Test.YtephgjjlbnminaaDoorWMore
namespace Go.Proofs.YtephgjjlbnminaaDoor.PH
open Go.RowKit Go.Proofs.YtephgjjlbnminaaDoorW.PrintWords Go.Proofs.YtephgjjlbnminaaDoorW.PrintLast Go.Proofs.YtephgjjlbnminaaDoorW.PrintMore
attribute [local go_sem] max2_int min2_int max_two min_two max_three min_three max_four min_four   -- for this text's walks alone
set_option linter.unusedVariables false
set_option linter.unusedSimpArgs false



def errW : Option Int → Value
  | none => .nilIface
  | some c => .iface 0 (.int .i64 c)
theorem errW_none : errW none = .nilIface := rfl
theorem errW_some (c : Int) : errW (some c) = .iface 0 (.int .i64 c) := rfl

theorem info5 : (Tryd.prog.info? 5).map (fun i => (i.zero, i.size, i.bytes)) = some (some (.int .u8 0), 1, 1) := by kernel_rfl
-- the values' own types

end Go.Proofs.YtephgjjlbnminaaDoor.PH
