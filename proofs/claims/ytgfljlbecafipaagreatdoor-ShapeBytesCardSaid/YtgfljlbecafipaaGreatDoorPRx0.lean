-- printed by a program of this session (wip/tools), over the translation
import Derived.Test.YtgfljlbecafipaaGreatDoorProg
import Derived.Below
import Derived.Deep.Draws
import Derived.Deep.AppendLies
import Derived.Maps.AppendAt
import Derived.OwnWalk
import Derived.Laws.BytesArg
import Derived.Laws.MakeOwn
import Derived.Laws.OwnMore
import Derived.Deep.OwnRows
import Derived.Tactics
import Derived.Lib.ConvBytes
import Derived.Laws.Slices
import Derived.WalkKit
import Derived.KernelRfl
import Derived.RowKit3
import Derived.Deep.LoopGhost
import Derived.Deep.QuietTactic
import Derived.BigQuiet
import Derived.WideLaws
import Derived.Deep.DeepCutAuto
import Derived.Deep.CutBlock
import Derived.Deep.RegionHeld3
import Derived.Laws.Rows
import Derived.Lib.AppendStr
import Derived.ArgAppend
import Derived.Laws.IdiomCopy
import Derived.OrdersHeld
import Derived.Laws.BitsLemmas
import Derived.RowKit
import Derived.Test.YtgfljlbecafipaaGreatDoorWWords
import Derived.Test.YtgfljlbecafipaaGreatDoorWLast
import Derived.Test.YtgfljlbecafipaaGreatDoorWTab
import Derived.Test.YtgfljlbecafipaaGreatDoorWFour
import Derived.Test.YtgfljlbecafipaaGreatDoorWQPut
import Derived.Test.YtgfljlbecafipaaGreatDoorWApart
import Derived.Test.YtgfljlbecafipaaGreatDoorWArr
import Derived.Test.YtgfljlbecafipaaGreatDoorWZeros
import Derived.Test.YtgfljlbecafipaaGreatDoorWFoot
import Derived.Test.YtgfljlbecafipaaGreatDoorWKept
import Derived.Test.YtgfljlbecafipaaGreatDoorWShare
import Derived.Test.YtgfljlbecafipaaGreatDoorWN
import Derived.Test.YtgfljlbecafipaaGreatDoorWFootNe
import Derived.Test.YtgfljlbecafipaaGreatDoorWAt
import Derived.Test.YtgfljlbecafipaaGreatDoorWEqStruct
import Derived.Test.YtgfljlbecafipaaGreatDoorWRepsOne
import Derived.Test.YtgfljlbecafipaaGreatDoorWInv
import Derived.Test.YtgfljlbecafipaaGreatDoorWInvWords
import Derived.Test.YtgfljlbecafipaaGreatDoorWGuard
import Derived.Test.YtgfljlbecafipaaGreatDoorWNEv
import Derived.Test.YtgfljlbecafipaaGreatDoorWMore
namespace Go.Proofs.YtgfljlbecafipaaGreatDoor.PR
open Go.RowKit Go.Proofs.YtgfljlbecafipaaGreatDoorW.PrintWords Go.Proofs.YtgfljlbecafipaaGreatDoorW.PrintLast Go.Proofs.YtgfljlbecafipaaGreatDoorW.PrintMore
attribute [local go_sem] max2_int min2_int max_two min_two max_three min_three max_four min_four   -- for this text's walks alone
set_option linter.unusedVariables false
set_option linter.unusedSimpArgs false



def errW : Option Int → Value
  | none => .nilIface
  | some c => .iface 0 (.int .i64 c)
theorem errW_none : errW none = .nilIface := rfl
theorem errW_some (c : Int) : errW (some c) = .iface 0 (.int .i64 c) := rfl

-- the values' own types

end Go.Proofs.YtgfljlbecafipaaGreatDoor.PR
