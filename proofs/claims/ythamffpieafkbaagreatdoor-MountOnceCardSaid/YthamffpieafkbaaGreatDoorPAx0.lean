-- printed by a program of this session (wip/tools), over the translation
import Derived.Test.YthamffpieafkbaaGreatDoorProg
import Derived.Below
import Derived.Deep.Draws
import Derived.Deep.AppendLies
import Derived.Maps.AppendAt
import Derived.OwnWalk
import Derived.Laws.BytesArg
import Derived.Laws.MakeOwn
import Derived.Laws.OwnMore
import Derived.Deep.OwnRows
import Derived.Tactics
import Derived.Lib.ConvBytes
import Derived.Laws.Slices
import Derived.WalkKit
import Derived.KernelRfl
import Derived.RowKit3
import Derived.Deep.LoopGhost
import Derived.Deep.QuietTactic
import Derived.BigQuiet
import Derived.WideLaws
import Derived.Deep.DeepCutAuto
import Derived.Deep.CutBlock
import Derived.Deep.RegionHeld3
import Derived.Laws.Rows
import Derived.Lib.AppendStr
import Derived.ArgAppend
import Derived.Laws.IdiomCopy
import Derived.OrdersHeld
import Derived.Laws.BitsLemmas
import Derived.RowKit
import Derived.Test.YthamffpieafkbaaGreatDoorKs
import Derived.Test.YthamffpieafkbaaGreatDoorWWords
import Derived.Test.YthamffpieafkbaaGreatDoorWLast
import Derived.Test.YthamffpieafkbaaGreatDoorWTab
import Derived.Test.YthamffpieafkbaaGreatDoorWFour
import Derived.Test.YthamffpieafkbaaGreatDoorWQPut
import Derived.Test.YthamffpieafkbaaGreatDoorWApart
import Derived.Test.YthamffpieafkbaaGreatDoorWArr
import Derived.Test.YthamffpieafkbaaGreatDoorWZeros
import Derived.Test.YthamffpieafkbaaGreatDoorWFoot
import Derived.Test.YthamffpieafkbaaGreatDoorWKept
import Derived.Test.YthamffpieafkbaaGreatDoorWShare
import Derived.Test.YthamffpieafkbaaGreatDoorWN
import Derived.Test.YthamffpieafkbaaGreatDoorWFootNe
import Derived.Test.YthamffpieafkbaaGreatDoorWAt
import Derived.Test.YthamffpieafkbaaGreatDoorWEqStruct
import Derived.Test.YthamffpieafkbaaGreatDoorWRepsOne
import Derived.Test.YthamffpieafkbaaGreatDoorWInv
import Derived.Test.YthamffpieafkbaaGreatDoorWInvWords
import Derived.Test.YthamffpieafkbaaGreatDoorWGuard
import Derived.Test.YthamffpieafkbaaGreatDoorWNEv
import Derived.Test.YthamffpieafkbaaGreatDoorWMore
namespace Go.Proofs.YthamffpieafkbaaGreatDoor.PA
open Go.RowKit Go.Proofs.YthamffpieafkbaaGreatDoorW.PrintWords Go.Proofs.YthamffpieafkbaaGreatDoorW.PrintLast Go.Proofs.YthamffpieafkbaaGreatDoorW.PrintMore
attribute [local go_sem] max2_int min2_int max_two min_two max_three min_three max_four min_four   -- for this text's walks alone
set_option linter.unusedVariables false
set_option linter.unusedSimpArgs false



def errW : Option Int → Value
  | none => .nilIface
  | some c => .iface 0 (.int .i64 c)
theorem errW_none : errW none = .nilIface := rfl
theorem errW_some (c : Int) : errW (some c) = .iface 0 (.int .i64 c) := rfl

-- the values' own types

end Go.Proofs.YthamffpieafkbaaGreatDoor.PA
