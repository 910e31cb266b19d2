-- printed by a program of this session (wip/tools), over the translation
import Derived.Test.YtlnfadlgjcnngaaGreatProg
import Derived.Below
import Derived.Deep.Draws
import Derived.Deep.AppendLies
import Derived.Maps.AppendAt
import Derived.OwnWalk
import Derived.Laws.BytesArg
import Derived.Laws.MakeOwn
import Derived.Laws.OwnMore
import Derived.Deep.OwnRows
import Derived.Tactics
import Derived.Lib.ConvBytes
import Derived.Laws.Slices
import Derived.WalkKit
import Derived.KernelRfl
import Derived.RowKit3
import Derived.Deep.LoopGhost
import Derived.Deep.QuietTactic
import Derived.BigQuiet
import Derived.WideLaws
import Derived.Deep.DeepCutAuto
import Derived.Deep.CutBlock
import Derived.Deep.RegionHeld3
import Derived.Laws.Rows
import Derived.Lib.AppendStr
import Derived.ArgAppend
import Derived.Laws.IdiomCopy
import Derived.OrdersHeld
import Derived.Laws.BitsLemmas
import Derived.RowKit
import Derived.Test.YtlnfadlgjcnngaaGreatWWords
import Derived.Test.YtlnfadlgjcnngaaGreatWLast
import Derived.Test.YtlnfadlgjcnngaaGreatWTab
import Derived.Test.YtlnfadlgjcnngaaGreatWFour
import Derived.Test.YtlnfadlgjcnngaaGreatWQPut
import Derived.Test.YtlnfadlgjcnngaaGreatWApart
import Derived.Test.YtlnfadlgjcnngaaGreatWArr
import Derived.Test.YtlnfadlgjcnngaaGreatWZeros
import Derived.Test.YtlnfadlgjcnngaaGreatWFoot
import Derived.Test.YtlnfadlgjcnngaaGreatWKept
import Derived.Test.YtlnfadlgjcnngaaGreatWShare
import Derived.Test.YtlnfadlgjcnngaaGreatWN
import Derived.Test.YtlnfadlgjcnngaaGreatWFootNe
import Derived.Test.YtlnfadlgjcnngaaGreatWAt
import Derived.Test.YtlnfadlgjcnngaaGreatWEqStruct
import Derived.Test.YtlnfadlgjcnngaaGreatWRepsOne
import Derived.Test.YtlnfadlgjcnngaaGreatWInv
import Derived.Test.YtlnfadlgjcnngaaGreatWInvWords
import Derived.Test.YtlnfadlgjcnngaaGreatWGuard
import Derived.Test.YtlnfadlgjcnngaaGreatWNEv
import Derived.Test.YtlnfadlgjcnngaaGreatWMore
namespace Go.Proofs.YtlnfadlgjcnngaaGreat.PB
open Go.RowKit Go.Proofs.YtlnfadlgjcnngaaGreatW.PrintWords Go.Proofs.YtlnfadlgjcnngaaGreatW.PrintLast Go.Proofs.YtlnfadlgjcnngaaGreatW.PrintMore
attribute [local go_sem] max2_int min2_int max_two min_two max_three min_three max_four min_four   -- for this text's walks alone
set_option linter.unusedVariables false
set_option linter.unusedSimpArgs false



def errW : Option Int → Value
  | none => .nilIface
  | some c => .iface 0 (.int .i64 c)
theorem errW_none : errW none = .nilIface := rfl
theorem errW_some (c : Int) : errW (some c) = .iface 0 (.int .i64 c) := rfl

-- the values' own types

end Go.Proofs.YtlnfadlgjcnngaaGreat.PB
