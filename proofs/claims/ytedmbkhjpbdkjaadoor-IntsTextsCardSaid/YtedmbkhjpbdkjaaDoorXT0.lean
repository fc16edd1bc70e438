-- laid by a program of this session (its print of the translation over its own contracts)
import Derived.Test.YtedmbkhjpbdkjaaDoorProg
import Derived.Below
import Derived.Deep.Draws
import Derived.Deep.AppendLies
import Derived.Maps.AppendAt
import Derived.OwnWalk
import Derived.Laws.BytesArg
import Derived.Laws.MakeOwn
import Derived.Laws.OwnMore
import Derived.Deep.OwnRows
import Derived.Tactics
import Derived.Lib.ConvBytes
import Derived.Laws.Slices
import Derived.WalkKit
import Derived.KernelRfl
import Derived.RowKit3
import Derived.Deep.LoopGhost
import Derived.Deep.QuietTactic
import Derived.BigQuiet
import Derived.WideLaws
import Derived.Deep.DeepCutAuto
import Derived.Deep.CutBlock
import Derived.Deep.RegionHeld3
import Derived.Laws.Rows
import Derived.Lib.AppendStr
import Derived.ArgAppend
import Derived.Laws.IdiomCopy
import Derived.OrdersHeld
import Derived.Laws.BitsLemmas
import Derived.RowKit
import Derived.Test.YtedmbkhjpbdkjaaDoorGivenU
import Derived.Test.YtedmbkhjpbdkjaaDoorXI6
import Derived.Test.YtedmbkhjpbdkjaaDoorWWords
import Derived.Test.YtedmbkhjpbdkjaaDoorWLast
import Derived.Test.YtedmbkhjpbdkjaaDoorWTab
import Derived.Test.YtedmbkhjpbdkjaaDoorWFour
import Derived.Test.YtedmbkhjpbdkjaaDoorWQPut
import Derived.Test.YtedmbkhjpbdkjaaDoorWApart
import Derived.Test.YtedmbkhjpbdkjaaDoorWArr
import Derived.Test.YtedmbkhjpbdkjaaDoorWZeros
import Derived.Test.YtedmbkhjpbdkjaaDoorWFoot
import Derived.Test.YtedmbkhjpbdkjaaDoorWKept
import Derived.Test.YtedmbkhjpbdkjaaDoorWShare
import Derived.Test.YtedmbkhjpbdkjaaDoorWN
import Derived.Test.YtedmbkhjpbdkjaaDoorWFootNe
import Derived.Test.YtedmbkhjpbdkjaaDoorWAt
import Derived.Test.YtedmbkhjpbdkjaaDoorWEqStruct
import Derived.Test.YtedmbkhjpbdkjaaDoorWRepsOne
import Derived.Test.YtedmbkhjpbdkjaaDoorWInv
import Derived.Test.YtedmbkhjpbdkjaaDoorWInvWords
import Derived.Test.YtedmbkhjpbdkjaaDoorWGuard
import Derived.Test.YtedmbkhjpbdkjaaDoorWNEv
import Derived.Test.YtedmbkhjpbdkjaaDoorWMore
namespace Go.Proofs.YtedmbkhjpbdkjaaDoor.XT
open Go.Proofs.YtedmbkhjpbdkjaaDoor.GivenT
open Go.RowKit Go.Proofs.YtedmbkhjpbdkjaaDoorW.PrintWords Go.Proofs.YtedmbkhjpbdkjaaDoorW.PrintLast Go.Proofs.YtedmbkhjpbdkjaaDoorW.PrintMore
attribute [local go_sem] max2_int min2_int max_two min_two max_three min_three max_four min_four   -- for this text's walks alone
set_option linter.unusedVariables false
set_option linter.unusedSimpArgs false



def errW : Option Int → Value
  | none => .nilIface
  | some c => .iface 0 (.int .i64 c)
theorem errW_none : errW none = .nilIface := rfl
theorem errW_some (c : Int) : errW (some c) = .iface 0 (.int .i64 c) := rfl

-- the values' own types

end Go.Proofs.YtedmbkhjpbdkjaaDoor.XT
