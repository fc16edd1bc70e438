-- laid by a program of this session (its print of the translation over its own contracts)
import Derived.Test.YtmgoncnjagihgaaGreatDoorProg
import Derived.Below
import Derived.Deep.Draws
import Derived.Deep.AppendLies
import Derived.Maps.AppendAt
import Derived.OwnWalk
import Derived.Laws.BytesArg
import Derived.Laws.MakeOwn
import Derived.Laws.OwnMore
import Derived.Deep.OwnRows
import Derived.Tactics
import Derived.Lib.ConvBytes
import Derived.Laws.Slices
import Derived.WalkKit
import Derived.KernelRfl
import Derived.RowKit3
import Derived.Deep.LoopGhost
import Derived.Deep.QuietTactic
import Derived.BigQuiet
import Derived.WideLaws
import Derived.Deep.DeepCutAuto
import Derived.Deep.CutBlock
import Derived.Deep.RegionHeld3
import Derived.Laws.Rows
import Derived.Lib.AppendStr
import Derived.ArgAppend
import Derived.Laws.IdiomCopy
import Derived.OrdersHeld
import Derived.Laws.BitsLemmas
import Derived.RowKit
import Derived.Test.YtmgoncnjagihgaaGreatDoorGivenC
import Derived.Test.YtmgoncnjagihgaaGreatDoorLem
import Derived.Test.YtmgoncnjagihgaaGreatDoorWWords
import Derived.Test.YtmgoncnjagihgaaGreatDoorWLast
import Derived.Test.YtmgoncnjagihgaaGreatDoorWTab
import Derived.Test.YtmgoncnjagihgaaGreatDoorWFour
import Derived.Test.YtmgoncnjagihgaaGreatDoorWQPut
import Derived.Test.YtmgoncnjagihgaaGreatDoorWApart
import Derived.Test.YtmgoncnjagihgaaGreatDoorWArr
import Derived.Test.YtmgoncnjagihgaaGreatDoorWZeros
import Derived.Test.YtmgoncnjagihgaaGreatDoorWFoot
import Derived.Test.YtmgoncnjagihgaaGreatDoorWKept
import Derived.Test.YtmgoncnjagihgaaGreatDoorWShare
import Derived.Test.YtmgoncnjagihgaaGreatDoorWN
import Derived.Test.YtmgoncnjagihgaaGreatDoorWFootNe
import Derived.Test.YtmgoncnjagihgaaGreatDoorWAt
import Derived.Test.YtmgoncnjagihgaaGreatDoorWEqStruct
import Derived.Test.YtmgoncnjagihgaaGreatDoorWRepsOne
import Derived.Test.YtmgoncnjagihgaaGreatDoorWInv
import Derived.Test.YtmgoncnjagihgaaGreatDoorWInvWords
import Derived.Test.YtmgoncnjagihgaaGreatDoorWGuard
import Derived.Test.YtmgoncnjagihgaaGreatDoorWNEv
import Derived.Test.YtmgoncnjagihgaaGreatDoorWMore
namespace Go.Proofs.YtmgoncnjagihgaaGreatDoor.XS
open Go.Proofs.YtmgoncnjagihgaaGreatDoor.Given Go.Proofs.YtmgoncnjagihgaaGreatDoor.Lem
open Go.RowKit Go.Proofs.YtmgoncnjagihgaaGreatDoorW.PrintWords Go.Proofs.YtmgoncnjagihgaaGreatDoorW.PrintLast Go.Proofs.YtmgoncnjagihgaaGreatDoorW.PrintMore
attribute [local go_sem] max2_int min2_int max_two min_two max_three min_three max_four min_four   -- for this text's walks alone
set_option linter.unusedVariables false
set_option linter.unusedSimpArgs false



def errW : Option Int → Value
  | none => .nilIface
  | some c => .iface 0 (.int .i64 c)
theorem errW_none : errW none = .nilIface := rfl
theorem errW_some (c : Int) : errW (some c) = .iface 0 (.int .i64 c) := rfl

-- the values' own types

end Go.Proofs.YtmgoncnjagihgaaGreatDoor.XS
