-- laid by a program of this session (its print of the translation over its own contracts)
import Derived.Test.YtmgoncnjagihgaaDoorProg
import Derived.Below
import Derived.Deep.Draws
import Derived.Deep.AppendLies
import Derived.Maps.AppendAt
import Derived.OwnWalk
import Derived.Laws.BytesArg
import Derived.Laws.MakeOwn
import Derived.Laws.OwnMore
import Derived.Deep.OwnRows
import Derived.Tactics
import Derived.Lib.ConvBytes
import Derived.Laws.Slices
import Derived.WalkKit
import Derived.KernelRfl
import Derived.RowKit3
import Derived.Deep.LoopGhost
import Derived.Deep.QuietTactic
import Derived.BigQuiet
import Derived.WideLaws
import Derived.Deep.DeepCutAuto
import Derived.Deep.CutBlock
import Derived.Deep.RegionHeld3
import Derived.Laws.Rows
import Derived.Lib.AppendStr
import Derived.ArgAppend
import Derived.Laws.IdiomCopy
import Derived.OrdersHeld
import Derived.Laws.BitsLemmas
import Derived.RowKit
import Derived.Test.YtmgoncnjagihgaaDoorGivenU
import Derived.Test.YtmgoncnjagihgaaDoorWWords
import Derived.Test.YtmgoncnjagihgaaDoorWLast
import Derived.Test.YtmgoncnjagihgaaDoorWTab
import Derived.Test.YtmgoncnjagihgaaDoorWFour
import Derived.Test.YtmgoncnjagihgaaDoorWQPut
import Derived.Test.YtmgoncnjagihgaaDoorWApart
import Derived.Test.YtmgoncnjagihgaaDoorWArr
import Derived.Test.YtmgoncnjagihgaaDoorWZeros
import Derived.Test.YtmgoncnjagihgaaDoorWFoot
import Derived.Test.YtmgoncnjagihgaaDoorWKept
import Derived.Test.YtmgoncnjagihgaaDoorWShare
import Derived.Test.YtmgoncnjagihgaaDoorWN
import Derived.Test.YtmgoncnjagihgaaDoorWFootNe
import Derived.Test.YtmgoncnjagihgaaDoorWAt
import Derived.Test.YtmgoncnjagihgaaDoorWEqStruct
import Derived.Test.YtmgoncnjagihgaaDoorWRepsOne
import Derived.Test.YtmgoncnjagihgaaDoorWInv
import Derived.Test.YtmgoncnjagihgaaDoorWInvWords
import Derived.Test.YtmgoncnjagihgaaDoorWGuard
import Derived.Test.YtmgoncnjagihgaaDoorWNEv
import Derived.Test.YtmgoncnjagihgaaDoorWMore
namespace Go.Proofs.YtmgoncnjagihgaaDoor.XT
open Go.Proofs.YtmgoncnjagihgaaDoor Go.Proofs.YtmgoncnjagihgaaDoor.GivenT Go.Proofs.YtmgoncnjagihgaaDoor.Lem
open Go.RowKit Go.Proofs.YtmgoncnjagihgaaDoorW.PrintWords Go.Proofs.YtmgoncnjagihgaaDoorW.PrintLast Go.Proofs.YtmgoncnjagihgaaDoorW.PrintMore
attribute [local go_sem] max2_int min2_int max_two min_two max_three min_three max_four min_four   -- for this text's walks alone
set_option linter.unusedVariables false
set_option linter.unusedSimpArgs false



def errW : Option Int → Value
  | none => .nilIface
  | some c => .iface 0 (.int .i64 c)
theorem errW_none : errW none = .nilIface := rfl
theorem errW_some (c : Int) : errW (some c) = .iface 0 (.int .i64 c) := rfl

theorem info5 : (Tryd.prog.info? 5).map (fun i => (i.zero, i.size, i.bytes)) = some (some (.int .u8 0), 1, 1) := by kernel_rfl
-- the values' own types

end Go.Proofs.YtmgoncnjagihgaaDoor.XT
