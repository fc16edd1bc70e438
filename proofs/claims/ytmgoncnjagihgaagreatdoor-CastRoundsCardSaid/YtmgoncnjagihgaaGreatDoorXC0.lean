-- laid by a program of this session (its print of the translation over its own contracts)
import Derived.Test.YtmgoncnjagihgaaGreatDoorProg
import Derived.Below
import Derived.Deep.Draws
import Derived.Deep.AppendLies
import Derived.Maps.AppendAt
import Derived.OwnWalk
import Derived.Laws.BytesArg
import Derived.Laws.MakeOwn
import Derived.Laws.OwnMore
import Derived.Deep.OwnRows
import Derived.Tactics
import Derived.Lib.ConvBytes
import Derived.Laws.Slices
import Derived.WalkKit
import Derived.KernelRfl
import Derived.RowKit3
import Derived.Deep.LoopGhost
import Derived.Deep.QuietTactic
import Derived.BigQuiet
import Derived.WideLaws
import Derived.Deep.DeepCutAuto
import Derived.Deep.CutBlock
import Derived.Deep.RegionHeld3
import Derived.Laws.Rows
import Derived.Lib.AppendStr
import Derived.ArgAppend
import Derived.Laws.IdiomCopy
import Derived.OrdersHeld
import Derived.Laws.BitsLemmas
import Derived.RowKit
import Derived.Test.YtmgoncnjagihgaaGreatDoorOps
import Derived.Test.YtmgoncnjagihgaaGreatDoorLem
import Derived.Laws.Tables
import Derived.Laws.StructEq
import Derived.Laws.Cover2
import Derived.Test.YtmgoncnjagihgaaGreatDoorWWords
import Derived.Test.YtmgoncnjagihgaaGreatDoorWLast
import Derived.Test.YtmgoncnjagihgaaGreatDoorWTab
import Derived.Test.YtmgoncnjagihgaaGreatDoorWFour
import Derived.Test.YtmgoncnjagihgaaGreatDoorWQPut
import Derived.Test.YtmgoncnjagihgaaGreatDoorWApart
import Derived.Test.YtmgoncnjagihgaaGreatDoorWArr
import Derived.Test.YtmgoncnjagihgaaGreatDoorWZeros
import Derived.Test.YtmgoncnjagihgaaGreatDoorWFoot
import Derived.Test.YtmgoncnjagihgaaGreatDoorWKept
import Derived.Test.YtmgoncnjagihgaaGreatDoorWShare
import Derived.Test.YtmgoncnjagihgaaGreatDoorWN
import Derived.Test.YtmgoncnjagihgaaGreatDoorWFootNe
import Derived.Test.YtmgoncnjagihgaaGreatDoorWAt
import Derived.Test.YtmgoncnjagihgaaGreatDoorWEqStruct
import Derived.Test.YtmgoncnjagihgaaGreatDoorWRepsOne
import Derived.Test.YtmgoncnjagihgaaGreatDoorWInv
import Derived.Test.YtmgoncnjagihgaaGreatDoorWInvWords
import Derived.Test.YtmgoncnjagihgaaGreatDoorWGuard
import Derived.Test.YtmgoncnjagihgaaGreatDoorWNEv
import Derived.Test.YtmgoncnjagihgaaGreatDoorWMore
namespace Go.Proofs.YtmgoncnjagihgaaGreatDoor.XC
open Go.Proofs.YtmgoncnjagihgaaGreatDoor Go.Proofs.YtmgoncnjagihgaaGreatDoor.Given Go.Proofs.YtmgoncnjagihgaaGreatDoor.Lem
open Go.RowKit Go.Proofs.YtmgoncnjagihgaaGreatDoorW.PrintWords Go.Proofs.YtmgoncnjagihgaaGreatDoorW.PrintLast Go.Proofs.YtmgoncnjagihgaaGreatDoorW.PrintMore
attribute [local go_sem] max2_int min2_int max_two min_two max_three min_three max_four min_four   -- for this text's walks alone
set_option linter.unusedVariables false
set_option linter.unusedSimpArgs false



def errW : Option Int → Value
  | none => .nilIface
  | some c => .iface 0 (.int .i64 c)
theorem errW_none : errW none = .nilIface := rfl
theorem errW_some (c : Int) : errW (some c) = .iface 0 (.int .i64 c) := rfl

-- the values' own types

def pick2 (j a0 a1 : Int) : Int := if j = 0 then a0 else a1
@[go_sem] theorem buildA41 (a0 a1 : Int) (w : World) : (Instr.build 41 #[(0, .int .i64 a0), (1, .int .i64 a1)]).run Tryz.prog w = .ok (.agg #[.int .i64 a0, .int .i64 a1]) w := run_build w 41 _ _ (by kernel_rfl)
@[go_sem] theorem idxA41 (a0 a1 j : Int) (w : World) (h0 : 0 ≤ j) (h1 : j < 2) : (Instr.index 41 (.agg #[.int .i64 a0, .int .i64 a1]) (.int .i64 j)).run Tryz.prog w = .ok (.int .i64 (pick2 j a0 a1)) w := by
  obtain rfl | rfl : j = 0 ∨ j = 1 := by omega
  all_goals kernel_rfl
@[go_sem] theorem eqA41 (a0 a1 b0 b1 : Int) (w : World) : (Op.equalIn 10000 41 (.agg #[.int .i64 a0, .int .i64 a1]) (.agg #[.int .i64 b0, .int .i64 b1])).run Tryz.prog w = .ok (a0 == b0 && (a1 == b1)) w := by
  have u3 := Tryz.underlying3
  have a3 := Tryz.isAgg3
  have z3 := Tryz.sizeOf3
  rw [show (10000 : Nat) = 9999 + 1 from rfl, Op.equalIn]
  simp only [Sem.run_bind, run_underlying Tryz.underlying41, Result.andThen_ok]
  simp only [Std.Legacy.Range.forIn_eq_forIn_range', Std.Legacy.Range.size, Nat.sub_zero, Nat.add_sub_cancel, Nat.div_one, List.range'_succ, List.range'_zero, List.forIn_cons, List.forIn_nil]
  go_simp
  by_cases h0 : a0 = b0 <;> by_cases h1 : a1 = b1 <;> simp [h0, h1]
end Go.Proofs.YtmgoncnjagihgaaGreatDoor.XC
