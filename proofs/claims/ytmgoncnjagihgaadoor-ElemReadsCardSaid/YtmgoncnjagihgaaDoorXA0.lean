-- laid by a program of this session (its print of the translation over its own contracts)
import Derived.Test.YtmgoncnjagihgaaDoorProg
import Derived.Below
import Derived.Deep.Draws
import Derived.Deep.AppendLies
import Derived.Maps.AppendAt
import Derived.OwnWalk
import Derived.Laws.BytesArg
import Derived.Laws.MakeOwn
import Derived.Laws.OwnMore
import Derived.Deep.OwnRows
import Derived.Tactics
import Derived.Lib.ConvBytes
import Derived.Laws.Slices
import Derived.WalkKit
import Derived.KernelRfl
import Derived.RowKit3
import Derived.Deep.LoopGhost
import Derived.Deep.QuietTactic
import Derived.BigQuiet
import Derived.WideLaws
import Derived.Deep.DeepCutAuto
import Derived.Deep.CutBlock
import Derived.Deep.RegionHeld3
import Derived.Laws.Rows
import Derived.Lib.AppendStr
import Derived.ArgAppend
import Derived.Laws.IdiomCopy
import Derived.OrdersHeld
import Derived.Laws.BitsLemmas
import Derived.RowKit
import Derived.Test.YtmgoncnjagihgaaDoorHexC
import Derived.Laws.Tables
import Derived.Laws.StructEq
import Derived.Laws.Cover2
import Derived.Test.YtmgoncnjagihgaaDoorWWords
import Derived.Test.YtmgoncnjagihgaaDoorWLast
import Derived.Test.YtmgoncnjagihgaaDoorWTab
import Derived.Test.YtmgoncnjagihgaaDoorWFour
import Derived.Test.YtmgoncnjagihgaaDoorWQPut
import Derived.Test.YtmgoncnjagihgaaDoorWApart
import Derived.Test.YtmgoncnjagihgaaDoorWArr
import Derived.Test.YtmgoncnjagihgaaDoorWZeros
import Derived.Test.YtmgoncnjagihgaaDoorWFoot
import Derived.Test.YtmgoncnjagihgaaDoorWKept
import Derived.Test.YtmgoncnjagihgaaDoorWShare
import Derived.Test.YtmgoncnjagihgaaDoorWN
import Derived.Test.YtmgoncnjagihgaaDoorWFootNe
import Derived.Test.YtmgoncnjagihgaaDoorWAt
import Derived.Test.YtmgoncnjagihgaaDoorWEqStruct
import Derived.Test.YtmgoncnjagihgaaDoorWRepsOne
import Derived.Test.YtmgoncnjagihgaaDoorWInv
import Derived.Test.YtmgoncnjagihgaaDoorWInvWords
import Derived.Test.YtmgoncnjagihgaaDoorWGuard
import Derived.Test.YtmgoncnjagihgaaDoorWNEv
import Derived.Test.YtmgoncnjagihgaaDoorWMore
namespace Go.Proofs.YtmgoncnjagihgaaDoor.XA
open Go.Proofs.YtmgoncnjagihgaaDoor.Given Go.Proofs.YtmgoncnjagihgaaDoor.Lem
open Go.RowKit Go.Proofs.YtmgoncnjagihgaaDoorW.PrintWords Go.Proofs.YtmgoncnjagihgaaDoorW.PrintLast Go.Proofs.YtmgoncnjagihgaaDoorW.PrintMore
attribute [local go_sem] max2_int min2_int max_two min_two max_three min_three max_four min_four   -- for this text's walks alone
set_option linter.unusedVariables false
set_option linter.unusedSimpArgs false



def errW : Option Int → Value
  | none => .nilIface
  | some c => .iface 0 (.int .i64 c)
theorem errW_none : errW none = .nilIface := rfl
theorem errW_some (c : Int) : errW (some c) = .iface 0 (.int .i64 c) := rfl

-- the values' own types

def pick3 (j a0 a1 a2 : Int) : Int := if j = 0 then a0 else if j = 1 then a1 else a2
@[go_sem] theorem buildA46 (a0 a1 a2 : Int) (w : World) : (Instr.build 46 #[(0, .int .i64 a0), (1, .int .i64 a1), (2, .int .i64 a2)]).run Tryd.prog w = .ok (.agg #[.int .i64 a0, .int .i64 a1, .int .i64 a2]) w := run_build w 46 _ _ (by kernel_rfl)
@[go_sem] theorem idxA46 (a0 a1 a2 j : Int) (w : World) (h0 : 0 ≤ j) (h1 : j < 3) : (Instr.index 46 (.agg #[.int .i64 a0, .int .i64 a1, .int .i64 a2]) (.int .i64 j)).run Tryd.prog w = .ok (.int .i64 (pick3 j a0 a1 a2)) w := by
  obtain rfl | rfl | rfl : j = 0 ∨ j = 1 ∨ j = 2 := by omega
  all_goals kernel_rfl
@[go_sem] theorem eqA46 (a0 a1 a2 b0 b1 b2 : Int) (w : World) : (Op.equalIn 10000 46 (.agg #[.int .i64 a0, .int .i64 a1, .int .i64 a2]) (.agg #[.int .i64 b0, .int .i64 b1, .int .i64 b2])).run Tryd.prog w = .ok (a0 == b0 && (a1 == b1 && (a2 == b2))) w := by
  have u3 := Tryd.underlying3
  have a3 := Tryd.isAgg3
  have z3 := Tryd.sizeOf3
  rw [show (10000 : Nat) = 9999 + 1 from rfl, Op.equalIn]
  simp only [Sem.run_bind, run_underlying Tryd.underlying46, Result.andThen_ok]
  simp only [Std.Legacy.Range.forIn_eq_forIn_range', Std.Legacy.Range.size, Nat.sub_zero, Nat.add_sub_cancel, Nat.div_one, List.range'_succ, List.range'_zero, List.forIn_cons, List.forIn_nil]
  go_simp
  by_cases h0 : a0 = b0 <;> by_cases h1 : a1 = b1 <;> by_cases h2 : a2 = b2 <;> simp [h0, h1, h2]
end Go.Proofs.YtmgoncnjagihgaaDoor.XA
