-- laid by a program of this session (its print of the translation over its own contracts)
import Derived.Test.YtedmbkhjpbdkjaaProg
import Derived.Below
import Derived.Deep.Draws
import Derived.Deep.AppendLies
import Derived.Maps.AppendAt
import Derived.OwnWalk
import Derived.Laws.BytesArg
import Derived.Laws.MakeOwn
import Derived.Laws.OwnMore
import Derived.Deep.OwnRows
import Derived.Tactics
import Derived.Lib.ConvBytes
import Derived.Laws.Slices
import Derived.WalkKit
import Derived.KernelRfl
import Derived.RowKit3
import Derived.Deep.LoopGhost
import Derived.Deep.QuietTactic
import Derived.BigQuiet
import Derived.WideLaws
import Derived.Deep.DeepCutAuto
import Derived.Deep.CutBlock
import Derived.Deep.RegionHeld3
import Derived.Laws.Rows
import Derived.Lib.AppendStr
import Derived.ArgAppend
import Derived.Laws.IdiomCopy
import Derived.OrdersHeld
import Derived.Laws.BitsLemmas
import Derived.RowKit
import Derived.Test.YtedmbkhjpbdkjaaLem
import Derived.Laws.Tables
import Derived.Laws.StructEq
import Derived.Laws.Cover2
import Derived.Test.YtedmbkhjpbdkjaaWWords
import Derived.Test.YtedmbkhjpbdkjaaWLast
import Derived.Test.YtedmbkhjpbdkjaaWTab
import Derived.Test.YtedmbkhjpbdkjaaWFour
import Derived.Test.YtedmbkhjpbdkjaaWQPut
import Derived.Test.YtedmbkhjpbdkjaaWApart
import Derived.Test.YtedmbkhjpbdkjaaWArr
import Derived.Test.YtedmbkhjpbdkjaaWZeros
import Derived.Test.YtedmbkhjpbdkjaaWFoot
import Derived.Test.YtedmbkhjpbdkjaaWKept
import Derived.Test.YtedmbkhjpbdkjaaWShare
import Derived.Test.YtedmbkhjpbdkjaaWN
import Derived.Test.YtedmbkhjpbdkjaaWFootNe
import Derived.Test.YtedmbkhjpbdkjaaWAt
import Derived.Test.YtedmbkhjpbdkjaaWEqStruct
import Derived.Test.YtedmbkhjpbdkjaaWRepsOne
import Derived.Test.YtedmbkhjpbdkjaaWInv
import Derived.Test.YtedmbkhjpbdkjaaWInvWords
import Derived.Test.YtedmbkhjpbdkjaaWGuard
import Derived.Test.YtedmbkhjpbdkjaaWNEv
import Derived.Test.YtedmbkhjpbdkjaaWMore
namespace Go.Proofs.Ytedmbkhjpbdkjaa.XA
open Go.Proofs.Ytedmbkhjpbdkjaa.Lem
open Go.RowKit Go.Proofs.YtedmbkhjpbdkjaaW.PrintWords Go.Proofs.YtedmbkhjpbdkjaaW.PrintLast Go.Proofs.YtedmbkhjpbdkjaaW.PrintMore
attribute [local go_sem] max2_int min2_int max_two min_two max_three min_three max_four min_four   -- for this text's walks alone
set_option linter.unusedVariables false
set_option linter.unusedSimpArgs false



def errW : Option Int → Value
  | none => .nilIface
  | some c => .iface 0 (.int .i64 c)
theorem errW_none : errW none = .nilIface := rfl
theorem errW_some (c : Int) : errW (some c) = .iface 0 (.int .i64 c) := rfl

-- the values' own types
/-! #### struct type 23 -/
structure S23 where
  f0 : Int
  f1 : Int
  f2 : ByteArray
def z23 : S23 := ⟨(0 : Int), (0 : Int), (⟨#[]⟩ : ByteArray)⟩
def k23 : Kd S23 := Kd.iso (Kd.pair (Kd.int .i64) (Kd.pair (Kd.int .i64) Kd.string)) (fun x : S23 => (x.f0, x.f1, x.f2))
theorem k23_open {w : World} {x : S23} {cs : List Value} (h : k23.K w x cs) : cs = [.int .i64 x.f0, .int .i64 x.f1, .string x.f2] := by
  obtain ⟨_, _, rfl, rfl, ⟨_, _, rfl, rfl, rfl⟩⟩ := h
  exact rfl
theorem k23_openM {w : World} {base : Nat} {ok : Nat → Prop} {x : S23} {cs : List Value} (h : k23.M w base ok x cs) : cs = [.int .i64 x.f0, .int .i64 x.f1, .string x.f2] := by
  obtain ⟨_, _, rfl, rfl, ⟨_, _, rfl, rfl, rfl⟩⟩ := h
  exact rfl
theorem k23_mk (w : World) (x : S23)  : k23.K w x [.int .i64 x.f0, .int .i64 x.f1, .string x.f2] := ⟨[.int .i64 x.f0], [.int .i64 x.f1, .string x.f2], rfl, rfl, ⟨[.int .i64 x.f1], [.string x.f2], rfl, rfl, rfl⟩⟩
theorem k23_mkM (w : World) (base : Nat) (ok : Nat → Prop) (x : S23)  : k23.M w base ok x [.int .i64 x.f0, .int .i64 x.f1, .string x.f2] := ⟨[.int .i64 x.f0], [.int .i64 x.f1, .string x.f2], rfl, rfl, ⟨[.int .i64 x.f1], [.string x.f2], rfl, rfl, rfl⟩⟩
def rd_T23 (xs : List S23) (i : Int) : S23 := xs.getD i.toNat z23
theorem at_T23 {w : World} {A : Option Addr} {n : Nat} {xs : List S23} (h : Kd.C k23 w A n xs) (i : Int) (h0 : 0 ≤ i) (h1 : i < n) : ∃ ad , A = some ad ∧ w.cell? (ad.add (i.toNat * 3)) = some (.int .i64 (rd_T23 xs i).f0) ∧ w.cell? ⟨(ad.add (i.toNat * 3)).block, (ad.add (i.toNat * 3)).off + 1, none⟩ = some (.int .i64 (rd_T23 xs i).f1) ∧ w.cell? ⟨(ad.add (i.toNat * 3)).block, (ad.add (i.toNat * 3)).off + 2, none⟩ = some (.string (rd_T23 xs i).f2) := by
  obtain ⟨ad, c, e, _, hK, hc0⟩ := Kd.C_get h z23 i h0 h1
  have hc : ∀ j u, c[j]? = some u → w.cell? (ad.add (i.toNat * 3 + j)) = some u := hc0
  obtain rfl := k23_open hK
  exact ⟨ad, e, hc 0 _ rfl, by rw [← add_field _ _ 1 (by omega)]; exact hc 1 _ rfl, by rw [← add_field _ _ 2 (by omega)]; exact hc 2 _ rfl⟩

def pick2 (j a0 a1 : Int) : Int := if j = 0 then a0 else a1
def pick3 (j a0 a1 a2 : Int) : Int := if j = 0 then a0 else if j = 1 then a1 else a2
@[go_sem] theorem buildA32 (a0 a1 : Int) (w : World) : (Instr.build 32 #[(0, .int .i64 a0), (1, .int .i64 a1)]).run Try.prog w = .ok (.agg #[.int .i64 a0, .int .i64 a1]) w := run_build w 32 _ _ (by kernel_rfl)
@[go_sem] theorem idxA32 (a0 a1 j : Int) (w : World) (h0 : 0 ≤ j) (h1 : j < 2) : (Instr.index 32 (.agg #[.int .i64 a0, .int .i64 a1]) (.int .i64 j)).run Try.prog w = .ok (.int .i64 (pick2 j a0 a1)) w := by
  obtain rfl | rfl : j = 0 ∨ j = 1 := by omega
  all_goals kernel_rfl
@[go_sem] theorem eqA32 (a0 a1 b0 b1 : Int) (w : World) : (Op.equalIn 10000 32 (.agg #[.int .i64 a0, .int .i64 a1]) (.agg #[.int .i64 b0, .int .i64 b1])).run Try.prog w = .ok (a0 == b0 && (a1 == b1)) w := by
  have u3 := Try.underlying3
  have a3 := Try.isAgg3
  have z3 := Try.sizeOf3
  rw [show (10000 : Nat) = 9999 + 1 from rfl, Op.equalIn]
  simp only [Sem.run_bind, run_underlying Try.underlying32, Result.andThen_ok]
  simp only [Std.Legacy.Range.forIn_eq_forIn_range', Std.Legacy.Range.size, Nat.sub_zero, Nat.add_sub_cancel, Nat.div_one, List.range'_succ, List.range'_zero, List.forIn_cons, List.forIn_nil]
  go_simp
  by_cases h0 : a0 = b0 <;> by_cases h1 : a1 = b1 <;> simp [h0, h1]
@[go_sem] theorem buildA36 (a0 a1 a2 : Int) (w : World) : (Instr.build 36 #[(0, .int .i64 a0), (1, .int .i64 a1), (2, .int .i64 a2)]).run Try.prog w = .ok (.agg #[.int .i64 a0, .int .i64 a1, .int .i64 a2]) w := run_build w 36 _ _ (by kernel_rfl)
@[go_sem] theorem idxA36 (a0 a1 a2 j : Int) (w : World) (h0 : 0 ≤ j) (h1 : j < 3) : (Instr.index 36 (.agg #[.int .i64 a0, .int .i64 a1, .int .i64 a2]) (.int .i64 j)).run Try.prog w = .ok (.int .i64 (pick3 j a0 a1 a2)) w := by
  obtain rfl | rfl | rfl : j = 0 ∨ j = 1 ∨ j = 2 := by omega
  all_goals kernel_rfl
@[go_sem] theorem eqA36 (a0 a1 a2 b0 b1 b2 : Int) (w : World) : (Op.equalIn 10000 36 (.agg #[.int .i64 a0, .int .i64 a1, .int .i64 a2]) (.agg #[.int .i64 b0, .int .i64 b1, .int .i64 b2])).run Try.prog w = .ok (a0 == b0 && (a1 == b1 && (a2 == b2))) w := by
  have u3 := Try.underlying3
  have a3 := Try.isAgg3
  have z3 := Try.sizeOf3
  rw [show (10000 : Nat) = 9999 + 1 from rfl, Op.equalIn]
  simp only [Sem.run_bind, run_underlying Try.underlying36, Result.andThen_ok]
  simp only [Std.Legacy.Range.forIn_eq_forIn_range', Std.Legacy.Range.size, Nat.sub_zero, Nat.add_sub_cancel, Nat.div_one, List.range'_succ, List.range'_zero, List.forIn_cons, List.forIn_nil]
  go_simp
  by_cases h0 : a0 = b0 <;> by_cases h1 : a1 = b1 <;> by_cases h2 : a2 = b2 <;> simp [h0, h1, h2]
@[go_sem] theorem fldA23_0 (f0 : Int) (f1 : Int) (f2 : ByteArray) (w : World) : (Instr.field 23 (.agg #[.int .i64 f0, .int .i64 f1, .string f2]) 0).run Try.prog w = .ok (.int .i64 f0) w := by kernel_rfl
end Go.Proofs.Ytedmbkhjpbdkjaa.XA
