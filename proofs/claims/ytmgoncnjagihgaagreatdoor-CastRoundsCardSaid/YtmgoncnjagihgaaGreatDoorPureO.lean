/-
  Ops of two numbers, and the laws' waking case, over the printed functions.
-/
import Derived.Test.YtmgoncnjagihgaaGreatDoorXC2
import Derived.KernelRfl
namespace Go.Proofs.YtmgoncnjagihgaaGreatDoor.PureC
set_option linter.unusedSimpArgs false
set_option linter.unusedVariables false
open Go.RowKit Go.Proofs.YtmgoncnjagihgaaGreatDoorW.PrintWords Go.Proofs.YtmgoncnjagihgaaGreatDoorW.PrintLast Go.Proofs.YtmgoncnjagihgaaGreatDoorW.PrintMore Go.Proofs.YtmgoncnjagihgaaGreatDoor.XC Go.Proofs.YtmgoncnjagihgaaGreatDoor.Given

def I64 (x : Int) : Prop := -9223372036854775808 ≤ x ∧ x ≤ 9223372036854775807
theorem i64_of {x : Int} (h : (Lit.int .i64 x).wf = true) : I64 x := by
  have := bounds_i64 h
  unfold I64
  omega
theorem wrap64_in {x : Int} (h : I64 x) : wrap64 x = x := by unfold I64 at h; unfold wrap64; omega
theorem wrap64_I (x : Int) : I64 (wrap64 x) := by unfold I64 wrap64; omega

abbrev E : ByteArray := ⟨#[]⟩

theorem is_int (n : Int) : XP.val_Is.f 2 n E = some (2, n, E) := by
  unfold XP.val_Is.f XP.val_Ok.f
  rw [if_neg (by decide), if_neg (by decide), if_pos rfl, show (E.toList == ([] : List UInt8)) = true by decide +kernel]
  rfl
theorem is_int' (n : Int) : val_Is.f 2 n E = some (2, n, E) := by
  unfold val_Is.f val_Ok.f
  rw [if_neg (by decide), if_neg (by decide), if_pos rfl, show (E.toList == ([] : List UInt8)) = true by decide +kernel]
  rfl

/-- An op of two numbers. -/
theorem binary_int (k : Nat) (op a b most : Int) (h1 : 7 ≤ op) (h2 : op ≤ 16) (n e : Int) (hf : opF op a b = some (n, e)) :
    cast_Binary.f (k + 1) op 2 a E 2 b E most = some (if e = 0 then (2, n, E, 0) else (0, 0, E, e)) := by
  unfold cast_Binary.f cast_Binary.g
  rw [is_int, is_int]
  simp only [Option.bind_some]
  rw [show isOp op = true from decide_eq_true ⟨h1, h2⟩, if_pos rfl, cast_Binary.j0, if_neg (by decide), if_neg (by decide), if_neg (by decide), if_pos rfl, if_pos rfl, hf]
  simp only [Option.bind_some]
  unfold XP.cast_number.f
  by_cases he : e = 0
  · rw [if_pos he, if_pos he]
    rfl
  · rw [if_neg he, if_neg he]
    rfl

theorem awake_at : umlautlaw13_awake.f 12 = some true := by decide +kernel
theorem awake_all (k : Nat) (h : 12 ≤ k) : umlautlaw13_awake.f k = some true := at_rounds (fun k => umlautlaw13_awake.mono k) h awake_at

end Go.Proofs.YtmgoncnjagihgaaGreatDoor.PureC
