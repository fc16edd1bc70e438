/-
  cast.Binary for every op: its contract, op by op.
-/
import Derived.Test.YtmgoncnjagihgaaGreatDoorBinary
namespace Go.Proofs.YtmgoncnjagihgaaGreatDoor.Given
open Go.RowKit Go.Proofs.YtmgoncnjagihgaaGreatDoorW.PrintWords Go.Proofs.YtmgoncnjagihgaaGreatDoorW.PrintLast Go.Proofs.YtmgoncnjagihgaaGreatDoorW.PrintMore Go.Proofs.YtmgoncnjagihgaaGreatDoor.Lem
set_option linter.unusedVariables false
set_option linter.unusedSimpArgs false

theorem bits_and_call (a b : Int) (w : World) : Calls Tryz.prog 44 #[.int .i64 a, .int .i64 b] w fun e w' => e = .returned (.tuple #[.int .i64 (Go.bits .and .i64 a b), .int .i64 0]) ∧ w = w' := by
  go_enter Tryz.func44, Tryz.ntmps44
  go_wp2
  go_ret2
  exact ⟨rfl, rfl⟩

theorem bits_or_call (a b : Int) (w : World) : Calls Tryz.prog 45 #[.int .i64 a, .int .i64 b] w fun e w' => e = .returned (.tuple #[.int .i64 (Go.bits .or .i64 a b), .int .i64 0]) ∧ w = w' := by
  go_enter Tryz.func45, Tryz.ntmps45
  go_wp2
  go_ret2
  exact ⟨rfl, rfl⟩

theorem bits_xor_call (a b : Int) (w : World) : Calls Tryz.prog 46 #[.int .i64 a, .int .i64 b] w fun e w' => e = .returned (.tuple #[.int .i64 (Go.bits .xor .i64 a b), .int .i64 0]) ∧ w = w' := by
  go_enter Tryz.func46, Tryz.ntmps46
  go_wp2
  go_ret2
  exact ⟨rfl, rfl⟩

/-- The function of two numbers that an op stands for. -/
def opF (op : Int) : Int → Int → Option (Int × Int) :=
  if op = 7 then XP.ints_Add.f
  else if op = 8 then XP.ints_Sub.f
  else if op = 9 then XP.ints_Mul.f
  else if op = 10 then XP.ints_Div.f
  else if op = 11 then XP.ints_Mod.f
  else if op = 12 then XP.ints_Shl.f 3
  else if op = 13 then XP.ints_Shr.f
  else if op = 14 then fun a b => some (Go.bits .and .i64 a b, 0)
  else if op = 15 then fun a b => some (Go.bits .or .i64 a b, 0)
  else if op = 16 then fun a b => some (Go.bits .xor .i64 a b, 0)
  else fun _ _ => none

theorem numbers_7 (w : World) : Calls Tryz.prog 25 #[.int .i64 7] w fun e w' => e = .returned (.tuple #[.func (.func 37) #[] #[], .bool true]) ∧ Drawn0 w w' := by
  go_enter Tryz.func25, Tryz.ntmps25
  go_wp2
  go_ret2
  exact ⟨rfl, Drawn0.refl _⟩

theorem numbers_8 (w : World) : Calls Tryz.prog 25 #[.int .i64 8] w fun e w' => e = .returned (.tuple #[.func (.func 38) #[] #[], .bool true]) ∧ Drawn0 w w' := by
  go_enter Tryz.func25, Tryz.ntmps25
  go_wp2
  go_ret2
  exact ⟨rfl, Drawn0.refl _⟩

theorem numbers_9 (w : World) : Calls Tryz.prog 25 #[.int .i64 9] w fun e w' => e = .returned (.tuple #[.func (.func 39) #[] #[], .bool true]) ∧ Drawn0 w w' := by
  go_enter Tryz.func25, Tryz.ntmps25
  go_wp2
  go_ret2
  exact ⟨rfl, Drawn0.refl _⟩

theorem numbers_10 (w : World) : Calls Tryz.prog 25 #[.int .i64 10] w fun e w' => e = .returned (.tuple #[.func (.func 40) #[] #[], .bool true]) ∧ Drawn0 w w' := by
  go_enter Tryz.func25, Tryz.ntmps25
  go_wp2
  go_ret2
  exact ⟨rfl, Drawn0.refl _⟩

theorem numbers_11 (w : World) : Calls Tryz.prog 25 #[.int .i64 11] w fun e w' => e = .returned (.tuple #[.func (.func 41) #[] #[], .bool true]) ∧ Drawn0 w w' := by
  go_enter Tryz.func25, Tryz.ntmps25
  go_wp2
  go_ret2
  exact ⟨rfl, Drawn0.refl _⟩

theorem numbers_12 (w : World) : Calls Tryz.prog 25 #[.int .i64 12] w fun e w' => e = .returned (.tuple #[.func (.func 42) #[] #[], .bool true]) ∧ Drawn0 w w' := by
  go_enter Tryz.func25, Tryz.ntmps25
  go_wp2
  go_ret2
  exact ⟨rfl, Drawn0.refl _⟩

theorem numbers_13 (w : World) : Calls Tryz.prog 25 #[.int .i64 13] w fun e w' => e = .returned (.tuple #[.func (.func 43) #[] #[], .bool true]) ∧ Drawn0 w w' := by
  go_enter Tryz.func25, Tryz.ntmps25
  go_wp2
  go_ret2
  exact ⟨rfl, Drawn0.refl _⟩

theorem numbers_14 (w : World) : Calls Tryz.prog 25 #[.int .i64 14] w fun e w' => e = .returned (.tuple #[.func (.func 44) #[] #[], .bool true]) ∧ Drawn0 w w' := by
  go_enter Tryz.func25, Tryz.ntmps25
  go_wp2
  go_ret2
  exact ⟨rfl, Drawn0.refl _⟩

theorem numbers_15 (w : World) : Calls Tryz.prog 25 #[.int .i64 15] w fun e w' => e = .returned (.tuple #[.func (.func 45) #[] #[], .bool true]) ∧ Drawn0 w w' := by
  go_enter Tryz.func25, Tryz.ntmps25
  go_wp2
  go_ret2
  exact ⟨rfl, Drawn0.refl _⟩

theorem numbers_16 (w : World) : Calls Tryz.prog 25 #[.int .i64 16] w fun e w' => e = .returned (.tuple #[.func (.func 46) #[] #[], .bool true]) ∧ Drawn0 w w' := by
  go_enter Tryz.func25, Tryz.ntmps25
  go_wp2
  go_ret2
  exact ⟨rfl, Drawn0.refl _⟩

theorem numbers_no (op : Int) (h7 : (op == 7) = false) (h8 : (op == 8) = false) (h9 : (op == 9) = false) (h10 : (op == 10) = false) (h11 : (op == 11) = false) (h12 : (op == 12) = false) (h13 : (op == 13) = false) (h14 : (op == 14) = false) (h15 : (op == 15) = false) (h16 : (op == 16) = false) (w : World) : Calls Tryz.prog 25 #[.int .i64 op] w fun e w' => e = .returned (.tuple #[.nilFunc, .bool false]) ∧ Drawn0 w w' := by
  go_enter Tryz.func25, Tryz.ntmps25
  go_wp2
  go_ret2
  exact ⟨rfl, Drawn0.refl _⟩

def isOp (op : Int) : Bool := decide (7 ≤ op ∧ op ≤ 16)
def cast_Binary.f (k : Nat) (a0 : Int) (a1_0 : Int) (a1_1 : Int) (a1_2 : ByteArray) (a2_0 : Int) (a2_1 : Int) (a2_2 : ByteArray) (a3 : Int) : Option (Int × Int × ByteArray × Int) := cast_Binary.g (opF a0) (isOp a0) k a0 a1_0 a1_1 a1_2 a2_0 a2_1 a2_2 a3
theorem cast_Binary.mono : ∀ a0 a1 a2 a3 a4 a5 a6 a7 k, LeO (cast_Binary.f k a0 a1 a2 a3 a4 a5 a6 a7) (cast_Binary.f (k + 1) a0 a1 a2 a3 a4 a5 a6 a7) := fun a0 a1 a2 a3 a4 a5 a6 a7 k => cast_Binary.gmono (opF a0) (isOp a0) a0 a1 a2 a3 a4 a5 a6 a7 k
set_option maxHeartbeats 1000000 in
theorem cast_Binary.calls (k : Nat) (a0 : Int) (a1_0 : Int) (a1_1 : Int) (a1_2 : ByteArray) (a2_0 : Int) (a2_1 : Int) (a2_2 : ByteArray) (a3 : Int) (r1 : Int) (r2 : Int) (r3 : ByteArray) (r4 : Int) (w : World) (h : cast_Binary.f k a0 a1_0 a1_1 a1_2 a2_0 a2_1 a2_2 a3 = some (r1, r2, r3, r4)) :
    Calls Tryz.prog 14 #[.int .i64 a0, .agg #[.int .i64 a1_0, .int .i64 a1_1, .string a1_2], .agg #[.int .i64 a2_0, .int .i64 a2_1, .string a2_2], .int .i64 a3] w fun e w' => e = .returned (.tuple #[.agg #[.int .i64 r1, .int .i64 r2, .string r3], .int .i64 r4]) ∧ Below w.heap.size w w' := by
  by_cases hi : 7 ≤ a0 ∧ a0 ≤ 16
  · obtain rfl | rfl | rfl | rfl | rfl | rfl | rfl | rfl | rfl | rfl : a0 = 7 ∨ a0 = 8 ∨ a0 = 9 ∨ a0 = 10 ∨ a0 = 11 ∨ a0 = 12 ∨ a0 = 13 ∨ a0 = 14 ∨ a0 = 15 ∨ a0 = 16 := by omega
    · exact cast_Binary.calls_gen (opF 7) true (.func (.func 37) #[] #[]) 37 (enters_of Tryz.func37 (by kernel_rfl) rfl) (fun x y s1 s2 W hs => XP.ints_Add.calls x y s1 s2 W hs) (fun _ => rfl) k 7 a1_0 a1_1 a1_2 a2_0 a2_1 a2_2 a3 r1 r2 r3 r4 w numbers_7 h
    · exact cast_Binary.calls_gen (opF 8) true (.func (.func 38) #[] #[]) 38 (enters_of Tryz.func38 (by kernel_rfl) rfl) (fun x y s1 s2 W hs => XP.ints_Sub.calls x y s1 s2 W hs) (fun _ => rfl) k 8 a1_0 a1_1 a1_2 a2_0 a2_1 a2_2 a3 r1 r2 r3 r4 w numbers_8 h
    · exact cast_Binary.calls_gen (opF 9) true (.func (.func 39) #[] #[]) 39 (enters_of Tryz.func39 (by kernel_rfl) rfl) (fun x y s1 s2 W hs => XP.ints_Mul.calls x y s1 s2 W hs) (fun _ => rfl) k 9 a1_0 a1_1 a1_2 a2_0 a2_1 a2_2 a3 r1 r2 r3 r4 w numbers_9 h
    · exact cast_Binary.calls_gen (opF 10) true (.func (.func 40) #[] #[]) 40 (enters_of Tryz.func40 (by kernel_rfl) rfl) (fun x y s1 s2 W hs => XP.ints_Div.calls x y s1 s2 W hs) (fun _ => rfl) k 10 a1_0 a1_1 a1_2 a2_0 a2_1 a2_2 a3 r1 r2 r3 r4 w numbers_10 h
    · exact cast_Binary.calls_gen (opF 11) true (.func (.func 41) #[] #[]) 41 (enters_of Tryz.func41 (by kernel_rfl) rfl) (fun x y s1 s2 W hs => XP.ints_Mod.calls x y s1 s2 W hs) (fun _ => rfl) k 11 a1_0 a1_1 a1_2 a2_0 a2_1 a2_2 a3 r1 r2 r3 r4 w numbers_11 h
    · exact cast_Binary.calls_gen (opF 12) true (.func (.func 42) #[] #[]) 42 (enters_of Tryz.func42 (by kernel_rfl) rfl) (fun x y s1 s2 W hs => XP.ints_Shl.calls 3 x y s1 s2 W hs) (fun _ => rfl) k 12 a1_0 a1_1 a1_2 a2_0 a2_1 a2_2 a3 r1 r2 r3 r4 w numbers_12 h
    · exact cast_Binary.calls_gen (opF 13) true (.func (.func 43) #[] #[]) 43 (enters_of Tryz.func43 (by kernel_rfl) rfl) (fun x y s1 s2 W hs => XP.ints_Shr.calls x y s1 s2 W hs) (fun _ => rfl) k 13 a1_0 a1_1 a1_2 a2_0 a2_1 a2_2 a3 r1 r2 r3 r4 w numbers_13 h
    · exact cast_Binary.calls_gen (opF 14) true (.func (.func 44) #[] #[]) 44 (enters_of Tryz.func44 (by kernel_rfl) rfl) (fun x y s1 s2 W hs => by
        obtain ⟨h1, h2⟩ := Prod.mk.inj (Option.some.inj hs)
        exact (bits_and_call x y W).mono fun e w' hh => ⟨by rw [hh.1, ← h1, ← h2], hh.2 ▸ Drawn0.refl _⟩) (fun _ => rfl) k 14 a1_0 a1_1 a1_2 a2_0 a2_1 a2_2 a3 r1 r2 r3 r4 w numbers_14 h
    · exact cast_Binary.calls_gen (opF 15) true (.func (.func 45) #[] #[]) 45 (enters_of Tryz.func45 (by kernel_rfl) rfl) (fun x y s1 s2 W hs => by
        obtain ⟨h1, h2⟩ := Prod.mk.inj (Option.some.inj hs)
        exact (bits_or_call x y W).mono fun e w' hh => ⟨by rw [hh.1, ← h1, ← h2], hh.2 ▸ Drawn0.refl _⟩) (fun _ => rfl) k 15 a1_0 a1_1 a1_2 a2_0 a2_1 a2_2 a3 r1 r2 r3 r4 w numbers_15 h
    · exact cast_Binary.calls_gen (opF 16) true (.func (.func 46) #[] #[]) 46 (enters_of Tryz.func46 (by kernel_rfl) rfl) (fun x y s1 s2 W hs => by
        obtain ⟨h1, h2⟩ := Prod.mk.inj (Option.some.inj hs)
        exact (bits_xor_call x y W).mono fun e w' hh => ⟨by rw [hh.1, ← h1, ← h2], hh.2 ▸ Drawn0.refl _⟩) (fun _ => rfl) k 16 a1_0 a1_1 a1_2 a2_0 a2_1 a2_2 a3 r1 r2 r3 r4 w numbers_16 h
  · have hn : isOp a0 = false := decide_eq_false hi
    unfold cast_Binary.f at h
    rw [hn] at h
    have ne : ∀ j : Int, 7 ≤ j → j ≤ 16 → (a0 == j) = false := fun j h1 h2 => by simpa using fun e : a0 = j => hi (by omega)
    refine cast_Binary.calls_gen (opF a0) false .nilFunc 37 (enters_of Tryz.func37 (by kernel_rfl) rfl) (fun x y s1 s2 W hs => ?_) (fun e => absurd e (by decide)) k a0 a1_0 a1_1 a1_2 a2_0 a2_1 a2_2 a3 r1 r2 r3 r4 w
      (numbers_no a0 (ne 7 (by decide) (by decide)) (ne 8 (by decide) (by decide)) (ne 9 (by decide) (by decide)) (ne 10 (by decide) (by decide)) (ne 11 (by decide) (by decide)) (ne 12 (by decide) (by decide)) (ne 13 (by decide) (by decide)) (ne 14 (by decide) (by decide)) (ne 15 (by decide) (by decide)) (ne 16 (by decide) (by decide))) h
    unfold opF at hs
    rw [if_neg (by omega), if_neg (by omega), if_neg (by omega), if_neg (by omega), if_neg (by omega), if_neg (by omega), if_neg (by omega), if_neg (by omega), if_neg (by omega), if_neg (by omega)] at hs
    cases hs
end Go.Proofs.YtmgoncnjagihgaaGreatDoor.Given
