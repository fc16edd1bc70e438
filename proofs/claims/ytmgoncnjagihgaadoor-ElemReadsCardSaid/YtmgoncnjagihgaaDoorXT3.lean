-- laid by a program of this session (its print of the translation over its own contracts)
import Derived.Test.YtmgoncnjagihgaaDoorXT0
namespace Go.Proofs.YtmgoncnjagihgaaDoor.XT
open Go.Proofs.YtmgoncnjagihgaaDoor Go.Proofs.YtmgoncnjagihgaaDoor.GivenT Go.Proofs.YtmgoncnjagihgaaDoor.Lem
open Go.RowKit Go.Proofs.YtmgoncnjagihgaaDoorW.PrintWords Go.Proofs.YtmgoncnjagihgaaDoorW.PrintLast Go.Proofs.YtmgoncnjagihgaaDoorW.PrintMore
attribute [local go_sem] max2_int min2_int max_two min_two max_three min_three max_four min_four   -- for this text's walks alone
set_option linter.unusedVariables false
set_option linter.unusedSimpArgs false

/-! ### umlautlaw3_ElemReads: function 5 -/
def umlautlaw3_ElemReads.j0 : Nat → ByteArray → ByteArray → Option (Bool)
  | 0, _, _ => none
  | k + 1, x9, x11 => (elem_Parse.f x11).bind fun bt131 => (if bt131.2 = 0 then ((XA.umlautref5_Of.f bt131.1).bind fun bt133 => ((XA.umlautref5_Elem_Text.f k bt133.1 bt133.2.1 bt133.2.2.1 bt133.2.2.2).bind fun t137 => (if t137.toList = x11.toList then ((umlautlaw3_awake.f k).bind fun t138 => (some t138)) else (some false)))) else (if bt131.2 = 3 then (if bt131.1 = 0 then (if x11.toList = x9.toList then (some false) else ((umlautlaw3_awake.f k).bind fun t139 => (some t139))) else (some false)) else (some false)))
def umlautlaw3_ElemReads.f (k : Nat) (a0 : Int) (a1 : Int) (a2 : Int) (a3 : Int) : Option (Bool) := (XA.umlautref5_Of.f a0).bind fun bt120 => ((XA.umlautref5_Elem_Text.f k bt120.1 bt120.2.1 bt120.2.2.1 bt120.2.2.2).bind fun t124 => (if (t124.size : Int) = 0 then (none) else (if 0 ≤ (Int.tmod (wrap64 ((Int.tmod a1 (t124.size : Int)) + (t124.size : Int))) (t124.size : Int)) then (if (Int.tmod (wrap64 ((Int.tmod a1 (t124.size : Int)) + (t124.size : Int))) (t124.size : Int)) ≤ (t124.size : Int) then ((some (([a2] : List Int) : List Int)).bind fun y125 => (if (t124.extract 0 ((Int.tmod (wrap64 ((Int.tmod a1 (t124.size : Int)) + (t124.size : Int))) (t124.size : Int)) : Int).toNat).size + (strOfNums y125).size ≤ 9223372036854775807 then (if 0 ≤ (wrap64 ((Int.tmod (wrap64 ((Int.tmod a1 (t124.size : Int)) + (t124.size : Int))) (t124.size : Int)) + 1)) then (if (wrap64 ((Int.tmod (wrap64 ((Int.tmod a1 (t124.size : Int)) + (t124.size : Int))) (t124.size : Int)) + 1)) ≤ (t124.size : Int) then (if ((t124.extract 0 ((Int.tmod (wrap64 ((Int.tmod a1 (t124.size : Int)) + (t124.size : Int))) (t124.size : Int)) : Int).toNat) ++ (strOfNums y125)).size + (t124.extract ((wrap64 ((Int.tmod (wrap64 ((Int.tmod a1 (t124.size : Int)) + (t124.size : Int))) (t124.size : Int)) + 1)) : Int).toNat t124.size).size ≤ 9223372036854775807 then (if (Go.bits .and .i64 a3 3) = 1 then (if (t124.extract 0 ((Int.tmod (wrap64 ((Int.tmod a1 (t124.size : Int)) + (t124.size : Int))) (t124.size : Int)) : Int).toNat).size + (t124.extract ((wrap64 ((Int.tmod (wrap64 ((Int.tmod a1 (t124.size : Int)) + (t124.size : Int))) (t124.size : Int)) + 1)) : Int).toNat t124.size).size ≤ 9223372036854775807 then (umlautlaw3_ElemReads.j0 k t124 ((t124.extract 0 ((Int.tmod (wrap64 ((Int.tmod a1 (t124.size : Int)) + (t124.size : Int))) (t124.size : Int)) : Int).toNat) ++ (t124.extract ((wrap64 ((Int.tmod (wrap64 ((Int.tmod a1 (t124.size : Int)) + (t124.size : Int))) (t124.size : Int)) + 1)) : Int).toNat t124.size))) else (none)) else (if (Go.bits .and .i64 a3 3) = 2 then ((some (([a2] : List Int) : List Int)).bind fun y128 => (if (t124.extract 0 ((Int.tmod (wrap64 ((Int.tmod a1 (t124.size : Int)) + (t124.size : Int))) (t124.size : Int)) : Int).toNat).size + (strOfNums y128).size ≤ 9223372036854775807 then (if ((t124.extract 0 ((Int.tmod (wrap64 ((Int.tmod a1 (t124.size : Int)) + (t124.size : Int))) (t124.size : Int)) : Int).toNat) ++ (strOfNums y128)).size + (t124.extract ((Int.tmod (wrap64 ((Int.tmod a1 (t124.size : Int)) + (t124.size : Int))) (t124.size : Int)) : Int).toNat t124.size).size ≤ 9223372036854775807 then (umlautlaw3_ElemReads.j0 k t124 (((t124.extract 0 ((Int.tmod (wrap64 ((Int.tmod a1 (t124.size : Int)) + (t124.size : Int))) (t124.size : Int)) : Int).toNat) ++ (strOfNums y128)) ++ (t124.extract ((Int.tmod (wrap64 ((Int.tmod a1 (t124.size : Int)) + (t124.size : Int))) (t124.size : Int)) : Int).toNat t124.size))) else (none)) else (none))) else (umlautlaw3_ElemReads.j0 k t124 (((t124.extract 0 ((Int.tmod (wrap64 ((Int.tmod a1 (t124.size : Int)) + (t124.size : Int))) (t124.size : Int)) : Int).toNat) ++ (strOfNums y125)) ++ (t124.extract ((wrap64 ((Int.tmod (wrap64 ((Int.tmod a1 (t124.size : Int)) + (t124.size : Int))) (t124.size : Int)) + 1)) : Int).toNat t124.size))))) else (none)) else (none)) else (none)) else (none))) else (none)) else (none))))
theorem umlautlaw3_ElemReads.mono_l : ∀ k, (∀ y0 y1, LeO (umlautlaw3_ElemReads.j0 k y0 y1) (umlautlaw3_ElemReads.j0 (k + 1) y0 y1))
  | 0 => fun _ _ r h => by simp [umlautlaw3_ElemReads.j0] at h
  | k + 1 => by
    have ih0 := umlautlaw3_ElemReads.mono_l k
    · intro y0 y1
      unfold umlautlaw3_ElemReads.j0
      repeat' first
      | (with_reducible exact ih0 _ _)
      | (with_reducible exact XA.umlautref5_Elem_Text.mono _ _ _ _ _)
      | (with_reducible exact umlautlaw3_awake.mono _)
      | (with_reducible exact LeO.refl _)
      | (with_reducible exact LeO.none _)
      | (with_reducible refine LeO.ite ?_ ?_)
      | (with_reducible refine LeO.bind ?_ (fun _ => ?_))
      | exact ih0 _ _
      | exact XA.umlautref5_Elem_Text.mono _ _ _ _ _
      | exact umlautlaw3_awake.mono _
      | exact LeO.none _
      | refine LeO.ite ?_ ?_
      | refine LeO.bind ?_ (fun _ => ?_)
theorem umlautlaw3_ElemReads.mono : ∀ a0 a1 a2 a3 k, LeO (umlautlaw3_ElemReads.f k a0 a1 a2 a3) (umlautlaw3_ElemReads.f (k + 1) a0 a1 a2 a3) := by
  intro a0 a1 a2 a3 k
  have ih0 := umlautlaw3_ElemReads.mono_l k
  unfold umlautlaw3_ElemReads.f
  repeat' first
      | (with_reducible exact ih0 _ _)
      | (with_reducible exact XA.umlautref5_Elem_Text.mono _ _ _ _ _)
      | (with_reducible exact umlautlaw3_awake.mono _)
      | (with_reducible exact LeO.refl _)
      | (with_reducible exact LeO.none _)
      | (with_reducible refine LeO.ite ?_ ?_)
      | (with_reducible refine LeO.bind ?_ (fun _ => ?_))
      | exact ih0 _ _
      | exact XA.umlautref5_Elem_Text.mono _ _ _ _ _
      | exact umlautlaw3_awake.mono _
      | exact LeO.none _
      | refine LeO.ite ?_ ?_
      | refine LeO.bind ?_ (fun _ => ?_)
def umlautlaw3_ElemReads.T3 : Bool × List (List Nat × List Nat) := (true, [([], []), ([], []), ([0, 1], [0, 1]), ([], []), ([3], [3]), ([4], [4]), ([2, 5], [2, 5]), ([], []), ([], []), ([8], [8]), ([7, 9], [7, 9]), ([6, 10], [6, 10]), ([11, 0, 1, 2, 3, 4, 5, 6, 7, 8, 9, 10, 11], [11])])
def umlautlaw3_ElemReads.B3 : List Nat := [0, 0, 3, 0, 8, 24, 63, 0, 0, 256, 896, 2047, 4095]
theorem umlautlaw3_ElemReads.tab3 : rtab .any (opsOf Tryd.f5 3) = umlautlaw3_ElemReads.T3 := by kernel_rfl
theorem umlautlaw3_ElemReads.bits3 : waitsOk umlautlaw3_ElemReads.T3.2 umlautlaw3_ElemReads.B3 = true := by kernel_rfl
def umlautlaw3_ElemReads.T6 : Bool × List (List Nat × List Nat) := (true, [([], []), ([], []), ([0, 1], [0, 1]), ([], []), ([], []), ([4], [4]), ([3, 5], [3, 5]), ([2, 6], [2, 6]), ([7, 0, 1, 2, 3, 4, 5, 6, 7], [7])])
def umlautlaw3_ElemReads.B6 : List Nat := [0, 0, 3, 0, 0, 16, 56, 127, 255]
theorem umlautlaw3_ElemReads.tab6 : rtab .any (opsOf Tryd.f5 6) = umlautlaw3_ElemReads.T6 := by kernel_rfl
theorem umlautlaw3_ElemReads.bits6 : waitsOk umlautlaw3_ElemReads.T6.2 umlautlaw3_ElemReads.B6 = true := by kernel_rfl
def umlautlaw3_ElemReads.T8 : Bool × List (List Nat × List Nat) := (true, [([], []), ([], []), ([0, 1], [0, 1]), ([], []), ([3], [3]), ([4], [4]), ([2, 5], [2, 5]), ([], []), ([], []), ([7, 8], [7, 8]), ([6, 9], [6, 9]), ([10, 0, 1, 2, 3, 4, 5, 6, 7, 8, 9, 10], [10])])
def umlautlaw3_ElemReads.B8 : List Nat := [0, 0, 3, 0, 8, 24, 63, 0, 0, 384, 1023, 2047]
theorem umlautlaw3_ElemReads.tab8 : rtab .any (opsOf Tryd.f5 8) = umlautlaw3_ElemReads.T8 := by kernel_rfl
theorem umlautlaw3_ElemReads.bits8 : waitsOk umlautlaw3_ElemReads.T8.2 umlautlaw3_ElemReads.B8 = true := by kernel_rfl
set_option maxHeartbeats 8000000 in
set_option maxRecDepth 100000 in
theorem umlautlaw3_ElemReads.calls (k : Nat) (a0 : Int) (a1 : Int) (a2 : Int) (a3 : Int) (r : Bool) (w : World) (hG0 : GW w) (h : umlautlaw3_ElemReads.f k a0 a1 a2 a3 = some r) (hT : r = true) :
    Calls Tryd.prog 5 #[.int .u32 a0, .int .i64 a1, .int .u8 a2, .int .i64 a3] w fun e w' => e = .returned (.bool r) ∧ Below w.heap.size w w' := by
  have HT := Aside0.mk hT
  clear hT
  have HG := Aside0.mk hG0
  clear hG0
  have HB := Aside0.mk (Below.refl w.heap.size w)
  have H : ((XA.umlautref5_Of.f a0).bind fun bt120 => ((XA.umlautref5_Elem_Text.f k bt120.1 bt120.2.1 bt120.2.2.1 bt120.2.2.2).bind fun t124 => (if (t124.size : Int) = 0 then (none) else (if 0 ≤ (Int.tmod (wrap64 ((Int.tmod a1 (t124.size : Int)) + (t124.size : Int))) (t124.size : Int)) then (if (Int.tmod (wrap64 ((Int.tmod a1 (t124.size : Int)) + (t124.size : Int))) (t124.size : Int)) ≤ (t124.size : Int) then ((some (([a2] : List Int) : List Int)).bind fun y125 => (if (t124.extract 0 ((Int.tmod (wrap64 ((Int.tmod a1 (t124.size : Int)) + (t124.size : Int))) (t124.size : Int)) : Int).toNat).size + (strOfNums y125).size ≤ 9223372036854775807 then (if 0 ≤ (wrap64 ((Int.tmod (wrap64 ((Int.tmod a1 (t124.size : Int)) + (t124.size : Int))) (t124.size : Int)) + 1)) then (if (wrap64 ((Int.tmod (wrap64 ((Int.tmod a1 (t124.size : Int)) + (t124.size : Int))) (t124.size : Int)) + 1)) ≤ (t124.size : Int) then (if ((t124.extract 0 ((Int.tmod (wrap64 ((Int.tmod a1 (t124.size : Int)) + (t124.size : Int))) (t124.size : Int)) : Int).toNat) ++ (strOfNums y125)).size + (t124.extract ((wrap64 ((Int.tmod (wrap64 ((Int.tmod a1 (t124.size : Int)) + (t124.size : Int))) (t124.size : Int)) + 1)) : Int).toNat t124.size).size ≤ 9223372036854775807 then (if (Go.bits .and .i64 a3 3) = 1 then (if (t124.extract 0 ((Int.tmod (wrap64 ((Int.tmod a1 (t124.size : Int)) + (t124.size : Int))) (t124.size : Int)) : Int).toNat).size + (t124.extract ((wrap64 ((Int.tmod (wrap64 ((Int.tmod a1 (t124.size : Int)) + (t124.size : Int))) (t124.size : Int)) + 1)) : Int).toNat t124.size).size ≤ 9223372036854775807 then (umlautlaw3_ElemReads.j0 k t124 ((t124.extract 0 ((Int.tmod (wrap64 ((Int.tmod a1 (t124.size : Int)) + (t124.size : Int))) (t124.size : Int)) : Int).toNat) ++ (t124.extract ((wrap64 ((Int.tmod (wrap64 ((Int.tmod a1 (t124.size : Int)) + (t124.size : Int))) (t124.size : Int)) + 1)) : Int).toNat t124.size))) else (none)) else (if (Go.bits .and .i64 a3 3) = 2 then ((some (([a2] : List Int) : List Int)).bind fun y128 => (if (t124.extract 0 ((Int.tmod (wrap64 ((Int.tmod a1 (t124.size : Int)) + (t124.size : Int))) (t124.size : Int)) : Int).toNat).size + (strOfNums y128).size ≤ 9223372036854775807 then (if ((t124.extract 0 ((Int.tmod (wrap64 ((Int.tmod a1 (t124.size : Int)) + (t124.size : Int))) (t124.size : Int)) : Int).toNat) ++ (strOfNums y128)).size + (t124.extract ((Int.tmod (wrap64 ((Int.tmod a1 (t124.size : Int)) + (t124.size : Int))) (t124.size : Int)) : Int).toNat t124.size).size ≤ 9223372036854775807 then (umlautlaw3_ElemReads.j0 k t124 (((t124.extract 0 ((Int.tmod (wrap64 ((Int.tmod a1 (t124.size : Int)) + (t124.size : Int))) (t124.size : Int)) : Int).toNat) ++ (strOfNums y128)) ++ (t124.extract ((Int.tmod (wrap64 ((Int.tmod a1 (t124.size : Int)) + (t124.size : Int))) (t124.size : Int)) : Int).toNat t124.size))) else (none)) else (none))) else (umlautlaw3_ElemReads.j0 k t124 (((t124.extract 0 ((Int.tmod (wrap64 ((Int.tmod a1 (t124.size : Int)) + (t124.size : Int))) (t124.size : Int)) : Int).toNat) ++ (strOfNums y125)) ++ (t124.extract ((wrap64 ((Int.tmod (wrap64 ((Int.tmod a1 (t124.size : Int)) + (t124.size : Int))) (t124.size : Int)) + 1)) : Int).toNat t124.size))))) else (none)) else (none)) else (none)) else (none))) else (none)) else (none))))) = some r := h
  clear h
  replace H := Option.bind_eq_some_iff.mp H
  obtain ⟨⟨t120, t121, t122, t123⟩, A50, H⟩ := H
  replace H : ((XA.umlautref5_Elem_Text.f k t120 t121 t122 t123).bind fun t124 => (if (t124.size : Int) = 0 then (none) else (if 0 ≤ (Int.tmod (wrap64 ((Int.tmod a1 (t124.size : Int)) + (t124.size : Int))) (t124.size : Int)) then (if (Int.tmod (wrap64 ((Int.tmod a1 (t124.size : Int)) + (t124.size : Int))) (t124.size : Int)) ≤ (t124.size : Int) then ((some (([a2] : List Int) : List Int)).bind fun y125 => (if (t124.extract 0 ((Int.tmod (wrap64 ((Int.tmod a1 (t124.size : Int)) + (t124.size : Int))) (t124.size : Int)) : Int).toNat).size + (strOfNums y125).size ≤ 9223372036854775807 then (if 0 ≤ (wrap64 ((Int.tmod (wrap64 ((Int.tmod a1 (t124.size : Int)) + (t124.size : Int))) (t124.size : Int)) + 1)) then (if (wrap64 ((Int.tmod (wrap64 ((Int.tmod a1 (t124.size : Int)) + (t124.size : Int))) (t124.size : Int)) + 1)) ≤ (t124.size : Int) then (if ((t124.extract 0 ((Int.tmod (wrap64 ((Int.tmod a1 (t124.size : Int)) + (t124.size : Int))) (t124.size : Int)) : Int).toNat) ++ (strOfNums y125)).size + (t124.extract ((wrap64 ((Int.tmod (wrap64 ((Int.tmod a1 (t124.size : Int)) + (t124.size : Int))) (t124.size : Int)) + 1)) : Int).toNat t124.size).size ≤ 9223372036854775807 then (if (Go.bits .and .i64 a3 3) = 1 then (if (t124.extract 0 ((Int.tmod (wrap64 ((Int.tmod a1 (t124.size : Int)) + (t124.size : Int))) (t124.size : Int)) : Int).toNat).size + (t124.extract ((wrap64 ((Int.tmod (wrap64 ((Int.tmod a1 (t124.size : Int)) + (t124.size : Int))) (t124.size : Int)) + 1)) : Int).toNat t124.size).size ≤ 9223372036854775807 then (umlautlaw3_ElemReads.j0 k t124 ((t124.extract 0 ((Int.tmod (wrap64 ((Int.tmod a1 (t124.size : Int)) + (t124.size : Int))) (t124.size : Int)) : Int).toNat) ++ (t124.extract ((wrap64 ((Int.tmod (wrap64 ((Int.tmod a1 (t124.size : Int)) + (t124.size : Int))) (t124.size : Int)) + 1)) : Int).toNat t124.size))) else (none)) else (if (Go.bits .and .i64 a3 3) = 2 then ((some (([a2] : List Int) : List Int)).bind fun y128 => (if (t124.extract 0 ((Int.tmod (wrap64 ((Int.tmod a1 (t124.size : Int)) + (t124.size : Int))) (t124.size : Int)) : Int).toNat).size + (strOfNums y128).size ≤ 9223372036854775807 then (if ((t124.extract 0 ((Int.tmod (wrap64 ((Int.tmod a1 (t124.size : Int)) + (t124.size : Int))) (t124.size : Int)) : Int).toNat) ++ (strOfNums y128)).size + (t124.extract ((Int.tmod (wrap64 ((Int.tmod a1 (t124.size : Int)) + (t124.size : Int))) (t124.size : Int)) : Int).toNat t124.size).size ≤ 9223372036854775807 then (umlautlaw3_ElemReads.j0 k t124 (((t124.extract 0 ((Int.tmod (wrap64 ((Int.tmod a1 (t124.size : Int)) + (t124.size : Int))) (t124.size : Int)) : Int).toNat) ++ (strOfNums y128)) ++ (t124.extract ((Int.tmod (wrap64 ((Int.tmod a1 (t124.size : Int)) + (t124.size : Int))) (t124.size : Int)) : Int).toNat t124.size))) else (none)) else (none))) else (umlautlaw3_ElemReads.j0 k t124 (((t124.extract 0 ((Int.tmod (wrap64 ((Int.tmod a1 (t124.size : Int)) + (t124.size : Int))) (t124.size : Int)) : Int).toNat) ++ (strOfNums y125)) ++ (t124.extract ((wrap64 ((Int.tmod (wrap64 ((Int.tmod a1 (t124.size : Int)) + (t124.size : Int))) (t124.size : Int)) + 1)) : Int).toNat t124.size))))) else (none)) else (none)) else (none)) else (none))) else (none)) else (none)))) = some r := H
  have A5 := Aside0.mk A50
  clear A50
  replace H := Option.bind_eq_some_iff.mp H
  obtain ⟨t124, A60, H⟩ := H
  replace H : (if (t124.size : Int) = 0 then (none) else (if 0 ≤ (Int.tmod (wrap64 ((Int.tmod a1 (t124.size : Int)) + (t124.size : Int))) (t124.size : Int)) then (if (Int.tmod (wrap64 ((Int.tmod a1 (t124.size : Int)) + (t124.size : Int))) (t124.size : Int)) ≤ (t124.size : Int) then ((some (([a2] : List Int) : List Int)).bind fun y125 => (if (t124.extract 0 ((Int.tmod (wrap64 ((Int.tmod a1 (t124.size : Int)) + (t124.size : Int))) (t124.size : Int)) : Int).toNat).size + (strOfNums y125).size ≤ 9223372036854775807 then (if 0 ≤ (wrap64 ((Int.tmod (wrap64 ((Int.tmod a1 (t124.size : Int)) + (t124.size : Int))) (t124.size : Int)) + 1)) then (if (wrap64 ((Int.tmod (wrap64 ((Int.tmod a1 (t124.size : Int)) + (t124.size : Int))) (t124.size : Int)) + 1)) ≤ (t124.size : Int) then (if ((t124.extract 0 ((Int.tmod (wrap64 ((Int.tmod a1 (t124.size : Int)) + (t124.size : Int))) (t124.size : Int)) : Int).toNat) ++ (strOfNums y125)).size + (t124.extract ((wrap64 ((Int.tmod (wrap64 ((Int.tmod a1 (t124.size : Int)) + (t124.size : Int))) (t124.size : Int)) + 1)) : Int).toNat t124.size).size ≤ 9223372036854775807 then (if (Go.bits .and .i64 a3 3) = 1 then (if (t124.extract 0 ((Int.tmod (wrap64 ((Int.tmod a1 (t124.size : Int)) + (t124.size : Int))) (t124.size : Int)) : Int).toNat).size + (t124.extract ((wrap64 ((Int.tmod (wrap64 ((Int.tmod a1 (t124.size : Int)) + (t124.size : Int))) (t124.size : Int)) + 1)) : Int).toNat t124.size).size ≤ 9223372036854775807 then (umlautlaw3_ElemReads.j0 k t124 ((t124.extract 0 ((Int.tmod (wrap64 ((Int.tmod a1 (t124.size : Int)) + (t124.size : Int))) (t124.size : Int)) : Int).toNat) ++ (t124.extract ((wrap64 ((Int.tmod (wrap64 ((Int.tmod a1 (t124.size : Int)) + (t124.size : Int))) (t124.size : Int)) + 1)) : Int).toNat t124.size))) else (none)) else (if (Go.bits .and .i64 a3 3) = 2 then ((some (([a2] : List Int) : List Int)).bind fun y128 => (if (t124.extract 0 ((Int.tmod (wrap64 ((Int.tmod a1 (t124.size : Int)) + (t124.size : Int))) (t124.size : Int)) : Int).toNat).size + (strOfNums y128).size ≤ 9223372036854775807 then (if ((t124.extract 0 ((Int.tmod (wrap64 ((Int.tmod a1 (t124.size : Int)) + (t124.size : Int))) (t124.size : Int)) : Int).toNat) ++ (strOfNums y128)).size + (t124.extract ((Int.tmod (wrap64 ((Int.tmod a1 (t124.size : Int)) + (t124.size : Int))) (t124.size : Int)) : Int).toNat t124.size).size ≤ 9223372036854775807 then (umlautlaw3_ElemReads.j0 k t124 (((t124.extract 0 ((Int.tmod (wrap64 ((Int.tmod a1 (t124.size : Int)) + (t124.size : Int))) (t124.size : Int)) : Int).toNat) ++ (strOfNums y128)) ++ (t124.extract ((Int.tmod (wrap64 ((Int.tmod a1 (t124.size : Int)) + (t124.size : Int))) (t124.size : Int)) : Int).toNat t124.size))) else (none)) else (none))) else (umlautlaw3_ElemReads.j0 k t124 (((t124.extract 0 ((Int.tmod (wrap64 ((Int.tmod a1 (t124.size : Int)) + (t124.size : Int))) (t124.size : Int)) : Int).toNat) ++ (strOfNums y125)) ++ (t124.extract ((wrap64 ((Int.tmod (wrap64 ((Int.tmod a1 (t124.size : Int)) + (t124.size : Int))) (t124.size : Int)) + 1)) : Int).toNat t124.size))))) else (none)) else (none)) else (none)) else (none))) else (none)) else (none))) = some r := H
  have A6 := Aside0.mk A60
  clear A60
  by_cases c7 : (t124.size : Int) = 0
  · rw [if_pos c7] at H
    exact absurd H (by simp)
  · rw [if_neg c7] at H
    have c7b0 : ((t124.size : Int) == 0) = false := beq_eq_false_iff_ne.mpr c7
    have c7b1 : ((t124.size : Int) != 0) = true := bne_iff_ne.mpr c7
    obtain ⟨ji8, hji8⟩ : ∃ j_ : Int, (Int.tmod (wrap64 ((Int.tmod a1 (t124.size : Int)) + (t124.size : Int))) (t124.size : Int)) = j_ := ⟨_, rfl⟩
    replace H : (if 0 ≤ (ji8) then (if (ji8) ≤ (t124.size : Int) then ((some (([a2] : List Int) : List Int)).bind fun y125 => (if (t124.extract 0 ((ji8) : Int).toNat).size + (strOfNums y125).size ≤ 9223372036854775807 then (if 0 ≤ (wrap64 ((ji8) + 1)) then (if (wrap64 ((ji8) + 1)) ≤ (t124.size : Int) then (if ((t124.extract 0 ((ji8) : Int).toNat) ++ (strOfNums y125)).size + (t124.extract ((wrap64 ((ji8) + 1)) : Int).toNat t124.size).size ≤ 9223372036854775807 then (if (Go.bits .and .i64 a3 3) = 1 then (if (t124.extract 0 ((ji8) : Int).toNat).size + (t124.extract ((wrap64 ((ji8) + 1)) : Int).toNat t124.size).size ≤ 9223372036854775807 then (umlautlaw3_ElemReads.j0 k t124 ((t124.extract 0 ((ji8) : Int).toNat) ++ (t124.extract ((wrap64 ((ji8) + 1)) : Int).toNat t124.size))) else (none)) else (if (Go.bits .and .i64 a3 3) = 2 then ((some (([a2] : List Int) : List Int)).bind fun y128 => (if (t124.extract 0 ((ji8) : Int).toNat).size + (strOfNums y128).size ≤ 9223372036854775807 then (if ((t124.extract 0 ((ji8) : Int).toNat) ++ (strOfNums y128)).size + (t124.extract ((ji8) : Int).toNat t124.size).size ≤ 9223372036854775807 then (umlautlaw3_ElemReads.j0 k t124 (((t124.extract 0 ((ji8) : Int).toNat) ++ (strOfNums y128)) ++ (t124.extract ((ji8) : Int).toNat t124.size))) else (none)) else (none))) else (umlautlaw3_ElemReads.j0 k t124 (((t124.extract 0 ((ji8) : Int).toNat) ++ (strOfNums y125)) ++ (t124.extract ((wrap64 ((ji8) + 1)) : Int).toNat t124.size))))) else (none)) else (none)) else (none)) else (none))) else (none)) else (none)) = some r := by first | (rw [hji8] at H; exact H) | (simp only [hji8] at H ⊢; exact H)
    (try rw [hji8] at A5)
    (try rw [hji8] at A6)
    by_cases c9 : 0 ≤ (ji8)
    · rw [if_pos c9] at H
      have c9b0 := eq_true c9
      have c9b1 : decide (0 ≤ (ji8)) = true := decide_eq_true c9
      clear c9
      by_cases c10 : (ji8) ≤ (t124.size : Int)
      · rw [if_pos c10] at H
        have c10b0 := eq_true c10
        have c10b1 : decide ((ji8) ≤ (t124.size : Int)) = true := decide_eq_true c10
        clear c10
        obtain ⟨y125, hy125⟩ : ∃ y_ : List Int, y_ = (([a2] : List Int)) := ⟨_, rfl⟩
        replace H : (if (t124.extract 0 ((ji8) : Int).toNat).size + (strOfNums y125).size ≤ 9223372036854775807 then (if 0 ≤ (wrap64 ((ji8) + 1)) then (if (wrap64 ((ji8) + 1)) ≤ (t124.size : Int) then (if ((t124.extract 0 ((ji8) : Int).toNat) ++ (strOfNums y125)).size + (t124.extract ((wrap64 ((ji8) + 1)) : Int).toNat t124.size).size ≤ 9223372036854775807 then (if (Go.bits .and .i64 a3 3) = 1 then (if (t124.extract 0 ((ji8) : Int).toNat).size + (t124.extract ((wrap64 ((ji8) + 1)) : Int).toNat t124.size).size ≤ 9223372036854775807 then (umlautlaw3_ElemReads.j0 k t124 ((t124.extract 0 ((ji8) : Int).toNat) ++ (t124.extract ((wrap64 ((ji8) + 1)) : Int).toNat t124.size))) else (none)) else (if (Go.bits .and .i64 a3 3) = 2 then ((some (([a2] : List Int) : List Int)).bind fun y128 => (if (t124.extract 0 ((ji8) : Int).toNat).size + (strOfNums y128).size ≤ 9223372036854775807 then (if ((t124.extract 0 ((ji8) : Int).toNat) ++ (strOfNums y128)).size + (t124.extract ((ji8) : Int).toNat t124.size).size ≤ 9223372036854775807 then (umlautlaw3_ElemReads.j0 k t124 (((t124.extract 0 ((ji8) : Int).toNat) ++ (strOfNums y128)) ++ (t124.extract ((ji8) : Int).toNat t124.size))) else (none)) else (none))) else (umlautlaw3_ElemReads.j0 k t124 (((t124.extract 0 ((ji8) : Int).toNat) ++ (strOfNums y125)) ++ (t124.extract ((wrap64 ((ji8) + 1)) : Int).toNat t124.size))))) else (none)) else (none)) else (none)) else (none)) = some r := by first | (rw [hy125]; with_reducible exact H) | (have H2_ := (Option.bind_some _ _).symm.trans H; rw [hy125]; with_reducible exact H2_) | (have H2_ := (Option.bind_some _ _).symm.trans H; with_reducible exact H2_) | with_reducible exact H | (rw [hy125]; exact H) | exact H
        have Ny125 := Aside0.mk hy125
        clear hy125
        by_cases c11 : (t124.extract 0 ((ji8) : Int).toNat).size + (strOfNums y125).size ≤ 9223372036854775807
        · rw [if_pos c11] at H
          have c11b0 := eq_true c11
          have c11b1 : decide ((t124.extract 0 ((ji8) : Int).toNat).size + (strOfNums y125).size ≤ 9223372036854775807) = true := decide_eq_true c11
          try have c11b2 : (9223372036854775807 < (t124.extract 0 ((ji8) : Int).toNat).size + (strOfNums y125).size) = False := eq_false (Nat.not_lt.2 c11)
          try have c11b4 : (9223372036854775807 < ji8.toNat + (strOfNums y125).size) = False := by (have z_ := c11b2; simp only [ByteArray.size_append, ByteArray.size_extract] at z_; (try rw [Nat.min_eq_left (by have q_ := of_decide_eq_true ‹decide ((ji8) ≤ (t124.size : Int)) = true›; omega)] at z_); simp only [Nat.sub_zero, Nat.min_self] at z_; exact z_)
          obtain ⟨ji12, hji12⟩ : ∃ j_ : Int, (wrap64 ((ji8) + 1)) = j_ := ⟨_, rfl⟩
          replace H : (if 0 ≤ (ji12) then (if (ji12) ≤ (t124.size : Int) then (if ((t124.extract 0 ((ji8) : Int).toNat) ++ (strOfNums y125)).size + (t124.extract ((ji12) : Int).toNat t124.size).size ≤ 9223372036854775807 then (if (Go.bits .and .i64 a3 3) = 1 then (if (t124.extract 0 ((ji8) : Int).toNat).size + (t124.extract ((ji12) : Int).toNat t124.size).size ≤ 9223372036854775807 then (umlautlaw3_ElemReads.j0 k t124 ((t124.extract 0 ((ji8) : Int).toNat) ++ (t124.extract ((ji12) : Int).toNat t124.size))) else (none)) else (if (Go.bits .and .i64 a3 3) = 2 then ((some (([a2] : List Int) : List Int)).bind fun y128 => (if (t124.extract 0 ((ji8) : Int).toNat).size + (strOfNums y128).size ≤ 9223372036854775807 then (if ((t124.extract 0 ((ji8) : Int).toNat) ++ (strOfNums y128)).size + (t124.extract ((ji8) : Int).toNat t124.size).size ≤ 9223372036854775807 then (umlautlaw3_ElemReads.j0 k t124 (((t124.extract 0 ((ji8) : Int).toNat) ++ (strOfNums y128)) ++ (t124.extract ((ji8) : Int).toNat t124.size))) else (none)) else (none))) else (umlautlaw3_ElemReads.j0 k t124 (((t124.extract 0 ((ji8) : Int).toNat) ++ (strOfNums y125)) ++ (t124.extract ((ji12) : Int).toNat t124.size))))) else (none)) else (none)) else (none)) = some r := by first | (rw [hji12] at H; exact H) | (simp only [hji12] at H ⊢; exact H)
          (try rw [hji12] at A5)
          (try rw [hji12] at A6)
          have hji12w : (IntKind.i64.wrap ((ji8) + 1)) = ji12 := (i64_w _).trans hji12
          by_cases c13 : 0 ≤ (ji12)
          · rw [if_pos c13] at H
            have c13b0 := eq_true c13
            have c13b1 : decide (0 ≤ (ji12)) = true := decide_eq_true c13
            clear c13
            by_cases c14 : (ji12) ≤ (t124.size : Int)
            · rw [if_pos c14] at H
              have c14b0 := eq_true c14
              have c14b1 : decide ((ji12) ≤ (t124.size : Int)) = true := decide_eq_true c14
              clear c14
              by_cases c15 : ((t124.extract 0 ((ji8) : Int).toNat) ++ (strOfNums y125)).size + (t124.extract ((ji12) : Int).toNat t124.size).size ≤ 9223372036854775807
              · rw [if_pos c15] at H
                have c15b0 := eq_true c15
                have c15b1 : decide (((t124.extract 0 ((ji8) : Int).toNat) ++ (strOfNums y125)).size + (t124.extract ((ji12) : Int).toNat t124.size).size ≤ 9223372036854775807) = true := decide_eq_true c15
                try have c15b2 : (9223372036854775807 < ((t124.extract 0 ((ji8) : Int).toNat) ++ (strOfNums y125)).size + (t124.extract ((ji12) : Int).toNat t124.size).size) = False := eq_false (Nat.not_lt.2 c15)
                try have c15b3 : (9223372036854775807 < (t124.extract 0 ((ji8) : Int).toNat).size + (strOfNums y125).size + (t124.extract ((ji12) : Int).toNat t124.size).size) = False := by (have z_ := c15b2; simp only [ByteArray.size_append] at z_; exact z_)
                try have c15b4 : (9223372036854775807 < ji8.toNat + (strOfNums y125).size + (t124.size - ji12.toNat)) = False := by (have z_ := c15b2; simp only [ByteArray.size_append, ByteArray.size_extract] at z_; (try rw [Nat.min_eq_left (by have q_ := of_decide_eq_true ‹decide ((ji8) ≤ (t124.size : Int)) = true›; omega)] at z_); simp only [Nat.sub_zero, Nat.min_self] at z_; exact z_)
                have HC16 := Aside0.mk H
                clear H
                go_enter Tryd.func5, Tryd.ntmps5
                try go_wp2_with (first | ((with_reducible refine gate_callee (f := 8) rfl ?_); refine goesL_ (some 15) rfl rfl Tryd.func8 (by kernel_rfl) rfl #[.int .u32 a0] rfl (by (try simp only [List.map_toArray, List.map_cons, List.map_nil]); first | done | rfl | (simp only [List.length_drop, List.length_take]; rfl)) ?_; (with_reducible refine (XA.umlautref5_Of.calls a0 t120 t121 t122 t123 _ A5.out).mono ?_); rintro e w17 ⟨rfl, hb⟩; refine ⟨_, rfl, ?_⟩; have n0_ := Aside0.mk (below_step (by repeat (first | (with_reducible first | exact HB.out | apply below_alloc | apply pw_below_drewN | apply below_drew1) | exact HB.out)) hb); clear HB; have HB := n0_; clear n0_; (try clear hb); (try clear hb2); (try clear hk); (try clear hi)) | ((with_reducible refine gate_callee (f := 17) rfl ?_); refine goesL_ (some 16) rfl rfl Tryd.func17 (by kernel_rfl) rfl #[.agg #[.int .i64 t120, .int .i64 t121, .int .i64 t122, .bool t123]] rfl (by (try simp only [List.map_toArray, List.map_cons, List.map_nil]); first | done | rfl | (simp only [List.length_drop, List.length_take]; rfl)) ?_; (with_reducible refine (XA.umlautref5_Elem_Text.calls k t120 t121 t122 t123 t124 _ A6.out).mono ?_); rintro e w18 ⟨rfl, hb⟩; refine ⟨_, rfl, ?_⟩; have n0_ := Aside0.mk (below_step (by repeat (first | (with_reducible first | exact HB.out | apply below_alloc | apply pw_below_drewN | apply below_drew1) | exact HB.out)) hb); clear HB; have HB := n0_; clear n0_; (try clear hb); (try clear hb2); (try clear hk); (try clear hi)))
                have n0_ := Aside0.mk (below_drew1 HB.out)
                clear HB
                have HB := n0_
                clear n0_
                refine start_ (n := 13) (S := fun w' => True) (ds := []) #[false, false, false, false, false, false, false, false, false, false, false, false, false] (by kernel_rfl) rfl rfl trivial (fun hHeld => ?_); refine with_tabW umlautlaw3_ElemReads.tab3 umlautlaw3_ElemReads.bits3 (fun HT_ HW_ => ?_)
                generalize w18.drew = w19 at HB hHeld ⊢
                refine pure_ (i := 0) (N := some 27) (v := ?_) (a' := ?_) #[true, false, false, false, false, false, false, false, false, false, false, false, false] rfl rfl (any_of HT_.out (by kernel_rfl)) (fun _ _ _ h => h) (Or.inl ⟨by rfl, ?_⟩) ?_ ?_
                rotate_left
                · intro w'
                  go_simp
                  with_reducible rfl
                rotate_left
                · simp only [Act.put, List.setIfInBounds_toArray, List.set_cons_zero, List.set_cons_succ, i64_w, i32_w]
                  rfl
                refine pure_ (i := 1) (N := some 28) (v := ?_) (a' := ?_) #[true, true, false, false, false, false, false, false, false, false, false, false, false] rfl rfl (any_of HT_.out (by kernel_rfl)) (fun _ _ _ h => h) (Or.inl ⟨by rfl, ?_⟩) ?_ ?_
                rotate_left
                · intro w'
                  go_simp
                  with_reducible rfl
                rotate_left
                · simp only [Act.put, List.setIfInBounds_toArray, List.set_cons_zero, List.set_cons_succ, i64_w, i32_w]
                  rfl
                refine pure_ (i := 2) (N := some 29) (v := ?_) (a' := ?_) #[true, true, true, false, false, false, false, false, false, false, false, false, false] rfl rfl (any_of HT_.out (by kernel_rfl)) (fun _ _ _ h => h) (Or.inl ⟨by rfl, ?_⟩) ?_ ?_
                rotate_left
                · intro w'
                  go_simp
                  with_reducible rfl
                rotate_left
                · simp only [Act.put, List.setIfInBounds_toArray, List.set_cons_zero, List.set_cons_succ, i64_w, i32_w]
                  rfl
                refine pure_ (i := 3) (N := some 30) (v := ?_) (a' := ?_) #[true, true, true, true, false, false, false, false, false, false, false, false, false] rfl rfl (any_of HT_.out (by kernel_rfl)) (fun _ _ _ h => h) (Or.inl ⟨by rfl, ?_⟩) ?_ ?_
                rotate_left
                · intro w'
                  go_simp
                  with_reducible rfl
                rotate_left
                · simp only [Act.put, List.setIfInBounds_toArray, List.set_cons_zero, List.set_cons_succ, i64_w, i32_w]
                  rfl
                refine pure_ (i := 7) (N := some 34) (v := ?_) (a' := ?_) #[true, true, true, true, false, false, false, true, false, false, false, false, false] rfl rfl (any_of HT_.out (by kernel_rfl)) (fun _ _ _ h => h) (Or.inl ⟨by rfl, ?_⟩) ?_ ?_
                rotate_left
                · intro w'
                  go_simp
                  with_reducible rfl
                rotate_left
                · simp only [Act.put, List.setIfInBounds_toArray, List.set_cons_zero, List.set_cons_succ, i64_w, i32_w]
                  rfl
                refine pure_ (i := 8) (N := some 35) (v := ?_) (a' := ?_) #[true, true, true, true, false, false, false, true, true, false, false, false, false] rfl rfl (any_of HT_.out (by kernel_rfl)) (fun _ _ _ h => h) (Or.inl ⟨by rfl, ?_⟩) ?_ ?_
                rotate_left
                · intro w'
                  go_simp
                  with_reducible rfl
                rotate_left
                · simp only [Act.put, List.setIfInBounds_toArray, List.set_cons_zero, List.set_cons_succ, i64_w, i32_w]
                  rfl
                refine pure_ (i := 9) (N := some 36) (v := ?_) (a' := ?_) #[true, true, true, true, false, false, false, true, true, true, false, false, false] rfl rfl (any_of HT_.out (by kernel_rfl)) (fun _ _ _ h => h) (Or.inl ⟨by rfl, ?_⟩) ?_ ?_
                rotate_left
                · intro w'
                  go_simp
                  with_reducible rfl
                rotate_left
                · simp only [Act.put, List.setIfInBounds_toArray, List.set_cons_zero, List.set_cons_succ, i64_w, i32_w]
                  rfl
                refine pure_ (i := 10) (N := some 37) (v := ?_) (a' := ?_) #[true, true, true, true, false, false, false, true, true, true, true, false, false] rfl rfl (any_of HT_.out (by kernel_rfl)) (fun _ _ _ h => h) (Or.inl ⟨by rfl, ?_⟩) ?_ ?_
                rotate_left
                · intro w'
                  go_simp
                  with_reducible rfl
                rotate_left
                · simp only [Act.put, List.setIfInBounds_toArray, List.set_cons_zero, List.set_cons_succ, i64_w, i32_w]
                  rfl
                refine one_ (i := 4) (N := some 31) #[true, true, true, true, true, false, false, true, true, true, true, false, false] rfl rfl (one_of HT_.out (by kernel_rfl)) (by decide) (fun K hK => ?_)
                refine Kd.R_lit_step (Kd.int .u8) _ 5 ?hg (N := 31) ?hd (xs := ([a2] : List Int)) (inner := [.int .u8 a2]) (ok := fun _ => True) (okp := fun _ => True) ?hr ?hp (fun _ hk => hk) trivial (Below.refl _ _) (Nat.le_refl _) (by simp) ?_; (case hd => rfl); (case hg => rfl); (case hr => first | (go_simp; done) | (go_simp; rfl)); (case hp => exact (Reps.one (show Kd.M (Kd.int .u8) _ _ _ a2 [.int .u8 a2] from rfl) (Reps.none _ _)))
                intro v126 w20 ho21 hb hg_ hnew_
                clear hg_ hnew_
                (first | rw [← Ny125.out] at ho21 | (simp only [Int.reduceToNat] at ho21; rw [← Ny125.out] at ho21))
                have n0_ := Aside0.mk (Kd.R_lower ho21 (below_size (by repeat (first | (with_reducible first | exact HB.out | apply below_alloc | apply pw_below_drewN | apply below_drew1) | exact HB.out))))
                have n1_ := Aside0.mk (below_step (by repeat (first | (with_reducible first | exact HB.out | apply below_alloc | apply pw_below_drewN | apply below_drew1) | exact HB.out)) hb)
                clear HB
                have HO127 := n0_
                have HB := n1_
                clear n0_ n1_
                clear hb ho21
                refine hK.out _ _ trivial (fun hHeld => ?_)
                clear hK K
                refine norm_ (a' := ?_) ?_ ?_
                rotate_left
                · show Act.put _ (some 31) _ = _
                  simp only [Act.put, List.setIfInBounds_toArray, List.set_cons_zero, List.set_cons_succ, i64_w, i32_w]
                  rfl
                refine one_ (i := 5) (N := some 32) #[true, true, true, true, true, true, false, true, true, true, true, false, false] rfl rfl (one_of HT_.out (by kernel_rfl)) (by decide) (fun K hK => ?_)
                have hcv22 := own_string (P := Tryd.prog) Tryd.underlying37 Tryd.underlying5 Tryd.underlying9 (Kd.own_of_R HO127.out)
                refine value_ (w1 := ?_) (v := ?_) (by rfl) rfl ?_ ?_
                rotate_left 2
                · go_simp
                  constructor
                  · rfl
                  · rfl
                clear hcv22
                refine hK.out _ _ trivial (fun hHeld => ?_)
                clear hK K
                refine norm_ (a' := ?_) ?_ ?_
                rotate_left
                · show Act.put _ (some 32) _ = _
                  simp only [Act.put, List.setIfInBounds_toArray, List.set_cons_zero, List.set_cons_succ, i64_w, i32_w]
                  rfl
                refine pure_ (i := 6) (N := some 33) (v := ?_) (a' := ?_) #[true, true, true, true, true, true, true, true, true, true, true, false, false] rfl rfl (any_of HT_.out (by kernel_rfl)) (fun _ _ _ h => h) (Or.inl ⟨by rfl, ?_⟩) ?_ ?_
                rotate_left
                · intro w'
                  go_simp
                  with_reducible rfl
                rotate_left
                · simp only [Act.put, List.setIfInBounds_toArray, List.set_cons_zero, List.set_cons_succ, i64_w, i32_w]
                  rfl
                refine pure_ (i := 11) (N := some 38) (v := ?_) (a' := ?_) #[true, true, true, true, true, true, true, true, true, true, true, true, false] rfl rfl (any_of HT_.out (by kernel_rfl)) (fun _ _ _ h => h) (Or.inl ⟨by rfl, ?_⟩) ?_ ?_
                rotate_left
                · intro w'
                  go_simp
                  with_reducible rfl
                rotate_left
                · simp only [Act.put, List.setIfInBounds_toArray, List.set_cons_zero, List.set_cons_succ, i64_w, i32_w]
                  rfl
                refine pure_ (i := 12) (N := some 11) (v := ?_) (a' := ?_) #[true, true, true, true, true, true, true, true, true, true, true, true, true] rfl rfl (any_of HT_.out (by kernel_rfl)) (fun _ _ _ h => h) (Or.inl ⟨by rfl, ?_⟩) ?_ ?_
                rotate_left
                · intro w'
                  go_simp
                  with_reducible rfl
                rotate_left
                · simp only [Act.put, List.setIfInBounds_toArray, List.set_cons_zero, List.set_cons_succ, i64_w, i32_w]
                  rfl
                refine done_ (done_of HT_.out (by kernel_rfl)) ?_
                go_upto_block 0 with (fail)
                go_cut [11] (fun v11 wc => ∃ (kq : Nat) (x11_15 : ByteArray), v11 = .string x11_15 ∧ Aside0 (umlautlaw3_ElemReads.j0 kq t124 x11_15 = some r) ∧ Aside0 (kq ≤ k) ∧ Aside0 (Below w.heap.size w wc))
                case first =>
                  have H := HC16.out
                  clear HC16
                  by_cases c23 : (Go.bits .and .i64 a3 3) = 1
                  · rw [if_pos c23] at H
                    have c23b0 : ((Go.bits .and .i64 a3 3) == 1) = true := beq_iff_eq.mpr c23
                    have c23b1 : ((Go.bits .and .i64 a3 3) != 1) = false := bne_eq_false_iff_eq.mpr c23
                    clear c23
                    (first | rw [c23b0] | (simp only [i64_w, i32_w]; rw [c23b0]) | skip)
                    have c24b0 := eq_true (of_decide_eq_true (by first | (with_reducible assumption) | assumption) : 0 ≤ (ji8))
                    have c25b0 := eq_true (of_decide_eq_true (by first | (with_reducible assumption) | assumption) : (ji8) ≤ (t124.size : Int))
                    have c26b0 := eq_true (of_decide_eq_true (by first | (with_reducible assumption) | assumption) : 0 ≤ (ji12))
                    have c27b0 := eq_true (of_decide_eq_true (by first | (with_reducible assumption) | assumption) : (ji12) ≤ (t124.size : Int))
                    by_cases c28 : (t124.extract 0 ((ji8) : Int).toNat).size + (t124.extract ((ji12) : Int).toNat t124.size).size ≤ 9223372036854775807
                    · rw [if_pos c28] at H
                      have c28b0 := eq_true c28
                      have c28b1 : decide ((t124.extract 0 ((ji8) : Int).toNat).size + (t124.extract ((ji12) : Int).toNat t124.size).size ≤ 9223372036854775807) = true := decide_eq_true c28
                      try have c28b2 : (9223372036854775807 < (t124.extract 0 ((ji8) : Int).toNat).size + (t124.extract ((ji12) : Int).toNat t124.size).size) = False := eq_false (Nat.not_lt.2 c28)
                      try have c28b4 : (9223372036854775807 < ji8.toNat + (t124.size - ji12.toNat)) = False := by (have z_ := c28b2; simp only [ByteArray.size_append, ByteArray.size_extract] at z_; (try rw [Nat.min_eq_left (by have q_ := of_decide_eq_true ‹decide ((ji8) ≤ (t124.size : Int)) = true›; omega)] at z_); simp only [Nat.sub_zero, Nat.min_self] at z_; exact z_)
                      have H' := Aside0.mk H
                      clear H
                      try go_wp2
                      have n0_ := Aside0.mk (Kd.R_drew HO127.out)
                      have n1_ := Aside0.mk (below_drew1 HB.out)
                      clear HO127
                      clear HB
                      have HO127 := n0_
                      have HB := n1_
                      clear n0_ n1_
                      refine start_ (n := 9) (S := fun w' => True) (ds := []) #[false, false, false, false, false, false, false, false, false] (by kernel_rfl) rfl rfl trivial (fun hHeld => ?_); refine with_tabW umlautlaw3_ElemReads.tab6 umlautlaw3_ElemReads.bits6 (fun HT_ HW_ => ?_)
                      generalize w20.drew = w29 at HO127 HB hHeld ⊢
                      refine pure_ (i := 0) (N := some 43) (v := ?_) (a' := ?_) #[true, false, false, false, false, false, false, false, false] rfl rfl (any_of HT_.out (by kernel_rfl)) (fun _ _ _ h => h) (Or.inl ⟨by rfl, ?_⟩) ?_ ?_
                      rotate_left
                      · intro w'
                        go_simp
                        with_reducible rfl
                      rotate_left
                      · simp only [Act.put, List.setIfInBounds_toArray, List.set_cons_zero, List.set_cons_succ, i64_w, i32_w]
                        rfl
                      refine pure_ (i := 1) (N := some 44) (v := ?_) (a' := ?_) #[true, true, false, false, false, false, false, false, false] rfl rfl (any_of HT_.out (by kernel_rfl)) (fun _ _ _ h => h) (Or.inl ⟨by rfl, ?_⟩) ?_ ?_
                      rotate_left
                      · intro w'
                        go_simp
                        with_reducible rfl
                      rotate_left
                      · simp only [Act.put, List.setIfInBounds_toArray, List.set_cons_zero, List.set_cons_succ, i64_w, i32_w]
                        rfl
                      refine pure_ (i := 2) (N := some 45) (v := ?_) (a' := ?_) #[true, true, true, false, false, false, false, false, false] rfl rfl (any_of HT_.out (by kernel_rfl)) (fun _ _ _ h => h) (Or.inl ⟨by rfl, ?_⟩) ?_ ?_
                      rotate_left
                      · intro w'
                        go_simp
                        with_reducible rfl
                      rotate_left
                      · simp only [Act.put, List.setIfInBounds_toArray, List.set_cons_zero, List.set_cons_succ, i64_w, i32_w]
                        rfl
                      refine pure_ (i := 3) (N := some 46) (v := ?_) (a' := ?_) #[true, true, true, true, false, false, false, false, false] rfl rfl (any_of HT_.out (by kernel_rfl)) (fun _ _ _ h => h) (Or.inl ⟨by rfl, ?_⟩) ?_ ?_
                      rotate_left
                      · intro w'
                        go_simp
                        with_reducible rfl
                      rotate_left
                      · simp only [Act.put, List.setIfInBounds_toArray, List.set_cons_zero, List.set_cons_succ, i64_w, i32_w]
                        rfl
                      refine pure_ (i := 4) (N := some 47) (v := ?_) (a' := ?_) #[true, true, true, true, true, false, false, false, false] rfl rfl (any_of HT_.out (by kernel_rfl)) (fun _ _ _ h => h) (Or.inl ⟨by rfl, ?_⟩) ?_ ?_
                      rotate_left
                      · intro w'
                        go_simp
                        with_reducible rfl
                      rotate_left
                      · simp only [Act.put, List.setIfInBounds_toArray, List.set_cons_zero, List.set_cons_succ, i64_w, i32_w]
                        rfl
                      refine pure_ (i := 5) (N := some 48) (v := ?_) (a' := ?_) #[true, true, true, true, true, true, false, false, false] rfl rfl (any_of HT_.out (by kernel_rfl)) (fun _ _ _ h => h) (Or.inl ⟨by rfl, ?_⟩) ?_ ?_
                      rotate_left
                      · intro w'
                        go_simp
                        with_reducible rfl
                      rotate_left
                      · simp only [Act.put, List.setIfInBounds_toArray, List.set_cons_zero, List.set_cons_succ, i64_w, i32_w]
                        rfl
                      refine pure_ (i := 6) (N := some 49) (v := ?_) (a' := ?_) #[true, true, true, true, true, true, true, false, false] rfl rfl (any_of HT_.out (by kernel_rfl)) (fun _ _ _ h => h) (Or.inl ⟨by rfl, ?_⟩) ?_ ?_
                      rotate_left
                      · intro w'
                        go_simp
                        with_reducible rfl
                      rotate_left
                      · simp only [Act.put, List.setIfInBounds_toArray, List.set_cons_zero, List.set_cons_succ, i64_w, i32_w]
                        rfl
                      refine pure_ (i := 7) (N := some 50) (v := ?_) (a' := ?_) #[true, true, true, true, true, true, true, true, false] rfl rfl (any_of HT_.out (by kernel_rfl)) (fun _ _ _ h => h) (Or.inl ⟨by rfl, ?_⟩) ?_ ?_
                      rotate_left
                      · intro w'
                        go_simp
                        with_reducible rfl
                      rotate_left
                      · simp only [Act.put, List.setIfInBounds_toArray, List.set_cons_zero, List.set_cons_succ, i64_w, i32_w]
                        rfl
                      refine pure_ (i := 8) (N := some 11) (v := ?_) (a' := ?_) #[true, true, true, true, true, true, true, true, true] rfl rfl (any_of HT_.out (by kernel_rfl)) (fun _ _ _ h => h) (Or.inl ⟨by rfl, ?_⟩) ?_ ?_
                      rotate_left
                      · intro w'
                        go_simp
                        with_reducible rfl
                      rotate_left
                      · simp only [Act.put, List.setIfInBounds_toArray, List.set_cons_zero, List.set_cons_succ, i64_w, i32_w]
                        rfl
                      refine done_ (done_of HT_.out (by kernel_rfl)) ?_
                      try go_wp2
                      go_meet
                      case rel => exact ⟨_, ((t124.extract 0 ((ji8) : Int).toNat) ++ (t124.extract ((ji12) : Int).toNat t124.size)), (by first | rfl | (simp; done) | (simp only [← hji8, ← hji12] <;> (first | rfl | simp)) | (simp [*]; done)), H', ⟨by first | omega | exact Nat.le_refl _⟩, ⟨by repeat (first | (with_reducible first | exact HB.out | apply below_alloc | apply pw_below_drewN | apply below_drew1) | exact HB.out)⟩⟩
                    · rw [if_neg c28] at H
                      exact absurd H (by simp)
                  · rw [if_neg c23] at H
                    have c23b0 : ((Go.bits .and .i64 a3 3) == 1) = false := beq_eq_false_iff_ne.mpr c23
                    have c23b1 : ((Go.bits .and .i64 a3 3) != 1) = true := bne_iff_ne.mpr c23
                    (first | rw [c23b0] | (simp only [i64_w, i32_w]; rw [c23b0]) | skip)
                    by_cases c30 : (Go.bits .and .i64 a3 3) = 2
                    · rw [if_pos c30] at H
                      have c30b0 : ((Go.bits .and .i64 a3 3) == 2) = true := beq_iff_eq.mpr c30
                      have c30b1 : ((Go.bits .and .i64 a3 3) != 2) = false := bne_eq_false_iff_eq.mpr c30
                      clear c30
                      have c31b0 := eq_true (of_decide_eq_true (by first | (with_reducible assumption) | assumption) : 0 ≤ (ji8))
                      have c32b0 := eq_true (of_decide_eq_true (by first | (with_reducible assumption) | assumption) : (ji8) ≤ (t124.size : Int))
                      obtain ⟨y128, hy128⟩ : ∃ y_ : List Int, y_ = (([a2] : List Int)) := ⟨_, rfl⟩
                      replace H : (if (t124.extract 0 ((ji8) : Int).toNat).size + (strOfNums y128).size ≤ 9223372036854775807 then (if ((t124.extract 0 ((ji8) : Int).toNat) ++ (strOfNums y128)).size + (t124.extract ((ji8) : Int).toNat t124.size).size ≤ 9223372036854775807 then (umlautlaw3_ElemReads.j0 k t124 (((t124.extract 0 ((ji8) : Int).toNat) ++ (strOfNums y128)) ++ (t124.extract ((ji8) : Int).toNat t124.size))) else (none)) else (none)) = some r := by first | (rw [hy128]; with_reducible exact H) | (have H2_ := (Option.bind_some _ _).symm.trans H; rw [hy128]; with_reducible exact H2_) | (have H2_ := (Option.bind_some _ _).symm.trans H; with_reducible exact H2_) | with_reducible exact H | (rw [hy128]; exact H) | exact H
                      have Ny128 := Aside0.mk hy128
                      clear hy128
                      by_cases c33 : (t124.extract 0 ((ji8) : Int).toNat).size + (strOfNums y128).size ≤ 9223372036854775807
                      · rw [if_pos c33] at H
                        have c33b0 := eq_true c33
                        have c33b1 : decide ((t124.extract 0 ((ji8) : Int).toNat).size + (strOfNums y128).size ≤ 9223372036854775807) = true := decide_eq_true c33
                        try have c33b2 : (9223372036854775807 < (t124.extract 0 ((ji8) : Int).toNat).size + (strOfNums y128).size) = False := eq_false (Nat.not_lt.2 c33)
                        try have c33b4 : (9223372036854775807 < ji8.toNat + (strOfNums y128).size) = False := by (have z_ := c33b2; simp only [ByteArray.size_append, ByteArray.size_extract] at z_; (try rw [Nat.min_eq_left (by have q_ := of_decide_eq_true ‹decide ((ji8) ≤ (t124.size : Int)) = true›; omega)] at z_); simp only [Nat.sub_zero, Nat.min_self] at z_; exact z_)
                        have c34b0 := eq_true (of_decide_eq_true (by first | (with_reducible assumption) | assumption) : 0 ≤ (ji8))
                        have c35b0 := eq_true (of_decide_eq_true (by first | (with_reducible assumption) | assumption) : (ji8) ≤ (t124.size : Int))
                        by_cases c36 : ((t124.extract 0 ((ji8) : Int).toNat) ++ (strOfNums y128)).size + (t124.extract ((ji8) : Int).toNat t124.size).size ≤ 9223372036854775807
                        · rw [if_pos c36] at H
                          have c36b0 := eq_true c36
                          have c36b1 : decide (((t124.extract 0 ((ji8) : Int).toNat) ++ (strOfNums y128)).size + (t124.extract ((ji8) : Int).toNat t124.size).size ≤ 9223372036854775807) = true := decide_eq_true c36
                          try have c36b2 : (9223372036854775807 < ((t124.extract 0 ((ji8) : Int).toNat) ++ (strOfNums y128)).size + (t124.extract ((ji8) : Int).toNat t124.size).size) = False := eq_false (Nat.not_lt.2 c36)
                          try have c36b3 : (9223372036854775807 < (t124.extract 0 ((ji8) : Int).toNat).size + (strOfNums y128).size + (t124.extract ((ji8) : Int).toNat t124.size).size) = False := by (have z_ := c36b2; simp only [ByteArray.size_append] at z_; exact z_)
                          try have c36b4 : (9223372036854775807 < ji8.toNat + (strOfNums y128).size + (t124.size - ji8.toNat)) = False := by (have z_ := c36b2; simp only [ByteArray.size_append, ByteArray.size_extract] at z_; (try rw [Nat.min_eq_left (by have q_ := of_decide_eq_true ‹decide ((ji8) ≤ (t124.size : Int)) = true›; omega)] at z_); simp only [Nat.sub_zero, Nat.min_self] at z_; exact z_)
                          have H' := Aside0.mk H
                          clear H
                          try go_wp2
                          have n0_ := Aside0.mk (Kd.R_drew HO127.out)
                          have n1_ := Aside0.mk (below_drew1 HB.out)
                          clear HO127
                          clear HB
                          have HO127 := n0_
                          have HB := n1_
                          clear n0_ n1_
                          refine start_ (n := 12) (S := fun w' => True) (ds := []) #[false, false, false, false, false, false, false, false, false, false, false, false] (by kernel_rfl) rfl rfl trivial (fun hHeld => ?_); refine with_tabW umlautlaw3_ElemReads.tab8 umlautlaw3_ElemReads.bits8 (fun HT_ HW_ => ?_)
                          generalize w20.drew = w37 at HO127 HB hHeld ⊢
                          refine pure_ (i := 0) (N := some 53) (v := ?_) (a' := ?_) #[true, false, false, false, false, false, false, false, false, false, false, false] rfl rfl (any_of HT_.out (by kernel_rfl)) (fun _ _ _ h => h) (Or.inl ⟨by rfl, ?_⟩) ?_ ?_
                          rotate_left
                          · intro w'
                            go_simp
                            with_reducible rfl
                          rotate_left
                          · simp only [Act.put, List.setIfInBounds_toArray, List.set_cons_zero, List.set_cons_succ, i64_w, i32_w]
                            rfl
                          refine pure_ (i := 1) (N := some 54) (v := ?_) (a' := ?_) #[true, true, false, false, false, false, false, false, false, false, false, false] rfl rfl (any_of HT_.out (by kernel_rfl)) (fun _ _ _ h => h) (Or.inl ⟨by rfl, ?_⟩) ?_ ?_
                          rotate_left
                          · intro w'
                            go_simp
                            with_reducible rfl
                          rotate_left
                          · simp only [Act.put, List.setIfInBounds_toArray, List.set_cons_zero, List.set_cons_succ, i64_w, i32_w]
                            rfl
                          refine pure_ (i := 2) (N := some 55) (v := ?_) (a' := ?_) #[true, true, true, false, false, false, false, false, false, false, false, false] rfl rfl (any_of HT_.out (by kernel_rfl)) (fun _ _ _ h => h) (Or.inl ⟨by rfl, ?_⟩) ?_ ?_
                          rotate_left
                          · intro w'
                            go_simp
                            with_reducible rfl
                          rotate_left
                          · simp only [Act.put, List.setIfInBounds_toArray, List.set_cons_zero, List.set_cons_succ, i64_w, i32_w]
                            rfl
                          refine pure_ (i := 3) (N := some 56) (v := ?_) (a' := ?_) #[true, true, true, true, false, false, false, false, false, false, false, false] rfl rfl (any_of HT_.out (by kernel_rfl)) (fun _ _ _ h => h) (Or.inl ⟨by rfl, ?_⟩) ?_ ?_
                          rotate_left
                          · intro w'
                            go_simp
                            with_reducible rfl
                          rotate_left
                          · simp only [Act.put, List.setIfInBounds_toArray, List.set_cons_zero, List.set_cons_succ, i64_w, i32_w]
                            rfl
                          refine pure_ (i := 7) (N := some 60) (v := ?_) (a' := ?_) #[true, true, true, true, false, false, false, true, false, false, false, false] rfl rfl (any_of HT_.out (by kernel_rfl)) (fun _ _ _ h => h) (Or.inl ⟨by rfl, ?_⟩) ?_ ?_
                          rotate_left
                          · intro w'
                            go_simp
                            with_reducible rfl
                          rotate_left
                          · simp only [Act.put, List.setIfInBounds_toArray, List.set_cons_zero, List.set_cons_succ, i64_w, i32_w]
                            rfl
                          refine pure_ (i := 8) (N := some 61) (v := ?_) (a' := ?_) #[true, true, true, true, false, false, false, true, true, false, false, false] rfl rfl (any_of HT_.out (by kernel_rfl)) (fun _ _ _ h => h) (Or.inl ⟨by rfl, ?_⟩) ?_ ?_
                          rotate_left
                          · intro w'
                            go_simp
                            with_reducible rfl
                          rotate_left
                          · simp only [Act.put, List.setIfInBounds_toArray, List.set_cons_zero, List.set_cons_succ, i64_w, i32_w]
                            rfl
                          refine pure_ (i := 9) (N := some 62) (v := ?_) (a' := ?_) #[true, true, true, true, false, false, false, true, true, true, false, false] rfl rfl (any_of HT_.out (by kernel_rfl)) (fun _ _ _ h => h) (Or.inl ⟨by rfl, ?_⟩) ?_ ?_
                          rotate_left
                          · intro w'
                            go_simp
                            with_reducible rfl
                          rotate_left
                          · simp only [Act.put, List.setIfInBounds_toArray, List.set_cons_zero, List.set_cons_succ, i64_w, i32_w]
                            rfl
                          refine one_ (i := 4) (N := some 57) #[true, true, true, true, true, false, false, true, true, true, false, false] rfl rfl (one_of HT_.out (by kernel_rfl)) (by decide) (fun K hK => ?_)
                          refine Kd.R_lit_step (Kd.int .u8) _ 5 ?hg (N := 57) ?hd (xs := ([a2] : List Int)) (inner := [.int .u8 a2]) (ok := fun _ => True) (okp := fun _ => True) ?hr ?hp (fun _ hk => hk) trivial (Below.refl _ _) (Nat.le_refl _) (by simp) ?_; (case hd => rfl); (case hg => rfl); (case hr => first | (go_simp; done) | (go_simp; rfl)); (case hp => exact (Reps.one (show Kd.M (Kd.int .u8) _ _ _ a2 [.int .u8 a2] from rfl) (Reps.none _ _)))
                          intro v129 w38 ho39 hb hg_ hnew_
                          clear hg_ hnew_
                          (first | rw [← Ny128.out] at ho39 | (simp only [Int.reduceToNat] at ho39; rw [← Ny128.out] at ho39))
                          have n0_ := Aside0.mk (Kd.R_elder' (by (with_reducible repeat (first | apply Kd.R_alloc | apply Kd.R_drewN | apply Kd.R_drew)); exact HO127.out) (Kd.R_base ho39) hb)
                          have n1_ := Aside0.mk (Kd.R_lower (Kd.R_new' ho39 (Kd.R_lt (by (with_reducible repeat (first | apply Kd.R_alloc | apply Kd.R_drewN | apply Kd.R_drew)); exact HO127.out))) (below_size (by repeat (first | (with_reducible first | exact HB.out | apply below_alloc | apply pw_below_drewN | apply below_drew1) | exact HB.out))))
                          have n2_ := Aside0.mk (below_step (by repeat (first | (with_reducible first | exact HB.out | apply below_alloc | apply pw_below_drewN | apply below_drew1) | exact HB.out)) hb)
                          clear HO127
                          clear HB
                          have HO127 := n0_
                          have HO130 := n1_
                          have HB := n2_
                          clear n0_ n1_ n2_
                          clear hb ho39
                          refine hK.out _ _ trivial (fun hHeld => ?_)
                          clear hK K
                          refine norm_ (a' := ?_) ?_ ?_
                          rotate_left
                          · show Act.put _ (some 57) _ = _
                            simp only [Act.put, List.setIfInBounds_toArray, List.set_cons_zero, List.set_cons_succ, i64_w, i32_w]
                            rfl
                          refine one_ (i := 5) (N := some 58) #[true, true, true, true, true, true, false, true, true, true, false, false] rfl rfl (one_of HT_.out (by kernel_rfl)) (by decide) (fun K hK => ?_)
                          have hcv40 := own_string (P := Tryd.prog) Tryd.underlying37 Tryd.underlying5 Tryd.underlying9 (Kd.own_of_R HO130.out)
                          refine value_ (w1 := ?_) (v := ?_) (by rfl) rfl ?_ ?_
                          rotate_left 2
                          · go_simp
                            constructor
                            · rfl
                            · rfl
                          clear hcv40
                          refine hK.out _ _ trivial (fun hHeld => ?_)
                          clear hK K
                          refine norm_ (a' := ?_) ?_ ?_
                          rotate_left
                          · show Act.put _ (some 58) _ = _
                            simp only [Act.put, List.setIfInBounds_toArray, List.set_cons_zero, List.set_cons_succ, i64_w, i32_w]
                            rfl
                          refine pure_ (i := 6) (N := some 59) (v := ?_) (a' := ?_) #[true, true, true, true, true, true, true, true, true, true, false, false] rfl rfl (any_of HT_.out (by kernel_rfl)) (fun _ _ _ h => h) (Or.inl ⟨by rfl, ?_⟩) ?_ ?_
                          rotate_left
                          · intro w'
                            go_simp
                            with_reducible rfl
                          rotate_left
                          · simp only [Act.put, List.setIfInBounds_toArray, List.set_cons_zero, List.set_cons_succ, i64_w, i32_w]
                            rfl
                          refine pure_ (i := 10) (N := some 63) (v := ?_) (a' := ?_) #[true, true, true, true, true, true, true, true, true, true, true, false] rfl rfl (any_of HT_.out (by kernel_rfl)) (fun _ _ _ h => h) (Or.inl ⟨by rfl, ?_⟩) ?_ ?_
                          rotate_left
                          · intro w'
                            go_simp
                            with_reducible rfl
                          rotate_left
                          · simp only [Act.put, List.setIfInBounds_toArray, List.set_cons_zero, List.set_cons_succ, i64_w, i32_w]
                            rfl
                          refine pure_ (i := 11) (N := some 11) (v := ?_) (a' := ?_) #[true, true, true, true, true, true, true, true, true, true, true, true] rfl rfl (any_of HT_.out (by kernel_rfl)) (fun _ _ _ h => h) (Or.inl ⟨by rfl, ?_⟩) ?_ ?_
                          rotate_left
                          · intro w'
                            go_simp
                            with_reducible rfl
                          rotate_left
                          · simp only [Act.put, List.setIfInBounds_toArray, List.set_cons_zero, List.set_cons_succ, i64_w, i32_w]
                            rfl
                          refine done_ (done_of HT_.out (by kernel_rfl)) ?_
                          try go_wp2
                          go_meet
                          case rel => exact ⟨_, (((t124.extract 0 ((ji8) : Int).toNat) ++ (strOfNums y128)) ++ (t124.extract ((ji8) : Int).toNat t124.size)), (by first | rfl | (simp; done) | (simp only [← hji8] <;> (first | rfl | simp)) | (simp [*]; done)), H', ⟨by first | omega | exact Nat.le_refl _⟩, ⟨by repeat (first | (with_reducible first | exact HB.out | apply below_alloc | apply pw_below_drewN | apply below_drew1) | exact HB.out)⟩⟩
                        · rw [if_neg c36] at H
                          exact absurd H (by simp)
                      · rw [if_neg c33] at H
                        exact absurd H (by simp)
                    · rw [if_neg c30] at H
                      have c30b0 : ((Go.bits .and .i64 a3 3) == 2) = false := beq_eq_false_iff_ne.mpr c30
                      have c30b1 : ((Go.bits .and .i64 a3 3) != 2) = true := bne_iff_ne.mpr c30
                      have H' := Aside0.mk H
                      clear H
                      go_wp2
                      go_meet
                      case rel => exact ⟨_, (((t124.extract 0 ((ji8) : Int).toNat) ++ (strOfNums y125)) ++ (t124.extract ((ji12) : Int).toNat t124.size)), (by first | rfl | (simp; done) | (simp only [← hji8, ← hji12] <;> (first | rfl | simp)) | (simp [*]; done)), H', ⟨by first | omega | exact Nat.le_refl _⟩, ⟨by repeat (first | (with_reducible first | exact HB.out | apply below_alloc | apply pw_below_drewN | apply below_drew1) | exact HB.out)⟩⟩
                case rest =>
                  clear HC16
                  try clear c1
                  try clear c2
                  try clear p2
                  try clear hcv2
                  try clear c3
                  try clear hcv4
                  try clear c5
                  try clear p6
                  try clear c7
                  try clear c7b0
                  try clear c7b1
                  try clear c8
                  try clear c9
                  try clear c9b0
                  try clear c9b1
                  try clear c10
                  try clear c10b0
                  try clear c10b1
                  try clear c11
                  try clear c11b0
                  try clear c11b1
                  try clear c11b2
                  try clear c13
                  try clear c13b0
                  try clear c13b1
                  try clear c14
                  try clear c14b0
                  try clear c14b1
                  try clear c15
                  try clear c15b0
                  try clear c15b1
                  try clear c15b2
                  try clear c17
                  try clear hcv22
                  try clear c23
                  try clear c23b0
                  try clear c23b1
                  try clear c24
                  try clear c24b0
                  try clear c25
                  try clear c25b0
                  try clear c26
                  try clear c26b0
                  try clear c27
                  try clear c27b0
                  try clear c28
                  try clear c28b0
                  try clear c28b1
                  try clear c28b2
                  try clear c30
                  try clear c30b0
                  try clear c30b1
                  try clear c31
                  try clear c31b0
                  try clear c32
                  try clear c32b0
                  try clear c33
                  try clear c33b0
                  try clear c33b1
                  try clear c33b2
                  try clear c34
                  try clear c34b0
                  try clear c35
                  try clear c35b0
                  try clear c36
                  try clear c36b0
                  try clear c36b1
                  try clear c36b2
                  try clear hcv40
                  obtain ⟨kq, x11_15, rfl, HA, HJ15, HB⟩ := hcut
                  cases kq with
                  | zero => exact absurd HA.out (by simp [umlautlaw3_ElemReads.j0])
                  | succ kj15 =>
                    have H := HA.out
                    clear HA
                    simp only [umlautlaw3_ElemReads.j0] at H
                    replace H := Option.bind_eq_some_iff.mp H
                    obtain ⟨⟨t131, t132⟩, A410, H⟩ := H
                    replace H : (if t132 = 0 then ((XA.umlautref5_Of.f t131).bind fun bt133 => ((XA.umlautref5_Elem_Text.f kj15 bt133.1 bt133.2.1 bt133.2.2.1 bt133.2.2.2).bind fun t137 => (if t137.toList = x11_15.toList then ((umlautlaw3_awake.f kj15).bind fun t138 => (some t138)) else (some false)))) else (if t132 = 3 then (if t131 = 0 then (if x11_15.toList = t124.toList then (some false) else ((umlautlaw3_awake.f kj15).bind fun t139 => (some t139))) else (some false)) else (some false))) = some r := H
                    have A41 := Aside0.mk A410
                    clear A410
                    by_cases c42 : t132 = 0
                    · rw [if_pos c42] at H
                      have c42b0 : (t132 == 0) = true := beq_iff_eq.mpr c42
                      have c42b1 : (t132 != 0) = false := bne_eq_false_iff_eq.mpr c42
                      clear c42
                      replace H := Option.bind_eq_some_iff.mp H
                      obtain ⟨⟨t133, t134, t135, t136⟩, A430, H⟩ := H
                      replace H : ((XA.umlautref5_Elem_Text.f kj15 t133 t134 t135 t136).bind fun t137 => (if t137.toList = x11_15.toList then ((umlautlaw3_awake.f kj15).bind fun t138 => (some t138)) else (some false))) = some r := H
                      have A43 := Aside0.mk A430
                      clear A430
                      replace H := Option.bind_eq_some_iff.mp H
                      obtain ⟨t137, A440, H⟩ := H
                      replace H : (if t137.toList = x11_15.toList then ((umlautlaw3_awake.f kj15).bind fun t138 => (some t138)) else (some false)) = some r := H
                      have A44 := Aside0.mk A440
                      clear A440
                      by_cases c45 : t137.toList = x11_15.toList
                      · rw [if_pos c45] at H
                        have c45b0 : (t137.toList == x11_15.toList) = true := beq_iff_eq.mpr c45
                        have c45b1 : (t137.toList != x11_15.toList) = false := bne_eq_false_iff_eq.mpr c45
                        clear c45
                        replace H := Option.bind_eq_some_iff.mp H
                        obtain ⟨t138, A460, H⟩ := H
                        replace H : (some t138) = some r := H
                        have A46 := Aside0.mk A460
                        clear A460
                        obtain rfl := Option.some.inj H
                        go_wp2_with (first | ((with_reducible refine gate_callee (f := 18) rfl ?_); refine goesL_ (some 66) rfl rfl Tryd.func18 (by kernel_rfl) rfl #[.string x11_15] rfl (by (try simp only [List.map_toArray, List.map_cons, List.map_nil]); first | done | rfl | (simp only [List.length_drop, List.length_take]; rfl)) ?_; (with_reducible refine (elem_Parse.calls x11_15 t131 t132 _ ?side1 A41.out).mono ?_); (case side1 => exact GW.below HG.out (by repeat (first | (with_reducible first | exact HB.out | apply below_alloc | apply pw_below_drewN | apply below_drew1) | exact HB.out))); rintro e w47 ⟨rfl, hb⟩; refine ⟨_, rfl, ?_⟩; have n0_ := Aside0.mk (below_step (by repeat (first | (with_reducible first | exact HB.out | apply below_alloc | apply pw_below_drewN | apply below_drew1) | exact HB.out)) hb); clear HB; have HB := n0_; clear n0_; (try clear hb); (try clear hb2); (try clear hk); (try clear hi)) | ((with_reducible refine gate_callee (f := 8) rfl ?_); refine goesL_ (some 86) rfl rfl Tryd.func8 (by kernel_rfl) rfl #[.int .u32 t131] rfl (by (try simp only [List.map_toArray, List.map_cons, List.map_nil]); first | done | rfl | (simp only [List.length_drop, List.length_take]; rfl)) ?_; (with_reducible refine (XA.umlautref5_Of.calls t131 t133 t134 t135 t136 _ A43.out).mono ?_); rintro e w48 ⟨rfl, hb⟩; refine ⟨_, rfl, ?_⟩; have n0_ := Aside0.mk (below_step (by repeat (first | (with_reducible first | exact HB.out | apply below_alloc | apply pw_below_drewN | apply below_drew1) | exact HB.out)) hb); clear HB; have HB := n0_; clear n0_; (try clear hb); (try clear hb2); (try clear hk); (try clear hi)) | ((with_reducible refine gate_callee (f := 17) rfl ?_); refine goesL_ (some 87) rfl rfl Tryd.func17 (by kernel_rfl) rfl #[.agg #[.int .i64 t133, .int .i64 t134, .int .i64 t135, .bool t136]] rfl (by (try simp only [List.map_toArray, List.map_cons, List.map_nil]); first | done | rfl | (simp only [List.length_drop, List.length_take]; rfl)) ?_; (with_reducible refine (XA.umlautref5_Elem_Text.calls kj15 t133 t134 t135 t136 t137 _ A44.out).mono ?_); rintro e w49 ⟨rfl, hb⟩; refine ⟨_, rfl, ?_⟩; have n0_ := Aside0.mk (below_step (by repeat (first | (with_reducible first | exact HB.out | apply below_alloc | apply pw_below_drewN | apply below_drew1) | exact HB.out)) hb); clear HB; have HB := n0_; clear n0_; (try clear hb); (try clear hb2); (try clear hk); (try clear hi)) | (go_at_call 10; (with_reducible refine (umlautlaw3_awake.calls kj15  t138 _ ?side1 A46.out).mono ?_); (case side1 => exact GW.below HG.out (by repeat (first | (with_reducible first | exact HB.out | apply below_alloc | apply pw_below_drewN | apply below_drew1) | exact HB.out))); rintro e w50 ⟨rfl, hb⟩; have n0_ := Aside0.mk (below_step (by repeat (first | (with_reducible first | exact HB.out | apply below_alloc | apply pw_below_drewN | apply below_drew1) | exact HB.out)) hb); clear HB; have HB := n0_; clear n0_; (try clear hb); (try clear hb2); (try clear hk); (try clear hi)))
                        go_ret
                        exact ⟨by first | rfl | (simp [errW_none, errW_some] <;> rfl) | (simp only [← hji8, ← hji12]; first | rfl | (simp [errW_none, errW_some] <;> rfl)) | (simp [*, errW_none, errW_some] <;> rfl), by repeat (first | (with_reducible first | exact HB.out | apply below_alloc | apply pw_below_drewN | apply below_drew1) | exact HB.out)⟩
                      · rw [if_neg c45] at H
                        have c45b0 : (t137.toList == x11_15.toList) = false := beq_eq_false_iff_ne.mpr c45
                        have c45b1 : (t137.toList != x11_15.toList) = true := bne_iff_ne.mpr c45
                        exact absurd (H.trans (congrArg some HT.out)) (by decide)
                    · rw [if_neg c42] at H
                      have c42b0 : (t132 == 0) = false := beq_eq_false_iff_ne.mpr c42
                      have c42b1 : (t132 != 0) = true := bne_iff_ne.mpr c42
                      by_cases c51 : t132 = 3
                      · rw [if_pos c51] at H
                        have c51b0 : (t132 == 3) = true := beq_iff_eq.mpr c51
                        have c51b1 : (t132 != 3) = false := bne_eq_false_iff_eq.mpr c51
                        clear c51
                        by_cases c52 : t131 = 0
                        · rw [if_pos c52] at H
                          have c52b0 : (t131 == 0) = true := beq_iff_eq.mpr c52
                          have c52b1 : (t131 != 0) = false := bne_eq_false_iff_eq.mpr c52
                          clear c52
                          by_cases c53 : x11_15.toList = t124.toList
                          · rw [if_pos c53] at H
                            have c53b0 : (x11_15.toList == t124.toList) = true := beq_iff_eq.mpr c53
                            have c53b1 : (x11_15.toList != t124.toList) = false := bne_eq_false_iff_eq.mpr c53
                            clear c53
                            exact absurd (H.trans (congrArg some HT.out)) (by decide)
                          · rw [if_neg c53] at H
                            have c53b0 : (x11_15.toList == t124.toList) = false := beq_eq_false_iff_ne.mpr c53
                            have c53b1 : (x11_15.toList != t124.toList) = true := bne_iff_ne.mpr c53
                            replace H := Option.bind_eq_some_iff.mp H
                            obtain ⟨t139, A540, H⟩ := H
                            replace H : (some t139) = some r := H
                            have A54 := Aside0.mk A540
                            clear A540
                            obtain rfl := Option.some.inj H
                            go_wp2_with (first | ((with_reducible refine gate_callee (f := 18) rfl ?_); refine goesL_ (some 66) rfl rfl Tryd.func18 (by kernel_rfl) rfl #[.string x11_15] rfl (by (try simp only [List.map_toArray, List.map_cons, List.map_nil]); first | done | rfl | (simp only [List.length_drop, List.length_take]; rfl)) ?_; (with_reducible refine (elem_Parse.calls x11_15 t131 t132 _ ?side1 A41.out).mono ?_); (case side1 => exact GW.below HG.out (by repeat (first | (with_reducible first | exact HB.out | apply below_alloc | apply pw_below_drewN | apply below_drew1) | exact HB.out))); rintro e w55 ⟨rfl, hb⟩; refine ⟨_, rfl, ?_⟩; have n0_ := Aside0.mk (below_step (by repeat (first | (with_reducible first | exact HB.out | apply below_alloc | apply pw_below_drewN | apply below_drew1) | exact HB.out)) hb); clear HB; have HB := n0_; clear n0_; (try clear hb); (try clear hb2); (try clear hk); (try clear hi)) | (go_at_call 10; (with_reducible refine (umlautlaw3_awake.calls kj15  t139 _ ?side1 A54.out).mono ?_); (case side1 => exact GW.below HG.out (by repeat (first | (with_reducible first | exact HB.out | apply below_alloc | apply pw_below_drewN | apply below_drew1) | exact HB.out))); rintro e w56 ⟨rfl, hb⟩; have n0_ := Aside0.mk (below_step (by repeat (first | (with_reducible first | exact HB.out | apply below_alloc | apply pw_below_drewN | apply below_drew1) | exact HB.out)) hb); clear HB; have HB := n0_; clear n0_; (try clear hb); (try clear hb2); (try clear hk); (try clear hi)))
                            go_ret
                            exact ⟨by first | rfl | (simp [errW_none, errW_some] <;> rfl) | (simp only [← hji8, ← hji12]; first | rfl | (simp [errW_none, errW_some] <;> rfl)) | (simp [*, errW_none, errW_some] <;> rfl), by repeat (first | (with_reducible first | exact HB.out | apply below_alloc | apply pw_below_drewN | apply below_drew1) | exact HB.out)⟩
                        · rw [if_neg c52] at H
                          have c52b0 : (t131 == 0) = false := beq_eq_false_iff_ne.mpr c52
                          have c52b1 : (t131 != 0) = true := bne_iff_ne.mpr c52
                          exact absurd (H.trans (congrArg some HT.out)) (by decide)
                      · rw [if_neg c51] at H
                        have c51b0 : (t132 == 3) = false := beq_eq_false_iff_ne.mpr c51
                        have c51b1 : (t132 != 3) = true := bne_iff_ne.mpr c51
                        exact absurd (H.trans (congrArg some HT.out)) (by decide)
              · rw [if_neg c15] at H
                exact absurd H (by simp)
            · rw [if_neg c14] at H
              exact absurd H (by simp)
          · rw [if_neg c13] at H
            exact absurd H (by simp)
        · rw [if_neg c11] at H
          exact absurd H (by simp)
      · rw [if_neg c10] at H
        exact absurd H (by simp)
    · rw [if_neg c9] at H
      exact absurd H (by simp)

/-- THE ONE PURE STATEMENT of umlautlaw3_ElemReads: yours. -/
def umlautlaw3_ElemReads.Pure : Prop := ∀ (a0 : Int) (a1 : Int) (a2 : Int) (a3 : Int), (Lit.int .u32 a0).wf = true → (Lit.int .i64 a1).wf = true → (Lit.int .u8 a2).wf = true → (Lit.int .i64 a3).wf = true → ∃ k, umlautlaw3_ElemReads.f k a0 a1 a2 a3 = some true
theorem umlautlaw3_ElemReads.walk (P : umlautlaw3_ElemReads.Pure) (a0 : Int) (a1 : Int) (a2 : Int) (a3 : Int) (w : World) (hG0 : GW w) (w0 : (Lit.int .u32 a0).wf = true) (w1 : (Lit.int .i64 a1).wf = true) (w2 : (Lit.int .u8 a2).wf = true) (w3 : (Lit.int .i64 a3).wf = true) :
    Calls Tryd.prog 5 #[.int .u32 a0, .int .i64 a1, .int .u8 a2, .int .i64 a3] w fun e w' => e = .returned (.bool true) ∧ Below w.heap.size w w' := by
  obtain ⟨k, h⟩ := P a0 a1 a2 a3 w0 w1 w2 w3
  refine (umlautlaw3_ElemReads.calls k a0 a1 a2 a3 true w hG0 h rfl).mono ?_
  rintro e w' ⟨rfl, hd⟩
  exact ⟨rfl, hd⟩

end Go.Proofs.YtmgoncnjagihgaaDoor.XT
