/-
  elem.Make, told by arithmetic.
-/
import Derived.Test.YtmgoncnjagihgaaDoorPureW
namespace Go.Proofs.YtmgoncnjagihgaaDoor.PureW
open Go.RowKit Go.Proofs.YtmgoncnjagihgaaDoorW.PrintWords Go.Proofs.YtmgoncnjagihgaaDoorW.PrintLast Go.Proofs.YtmgoncnjagihgaaDoorW.PrintMore Go.Proofs.YtmgoncnjagihgaaDoor.XA Go.Proofs.YtmgoncnjagihgaaDoor.Given Go.Proofs.YtmgoncnjagihgaaDoor.PureN

theorem shl16 : shl .i64 1 16 = 65536 := by decide +kernel
theorem shl8 : shl .i64 1 8 = 256 := by decide +kernel
theorem shl7 : shl .i64 1 7 = 128 := by decide +kernel

def fits (p s t : Int) : Prop := 0 ≤ p ∧ p < 65536 ∧ 0 ≤ s ∧ s < 256 ∧ 0 ≤ t ∧ t < 128
instance (p s t : Int) : Decidable (fits p s t) := by unfold fits; exact inferInstance

theorem make_eq (k : Nat) (p s t : Int) (v : Bool) : elem_Make.f (k + 5) p s t v = some (if fits p s t then (p * 65536 + s * 256 + t * 2 + (if v then 1 else 0), 0) else (0, 1)) := by
  unfold elem_Make.f
  have w1 : wrap64 (0 + 1) = 1 := by decide +kernel
  have w2 : wrap64 (1 + 1) = 2 := by decide +kernel
  have w3 : wrap64 (2 + 1) = 3 := by decide +kernel
  rw [elem_Make.l0, if_pos (by decide), if_pos (by decide), w1, show elem_field.f 1 = some (16, 16) from rfl]
  simp only [Option.bind_some]
  rw [show pick3 0 p s t = p from rfl]
  by_cases p0 : p < 0
  · rw [if_pos p0, if_neg (by unfold fits; omega)]
  rw [if_neg p0, if_pos (by decide), shl16]
  by_cases p1 : p ≥ 65536
  · rw [if_pos p1, if_neg (by unfold fits; omega)]
  rw [if_neg p1, show elem_Elem_With.f (k + 4) 0 1 p = some (withN 0 1 p) from with_eq (k + 3) 0 1 p (by decide)]
  simp only [Option.bind_some]
  obtain ⟨P, hP, hPl⟩ : ∃ P : Nat, withN 0 1 p = (P : Int) ∧ (P : Int) = p * 65536 := ⟨(p * 65536).toNat, by unfold withN; rw [if_pos rfl]; omega, by omega⟩
  rw [hP, elem_Make.l0, if_pos (by decide), if_pos (by decide), show elem_field.f (wrap64 (1 + 1)) = some (8, 8) by rw [w2]; rfl]
  simp only [Option.bind_some]
  rw [show pick3 1 p s t = s from rfl]
  by_cases s0 : s < 0
  · rw [if_pos s0, if_neg (by unfold fits; omega)]
  rw [if_neg s0, if_pos (by decide), shl8]
  by_cases s1 : s ≥ 256
  · rw [if_pos s1, if_neg (by unfold fits; omega)]
  rw [if_neg s1, w2, with_eq (k + 2) P 2 s (by omega)]
  simp only [Option.bind_some]
  obtain ⟨S, hS, hSl⟩ : ∃ S : Nat, withN P 2 s = (S : Int) ∧ (S : Int) = p * 65536 + s * 256 := ⟨(p * 65536 + s * 256).toNat, by unfold withN; rw [if_neg (by decide), if_pos rfl]; omega, by omega⟩
  rw [hS, elem_Make.l0, if_pos (by decide), if_pos (by decide), show elem_field.f (wrap64 (2 + 1)) = some (1, 7) by rw [w3]; rfl]
  simp only [Option.bind_some]
  rw [show pick3 2 p s t = t from rfl]
  by_cases t0 : t < 0
  · rw [if_pos t0, if_neg (by unfold fits; omega)]
  rw [if_neg t0, if_pos (by decide), shl7]
  by_cases t1 : t ≥ 128
  · rw [if_pos t1, if_neg (by unfold fits; omega)]
  rw [if_neg t1, w3, with_eq (k + 1) S 3 t (by omega)]
  simp only [Option.bind_some]
  obtain ⟨T, hT, hTl⟩ : ∃ T : Nat, withN S 3 t = (T : Int) ∧ (T : Int) = p * 65536 + s * 256 + t * 2 := ⟨(p * 65536 + s * 256 + t * 2).toNat, by unfold withN; rw [if_neg (by decide), if_neg (by decide), if_pos rfl]; omega, by omega⟩
  rw [hT, elem_Make.l0, if_neg (by decide), if_pos (show fits p s t by unfold fits; omega)]
  cases v
  · rw [if_neg (by decide)]
    refine congrArg some (Prod.ext ?_ rfl)
    show (T : Int) = p * 65536 + s * 256 + t * 2 + 0
    omega
  · rw [if_pos rfl]
    have o := or_add (T / 2) 1 1 (by decide)
    rw [show T / 2 * 2 ^ 1 = T by omega] at o
    refine congrArg some (Prod.ext ?_ rfl)
    show Go.bits .or .u32 (T : Int) 1 = p * 65536 + s * 256 + t * 2 + 1
    rw [show Go.bits .or .u32 (T : Int) 1 = _ from u32_or_nat T 1 (by omega) (by decide), o]
    omega

end Go.Proofs.YtmgoncnjagihgaaDoor.PureW
