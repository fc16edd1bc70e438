/-
  Elements' texts, the law's waking case, and the laws ElemChanges and ElemMakes.
-/
import Derived.Test.YtmgoncnjagihgaaDoorPureU
import Derived.Test.YtmgoncnjagihgaaDoorXA3
namespace Go.Proofs.YtmgoncnjagihgaaDoor.PureW
open Go.RowKit Go.Proofs.YtmgoncnjagihgaaDoorW.PrintWords Go.Proofs.YtmgoncnjagihgaaDoorW.PrintLast Go.Proofs.YtmgoncnjagihgaaDoorW.PrintMore Go.Proofs.YtmgoncnjagihgaaDoor.XA Go.Proofs.YtmgoncnjagihgaaDoor.Given Go.Proofs.YtmgoncnjagihgaaDoor.PureN

theorem H4_size (p : Int) : (H4 p).size = 4 := rfl
theorem H2_size (p : Int) : (H2 p).size = 2 := rfl

/-- An element's text: weights, and whether it is variable. -/
def TX (p s t : Int) (v : Bool) : ByteArray :=
  ((((((if v then (⟨#[91, 42]⟩ : ByteArray) else ⟨#[91]⟩) ++ H4 p) ++ (⟨#[46]⟩ : ByteArray)) ++ H2 s) ++ (⟨#[46]⟩ : ByteArray)) ++ H2 t) ++ (⟨#[93]⟩ : ByteArray)

theorem var_eq (w : Nat) (hw : w < 4294967296) : elem_Elem_Variable.f (w : Int) = some (decide (w % 2 = 1)) := by
  unfold elem_Elem_Variable.f
  have h := u32_and_nat w 1 hw (by omega)
  rw [show w &&& 1 = w % 2 from Nat.and_two_pow_sub_one_eq_mod w 1] at h
  rw [show Go.bits .and .u32 (w : Int) 1 = ((w % 2 : Nat) : Int) from h]
  refine congrArg some ?_
  rw [Bool.eq_iff_iff]
  simp
  omega

theorem gd {α : Type} (n : Nat) (h : n ≤ 100) (x y : Option α) : (if n ≤ 9223372036854775807 then x else y) = x := if_pos (Nat.le_trans h (by decide))

set_option maxRecDepth 100000 in
theorem text_j (k w : Nat) (hw : w < 4294967296) (x : ByteArray) (hx : x.size ≤ 2) :
    elem_Elem_Text.j0 (k + 2) (w : Int) x = some ((((((x ++ H4 (w / 65536 : Int)) ++ (⟨#[46]⟩ : ByteArray)) ++ H2 (w / 256 % 256 : Int)) ++ (⟨#[46]⟩ : ByteArray)) ++ H2 (w / 2 % 128 : Int)) ++ (⟨#[93]⟩ : ByteArray)) := by
  have e : ∀ a b : ByteArray, (a ++ b).size = a.size + b.size := fun a b => ByteArray.size_append
  have d : (⟨#[46]⟩ : ByteArray).size = 1 := rfl
  rw [elem_Elem_Text.j0, weight_eq k w 1 hw]
  simp only [Option.bind_some]
  rw [show weightN w 1 = (w / 65536 : Int) by unfold weightN; rw [if_pos rfl], hex4 _ (by omega) (by omega)]
  simp only [Option.bind_some]
  rw [gd _ (by rw [H4_size]; omega), gd _ (by rw [e, H4_size]; omega), weight_eq k w 2 hw]
  simp only [Option.bind_some]
  rw [show weightN w 2 = (w / 256 % 256 : Int) by unfold weightN; rw [if_neg (by decide), if_pos rfl], hex2 _ (by omega) (by omega)]
  simp only [Option.bind_some]
  rw [gd _ (by rw [e, e, H4_size, H2_size, d]; omega), gd _ (by rw [e, e, e, H4_size, H2_size, d]; omega), weight_eq k w 3 hw]
  simp only [Option.bind_some]
  rw [show weightN w 3 = (w / 2 % 128 : Int) by unfold weightN; rw [if_neg (by decide), if_neg (by decide), if_pos rfl], hex2 _ (by omega) (by omega)]
  simp only [Option.bind_some]
  rw [gd _ (by rw [e, e, e, e, H4_size, H2_size, H2_size, d]; omega), gd _ (by rw [e, e, e, e, e, H4_size, H2_size, H2_size, d]; omega)]

theorem text_eq (k w : Nat) (hw : w < 4294967296) : elem_Elem_Text.f (k + 2) (w : Int) = some (TX (w / 65536 : Int) (w / 256 % 256 : Int) (w / 2 % 128 : Int) (decide (w % 2 = 1))) := by
  unfold elem_Elem_Text.f TX
  rw [var_eq w hw]
  simp only [Option.bind_some]
  by_cases h : w % 2 = 1
  · simp only [h, decide_true, if_true]
    rw [if_pos (by decide), text_j k w hw _ (by decide)]
    rfl
  · simp only [h, decide_false, if_false, Bool.false_eq_true]
    rw [text_j k w hw _ (by decide)]

set_option maxRecDepth 100000 in
theorem rtext_eq (k : Nat) (p s t : Int) (v : Bool) (hp : 0 ≤ p ∧ p < 65536) (hs : 0 ≤ s ∧ s < 256) (ht : 0 ≤ t ∧ t < 128) : umlautref5_Elem_Text.f (k + 5) p s t v = some (TX p s t v) := by
  have e : ∀ a b : ByteArray, (a ++ b).size = a.size + b.size := fun a b => ByteArray.size_append
  have d : (⟨#[46]⟩ : ByteArray).size = 1 := rfl
  have d1 : (⟨#[91]⟩ : ByteArray).size = 1 := rfl
  have d2 : (⟨#[91, 42]⟩ : ByteArray).size = 2 := rfl
  have a := rhex4 k p hp.1 hp.2
  have b := rhex2 (k + 2) s hs.1 hs.2
  have c := rhex2 (k + 2) t ht.1 (by omega)
  unfold umlautref5_Elem_Text.f TX
  rw [a, show umlautref5_hex.f (k + 5) s 2 = some (H2 s) from b, show umlautref5_hex.f (k + 5) t 2 = some (H2 t) from c]
  simp only [Option.bind_some]
  cases v
  · rw [if_neg (by decide), gd _ (by rw [H4_size]; omega), gd _ (by rw [e, H4_size, d1]; omega), gd _ (by rw [e, e, H4_size, H2_size, d, d1]; omega), gd _ (by rw [e, e, e, H4_size, H2_size, d, d1]; omega),
      gd _ (by rw [e, e, e, e, H4_size, H2_size, H2_size, d, d1]; omega), gd _ (by rw [e, e, e, e, e, H4_size, H2_size, H2_size, d, d1]; omega)]
    rfl
  · rw [if_pos rfl, gd _ (by rw [H4_size]; omega), gd _ (by rw [e, H4_size, d2]; omega), gd _ (by rw [e, e, H4_size, H2_size, d, d2]; omega), gd _ (by rw [e, e, e, H4_size, H2_size, d, d2]; omega),
      gd _ (by rw [e, e, e, e, H4_size, H2_size, H2_size, d, d2]; omega), gd _ (by rw [e, e, e, e, e, H4_size, H2_size, H2_size, d, d2]; omega)]
    rfl

theorem awake_eq (k : Nat) : umlautlaw3_awake.f (k + 5) = some true := by
  unfold umlautlaw3_awake.f
  rw [make_eq k 256 32 2 false, if_pos (by decide)]
  simp only [Option.bind_some]
  rw [if_pos (by decide), if_pos (by decide), show ((256 : Int) * 65536 + 32 * 256 + 2 * 2 + (if false = true then 1 else 0)) = ((16785412 : Nat) : Int) by decide, text_eq (k + 3) 16785412 (by decide)]
  simp only [Option.bind_some]
  rw [if_pos (by decide +kernel), weight_eq (k + 4) 16785412 1 (by decide)]
  rfl

end Go.Proofs.YtmgoncnjagihgaaDoor.PureW
