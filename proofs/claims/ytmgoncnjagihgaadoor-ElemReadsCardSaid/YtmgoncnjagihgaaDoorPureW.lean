/-
  The printed functions of elem on single weights, told by arithmetic.
-/
import Derived.Test.YtmgoncnjagihgaaDoorXA1
import Derived.Test.YtmgoncnjagihgaaDoorPureN
import Derived.Laws.BitsAllLaws
import Derived.KernelRfl
namespace Go.Proofs.YtmgoncnjagihgaaDoor.PureW
open Go.RowKit Go.Proofs.YtmgoncnjagihgaaDoorW.PrintWords Go.Proofs.YtmgoncnjagihgaaDoorW.PrintLast Go.Proofs.YtmgoncnjagihgaaDoorW.PrintMore Go.Proofs.YtmgoncnjagihgaaDoor.XA Go.Proofs.YtmgoncnjagihgaaDoor.Given Go.Proofs.YtmgoncnjagihgaaDoor.PureN

theorem mask1 (k : Nat) : ints_mask.f (k + 1) 16 16 = some 4294901760 := by kernel_rfl
theorem mask2 (k : Nat) : ints_mask.f (k + 1) 8 8 = some 65280 := by kernel_rfl
theorem mask3 (k : Nat) : ints_mask.f (k + 1) 1 7 = some 254 := by kernel_rfl
theorem mask0 (k : Nat) : ints_mask.f (k + 1) 0 0 = some 0 := by kernel_rfl

theorem wrapN (x : Nat) (h : x < 18446744073709551616) : IntKind.u64.wrap (x : Int) = x := by rw [IntKind.wrap_u64]; omega
theorem wrapM (x : Nat) : IntKind.u64.wrap (x : Int) = ((x % 18446744073709551616 : Nat) : Int) := by rw [IntKind.wrap_u64]; omega

/-- A write of a field of n bits from bit a on, in a word of 32 bits. -/
theorem set_eq (k w V : Nat) (at_ n_ : Int) (a n : Nat) (m : Int) (hm : ints_mask.f k at_ n_ = some m) (hM : m = (((2 ^ n - 1) * 2 ^ a : Nat) : Int)) (he : (mn (mx at_ 0) 64).toNat = a) (han : a + n ≤ 32) (hw : w < 4294967296) :
    ints_Set.f k (w : Int) at_ n_ (V : Int) = some ((w / 2 ^ (a + n) * 2 ^ (a + n) + ((V % 2 ^ n) * 2 ^ a + w % 2 ^ a) : Nat) : Int) := by
  have hM64 : (2 ^ n - 1) * 2 ^ a < 18446744073709551616 := by
    calc (2 ^ n - 1) * 2 ^ a < 2 ^ n * 2 ^ a := Nat.mul_lt_mul_of_pos_right (by have := Nat.two_pow_pos n; omega) (Nat.two_pow_pos a)
      _ = 2 ^ (n + a) := (Nat.pow_add 2 n a).symm
      _ ≤ 2 ^ 64 := Nat.pow_le_pow_right (by decide) (by omega)
  unfold ints_Set.f
  rw [hm, he, hM]
  simp only [Option.bind_some]
  have e1 : (V : Int) * 2 ^ a = ((V * 2 ^ a : Nat) : Int) := by simp
  have hlt : ∀ x y : Nat, x &&& y ≤ y := fun x y => Nat.and_le_right
  rw [e1, wrapM, u64_andNot_nat _ _ (by omega) hM64, u64_and_nat _ _ (by omega) hM64,
    u64_or_nat _ _ (by have := @Nat.and_le_left w (18446744073709551615 - (2 ^ n - 1) * 2 ^ a); omega) (by have := hlt (V * 2 ^ a % 18446744073709551616) ((2 ^ n - 1) * 2 ^ a); omega)]
  exact congrArg some (congrArg Int.ofNat (setN w V a n (by omega) (by omega)))

/-- A word with another weight. -/
def withN (w : Nat) (lv : Int) (v : Int) : Int :=
  if lv = 1 then (v % 65536) * 65536 + w % 65536 else if lv = 2 then w / 65536 * 65536 + (v % 256) * 256 + w % 256 else if lv = 3 then w / 256 * 256 + (v % 128) * 2 + w % 2 else w

theorem with_eq (k w : Nat) (lv v : Int) (hw : w < 4294967296) : elem_Elem_With.f (k + 1) (w : Int) lv v = some (withN w lv v) := by
  obtain ⟨V, hV, hVv⟩ : ∃ V : Nat, IntKind.u64.wrap v = (V : Int) ∧ (V : Int) = v % 18446744073709551616 := ⟨(v % 18446744073709551616).toNat, by rw [IntKind.wrap_u64]; omega, by omega⟩
  unfold elem_Elem_With.f withN
  rw [hV, wrapN w (by omega)]
  unfold elem_field.f
  by_cases h1 : lv = 1
  · rw [if_pos h1, if_pos h1]
    simp only [Option.bind_some]
    rw [set_eq (k + 1) w V 16 16 16 16 _ (mask1 k) rfl rfl (by decide) hw]
    simp only [Option.bind_some]
    refine congrArg some ?_
    omega
  · rw [if_neg h1, if_neg h1]
    by_cases h2 : lv = 2
    · rw [if_pos h2, if_pos h2]
      simp only [Option.bind_some]
      rw [set_eq (k + 1) w V 8 8 8 8 _ (mask2 k) rfl rfl (by decide) hw]
      simp only [Option.bind_some]
      refine congrArg some ?_
      omega
    · rw [if_neg h2, if_neg h2]
      by_cases h3 : lv = 3
      · rw [if_pos h3, if_pos h3]
        simp only [Option.bind_some]
        rw [set_eq (k + 1) w V 1 7 1 7 _ (mask3 k) rfl rfl (by decide) hw]
        simp only [Option.bind_some]
        refine congrArg some ?_
        omega
      · rw [if_neg h3, if_neg h3]
        simp only [Option.bind_some]
        rw [set_eq (k + 1) w V 0 0 0 0 _ (mask0 k) rfl rfl (by decide) hw]
        simp only [Option.bind_some]
        refine congrArg some ?_
        omega

/-- A field of n bits from bit a on is read. -/
theorem get_eq (k w : Nat) (at_ n_ : Int) (a n : Nat) (m : Int) (hm : ints_mask.f k at_ n_ = some m) (hM : m = (((2 ^ n - 1) * 2 ^ a : Nat) : Int)) (he : (mn (mx at_ 0) 64).toNat = a) (han : a + n ≤ 32) (hw : w < 4294967296) :
    ints_Get.f k (w : Int) at_ n_ = some ((w / 2 ^ a % 2 ^ n : Nat) : Int) := by
  have hM64 : (2 ^ n - 1) * 2 ^ a < 18446744073709551616 := by
    calc (2 ^ n - 1) * 2 ^ a < 2 ^ n * 2 ^ a := Nat.mul_lt_mul_of_pos_right (by have := Nat.two_pow_pos n; omega) (Nat.two_pow_pos a)
      _ = 2 ^ (n + a) := (Nat.pow_add 2 n a).symm
      _ ≤ 2 ^ 64 := Nat.pow_le_pow_right (by decide) (by omega)
  unfold ints_Get.f
  rw [hm, he, hM]
  simp only [Option.bind_some]
  rw [u64_and_nat _ _ (by omega) hM64, ← getN]
  refine congrArg some ?_
  simp

def weightN (w : Nat) (lv : Int) : Int := if lv = 1 then w / 65536 else if lv = 2 then w / 256 % 256 else if lv = 3 then w / 2 % 128 else 0

theorem weight_eq (k w : Nat) (lv : Int) (hw : w < 4294967296) : elem_Elem_Weight.f (k + 1) (w : Int) lv = some (weightN w lv) := by
  unfold elem_Elem_Weight.f weightN
  rw [wrapN w (by omega)]
  unfold elem_field.f
  by_cases h1 : lv = 1
  · rw [if_pos h1, if_pos h1]
    simp only [Option.bind_some]
    rw [get_eq (k + 1) w 16 16 16 16 _ (mask1 k) rfl rfl (by decide) hw]
    simp only [Option.bind_some]
    refine congrArg some ?_
    unfold wrap64
    omega
  · rw [if_neg h1, if_neg h1]
    by_cases h2 : lv = 2
    · rw [if_pos h2, if_pos h2]
      simp only [Option.bind_some]
      rw [get_eq (k + 1) w 8 8 8 8 _ (mask2 k) rfl rfl (by decide) hw]
      simp only [Option.bind_some]
      refine congrArg some ?_
      unfold wrap64
      omega
    · rw [if_neg h2, if_neg h2]
      by_cases h3 : lv = 3
      · rw [if_pos h3, if_pos h3]
        simp only [Option.bind_some]
        rw [get_eq (k + 1) w 1 7 1 7 _ (mask3 k) rfl rfl (by decide) hw]
        simp only [Option.bind_some]
        refine congrArg some ?_
        unfold wrap64
        omega
      · rw [if_neg h3, if_neg h3]
        simp only [Option.bind_some]
        rw [get_eq (k + 1) w 0 0 0 0 _ (mask0 k) rfl rfl (by decide) hw]
        simp only [Option.bind_some]
        refine congrArg some ?_
        unfold wrap64
        omega

theorem mod4 (x : Int) (h0 : 0 ≤ x) (h1 : x < 4294967296) : ∃ n : Nat, x = n ∧ n < 4294967296 := ⟨x.toNat, by omega, by omega⟩

/-- The reference's word. -/
theorem word_eq (p s t : Nat) (v : Bool) (hp : p < 65536) (hs : s < 256) (ht : t < 128) : umlautref5_Elem_Word.f p s t v = some (((p * 65536 + (s * 256 + (t * 2 + (if v then 1 else 0))) : Nat) : Int)) := by
  unfold umlautref5_Elem_Word.f
  have e1 : ((((p : Int)) % 4294967296) * 65536) % 4294967296 = ((p * 65536 : Nat) : Int) := by omega
  have e2 : ((((s : Int)) % 4294967296) * 256) % 4294967296 = ((s * 256 : Nat) : Int) := by omega
  have e3 : ((((t : Int)) % 4294967296) * 2) % 4294967296 = ((t * 2 : Nat) : Int) := by omega
  have o1 : p * 65536 ||| s * 256 = p * 65536 + s * 256 := or_add p (s * 256) 16 (by omega)
  have o2 : p * 65536 + s * 256 ||| t * 2 = p * 65536 + s * 256 + t * 2 := by
    have := or_add (p * 256 + s) (t * 2) 8 (by omega)
    rw [show (p * 256 + s) * 2 ^ 8 = p * 65536 + s * 256 by omega] at this
    exact this
  have o3 : p * 65536 + s * 256 + t * 2 ||| 1 = p * 65536 + s * 256 + t * 2 + 1 := by
    have := or_add (p * 32768 + s * 128 + t) 1 1 (by omega)
    rw [show (p * 32768 + s * 128 + t) * 2 ^ 1 = p * 65536 + s * 256 + t * 2 by omega] at this
    exact this
  rw [e1, e2, e3, u32_or_nat _ _ (by omega) (by omega), o1, u32_or_nat _ _ (by omega) (by omega), o2]
  cases v
  · rw [if_neg (by decide), if_neg (by decide)]
    refine congrArg some ?_
    omega
  · rw [if_pos rfl, if_pos rfl, show (1 : Int) = ((1 : Nat) : Int) from rfl, u32_or_nat _ _ (by omega) (by omega), o3]
    refine congrArg some ?_
    omega

theorem of_eq (w : Nat) (hw : w < 4294967296) : umlautref5_Of.f (w : Int) = some (((w / 65536 : Nat) : Int), ((w / 256 % 256 : Nat) : Int), ((w / 2 % 128 : Nat) : Int), decide (w % 2 = 1)) := by
  unfold umlautref5_Of.f
  have m1 : ∀ x : Nat, x &&& 255 = x % 256 := fun x => Nat.and_two_pow_sub_one_eq_mod x 8
  have m2 : ∀ x : Nat, x &&& 127 = x % 128 := fun x => Nat.and_two_pow_sub_one_eq_mod x 7
  have m3 : ∀ x : Nat, x &&& 1 = x % 2 := fun x => Nat.and_two_pow_sub_one_eq_mod x 1
  have f1 : wrap64 ((w : Int) / 65536) = ((w / 65536 : Nat) : Int) := by unfold wrap64; omega
  have f2 : wrap64 (Go.bits .and .u32 ((w : Int) / 256) 255) = ((w / 256 % 256 : Nat) : Int) := by
    have h := u32_and_nat (w / 256) 255 (by omega) (by omega)
    rw [m1] at h
    rw [show (w : Int) / 256 = ((w / 256 : Nat) : Int) by omega]
    refine (congrArg wrap64 h).trans ?_
    unfold wrap64
    omega
  have f3 : wrap64 (Go.bits .and .u32 ((w : Int) / 2) 127) = ((w / 2 % 128 : Nat) : Int) := by
    have h := u32_and_nat (w / 2) 127 (by omega) (by omega)
    rw [m2] at h
    rw [show (w : Int) / 2 = ((w / 2 : Nat) : Int) by omega]
    refine (congrArg wrap64 h).trans ?_
    unfold wrap64
    omega
  have f4 : (Go.bits .and .u32 (w : Int) 1 == 1) = decide (w % 2 = 1) := by
    have h := u32_and_nat w 1 hw (by omega)
    rw [m3] at h
    rw [show Go.bits .and .u32 (w : Int) 1 = ((w % 2 : Nat) : Int) from h, Bool.eq_iff_iff]
    simp
    omega
  rw [f1, f2, f3, f4]

end Go.Proofs.YtmgoncnjagihgaaDoor.PureW
