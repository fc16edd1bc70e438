/-
  Fields of bits as arithmetic on numbers: what is read and what is written.
-/
import Derived.Laws.Bits64b
import Derived.RowKit
namespace Go.Proofs.YtmgoncnjagihgaaDoor.PureN
open Go.RowKit

theorem getN (w a n : Nat) : (w &&& ((2 ^ n - 1) * 2 ^ a)) / 2 ^ a = w / 2 ^ a % 2 ^ n := by
  rw [← Nat.shiftRight_eq_div_pow, Nat.shiftRight_and_distrib, Nat.shiftRight_eq_div_pow, Nat.shiftRight_eq_div_pow, Nat.mul_div_cancel _ (Nat.two_pow_pos a), Nat.and_two_pow_sub_one_eq_mod]

theorem or_add (x y a : Nat) (h : y < 2 ^ a) : x * 2 ^ a ||| y = x * 2 ^ a + y := by
  rw [← Nat.shiftLeft_eq, Nat.shiftLeft_add_eq_or_of_lt h]

theorem mask_bit (a n i : Nat) : ((2 ^ n - 1) * 2 ^ a).testBit i = (decide (a ≤ i) && decide (i < a + n)) := by
  rw [← Nat.shiftLeft_eq, Nat.testBit_shiftLeft, Nat.testBit_two_pow_sub_one]
  by_cases h : a ≤ i
  · simp [h]; omega
  · simp [h]

/-- The bits of w beside the field, and the field's own out of v. -/
theorem setN (w v a n : Nat) (_hw : w < 2 ^ 64) (ha : a + n ≤ 64) :
    (w &&& (2 ^ 64 - 1 - (2 ^ n - 1) * 2 ^ a)) ||| (v * 2 ^ a % 2 ^ 64 &&& ((2 ^ n - 1) * 2 ^ a)) = w / 2 ^ (a + n) * 2 ^ (a + n) + ((v % 2 ^ n) * 2 ^ a + w % 2 ^ a) := by
  have hm : w % 2 ^ a < 2 ^ a := Nat.mod_lt _ (Nat.two_pow_pos a)
  have hv : v % 2 ^ n < 2 ^ n := Nat.mod_lt _ (Nat.two_pow_pos n)
  have hs : (v % 2 ^ n) * 2 ^ a + w % 2 ^ a < 2 ^ (a + n) := by
    rw [Nat.pow_add]
    calc (v % 2 ^ n) * 2 ^ a + w % 2 ^ a < (v % 2 ^ n) * 2 ^ a + 2 ^ a := by omega
      _ = (v % 2 ^ n + 1) * 2 ^ a := by rw [Nat.succ_mul]
      _ ≤ 2 ^ n * 2 ^ a := Nat.mul_le_mul_right _ (by omega)
      _ = 2 ^ a * 2 ^ n := Nat.mul_comm _ _
  rw [← or_add _ _ _ hs, ← or_add _ _ _ hm]
  apply Nat.eq_of_testBit_eq
  intro i
  have hM : (2 ^ n - 1) * 2 ^ a < 2 ^ 64 := by
    calc (2 ^ n - 1) * 2 ^ a < 2 ^ n * 2 ^ a := Nat.mul_lt_mul_of_pos_right (by have := Nat.two_pow_pos n; omega) (Nat.two_pow_pos a)
      _ = 2 ^ (n + a) := (Nat.pow_add 2 n a).symm
      _ ≤ 2 ^ 64 := Nat.pow_le_pow_right (by decide) (by omega)
  rw [Nat.testBit_or, Nat.testBit_or, Nat.testBit_or, Nat.testBit_and, Nat.testBit_and, show 2 ^ 64 - 1 - (2 ^ n - 1) * 2 ^ a = 2 ^ 64 - ((2 ^ n - 1) * 2 ^ a + 1) by omega, Nat.testBit_two_pow_sub_succ hM, mask_bit, Nat.testBit_mod_two_pow,
    ← Nat.shiftLeft_eq, ← Nat.shiftLeft_eq, ← Nat.shiftLeft_eq, Nat.testBit_shiftLeft, Nat.testBit_shiftLeft, Nat.testBit_shiftLeft, Nat.testBit_mod_two_pow, Nat.testBit_mod_two_pow, ← Nat.shiftRight_eq_div_pow, Nat.testBit_shiftRight]
  have hwi : 64 ≤ i → w.testBit i = false := fun h => Nat.testBit_lt_two_pow (Nat.lt_of_lt_of_le _hw (Nat.pow_le_pow_right (by decide) h))
  by_cases h1 : a ≤ i
  · by_cases h2 : i < a + n
    · have h3 : i < 64 := by omega
      have h4 : ¬ (a + n ≤ i) := by omega
      have h5 : ¬ (i < a) := by omega
      have h6 : i - a < n := by omega
      simp [h1, h2, h3, h4, h5, h6]
    · have h4 : a + n ≤ i := by omega
      have h5 : ¬ (i < a) := by omega
      have h6 : ¬ (i - a < n) := by omega
      rw [show a + n + (i - (a + n)) = i by omega]
      by_cases h3 : i < 64
      · simp [h1, h2, h3, h4, h5, h6]
      · simp [h1, h2, h3, h4, h5, h6, hwi (by omega)]
  · have h4 : ¬ (a + n ≤ i) := by omega
    have h5 : i < a := by omega
    have h3 : i < 64 := by omega
    simp [h1, h3, h4, h5]

end Go.Proofs.YtmgoncnjagihgaaDoor.PureN
