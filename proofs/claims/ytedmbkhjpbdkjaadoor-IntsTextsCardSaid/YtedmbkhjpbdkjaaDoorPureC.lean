/-
  The printed functions on single bits of words, told by words of 64 bits; and the laws IntsFields and IntsBits over them.
-/
import Derived.Test.YtedmbkhjpbdkjaaDoorPureA
namespace Go.Proofs.YtedmbkhjpbdkjaaDoor.PureI
set_option linter.unusedSimpArgs false
set_option linter.unusedVariables false
open Go.RowKit Go.Proofs.YtedmbkhjpbdkjaaDoorW.PrintWords Go.Proofs.YtedmbkhjpbdkjaaDoorW.PrintLast Go.Proofs.YtedmbkhjpbdkjaaDoorW.PrintMore Go.Proofs.YtedmbkhjpbdkjaaDoor.XI Go.Proofs.YtedmbkhjpbdkjaaDoor.Given

abbrev B64 := BitVec 64
theorem ofInt_nat (x : B64) : BitVec.ofInt 64 (x.toNat : Int) = x := by rw [BitVec.ofInt_natCast]; simp
theorem u64_nat (x : B64) : IntKind.u64.wrap (x.toNat : Int) = x.toNat := by
  rw [u64_wrap]
  have := x.isLt
  omega
theorem of_u64 {a : Int} (h : U64 a) : ∃ x : B64, a = x.toNat := by
  unfold U64 at h
  refine ⟨BitVec.ofNat 64 a.toNat, ?_⟩
  rw [BitVec.toNat_ofNat]
  omega
theorem and_bv (x y : B64) : Go.bits .and .u64 (x.toNat : Int) (y.toNat : Int) = ((x &&& y).toNat : Int) := by
  unfold Go.bits
  simp only [IntKind.bits, ofInt_nat]
  exact u64_nat _
theorem or_bv (x y : B64) : Go.bits .or .u64 (x.toNat : Int) (y.toNat : Int) = ((x ||| y).toNat : Int) := by
  unfold Go.bits
  simp only [IntKind.bits, ofInt_nat]
  exact u64_nat _
theorem andNot_bv (x y : B64) : Go.bits .andNot .u64 (x.toNat : Int) (y.toNat : Int) = ((x &&& ~~~y).toNat : Int) := by
  unfold Go.bits
  simp only [IntKind.bits, ofInt_nat]
  exact u64_nat _
theorem mul_pow_bv (x : B64) (n : Nat) : IntKind.u64.wrap ((x.toNat : Int) * 2 ^ n) = ((x <<< n).toNat : Int) := by
  rw [u64_wrap, BitVec.toNat_shiftLeft, Nat.shiftLeft_eq]
  simp
theorem div_pow_bv (x : B64) (n : Nat) : (x.toNat : Int) / 2 ^ n = ((x >>> n).toNat : Int) := by
  rw [BitVec.toNat_ushiftRight, Nat.shiftRight_eq_div_pow]
  simp
theorem shl_bv (x : B64) (n : Nat) (h : n ≤ 64) : shl .u64 (x.toNat : Int) (n : Int) = ((x <<< n).toNat : Int) := by
  unfold shl
  rw [Int.toNat_natCast, Nat.min_eq_left (by simp [IntKind.bits]; omega)]
  exact mul_pow_bv x n
theorem shr_bv (x : B64) (n : Nat) (h : n ≤ 64) : shr .u64 (x.toNat : Int) (n : Int) = ((x >>> n).toNat : Int) := by
  unfold shr
  rw [Int.toNat_natCast, Nat.min_eq_left (by simp [IntKind.bits]; omega)]
  exact div_pow_bv x n
theorem one_bv : (1 : Int) = ((1#64 : B64).toNat : Int) := rfl
theorem bit_test (x : B64) : (Go.bits .and .u64 (x.toNat : Int) 1 = 1) = (x.getLsbD 0 = true) := by
  rw [one_bv, and_bv]
  have e : (x &&& 1#64).toNat = x.toNat % 2 := by rw [BitVec.toNat_and]; exact Nat.and_one_is_mod _
  rw [e, ← BitVec.testBit_toNat, Nat.testBit_zero]
  simp
  omega
theorem one_get (i : Nat) : (1#64 : B64).getLsbD i = decide (i = 0) := by
  rw [BitVec.getLsbD_one]
  simp

/-- n bits from bit p on. -/
def maskB (p : Nat) (n : Int) : B64 := (if n < 64 then BitVec.ofNat 64 (2 ^ n.toNat - 1) else BitVec.allOnes 64) <<< p
theorem maskB_get (p : Nat) (n : Int) (hn : 1 ≤ n) (i : Nat) (hi : i < 64) : (maskB p n).getLsbD i = (decide (p ≤ i) && decide ((i : Int) < p + n)) := by
  unfold maskB
  rw [BitVec.getLsbD_shiftLeft]
  split
  · rw [BitVec.getLsbD_ofNat, Nat.testBit_two_pow_sub_one]
    by_cases h : p ≤ i <;> by_cases h2 : (i : Int) < p + n <;> simp [h, h2, hi] <;> omega
  · rw [BitVec.getLsbD_allOnes]
    by_cases h : p ≤ i <;> by_cases h2 : (i : Int) < p + n <;> simp [h, h2, hi] <;> omega
theorem mask_eq (p : Nat) (hp : p < 64) (n : Int) (hn : 1 ≤ n) (k : Nat) : ints_mask.f (k + 1) (p : Int) n = some ((maskB p n).toNat : Int) := by
  have hd : decide (n < 1) = false := decide_eq_false (by omega)
  unfold ints_mask.f
  rw [if_neg (by omega), if_neg (by omega), hd]
  simp only [ints_mask.j0, Bool.false_eq_true, if_false]
  unfold maskB
  split
  · rename_i h
    rw [if_pos (by omega), if_pos (by omega)]
    obtain ⟨m, rfl⟩ := Int.eq_ofNat_of_zero_le (show 0 ≤ n by omega)
    have hpow : 2 ^ m ≤ 9223372036854775808 := Nat.pow_le_pow_right (n := 2) (by decide) (show m ≤ 63 by omega)
    have hpos : 0 < 2 ^ m := Nat.two_pow_pos m
    have e : IntKind.u64.wrap (shl .u64 1 (m : Int) - 1) = ((BitVec.ofNat 64 (2 ^ m - 1)).toNat : Int) := by
      rw [one_bv, shl_bv _ _ (by omega), ← one_bv, BitVec.toNat_shiftLeft, BitVec.toNat_ofNat, u64_wrap]
      rw [show (1 % 2 ^ 64) <<< m = 2 ^ m by rw [Nat.shiftLeft_eq]; simp, BitVec.toNat_ofNat]
      omega
    rw [Int.toNat_natCast]
    exact congrArg some ((congrArg (fun z => shl .u64 z (p : Int)) e).trans (shl_bv _ _ (by omega)))
  · rename_i h
    rw [if_pos (by omega)]
    exact congrArg some (shl_bv (BitVec.allOnes 64) p (by omega))
theorem mask_bad {p n : Int} (h : p < 0 ∨ 64 ≤ p ∨ n < 1) (k : Nat) : ints_mask.f (k + 1) p n = some (((0#64 : B64).toNat : Nat) : Int) := by
  unfold ints_mask.f
  split
  · simp [ints_mask.j0]
  · split
    · simp [ints_mask.j0]
    · have : n < 1 := by omega
      simp [ints_mask.j0, this]

def getB (w : B64) (p : Nat) (n : Int) : B64 := (w &&& maskB p n) >>> p
def setB (w : B64) (p : Nat) (n : Int) (v : B64) : B64 := (w &&& ~~~(maskB p n)) ||| ((v <<< p) &&& maskB p n)
theorem getB_get (w : B64) (p : Nat) (n : Int) (hn : 1 ≤ n) (i : Nat) : (getB w p n).getLsbD i = (decide (p + i < 64) && decide ((i : Int) < n) && w.getLsbD (p + i)) := by
  unfold getB
  rw [BitVec.getLsbD_ushiftRight, BitVec.getLsbD_and]
  by_cases h : p + i < 64
  · rw [maskB_get p n hn _ h]
    by_cases h2 : (i : Int) < n
    · rw [decide_eq_true h, decide_eq_true h2, decide_eq_true (show p ≤ p + i by omega), decide_eq_true (show ((p + i : Nat) : Int) < p + n by omega)]
      simp
    · rw [decide_eq_false h2, decide_eq_false (show ¬ ((p + i : Nat) : Int) < p + n by omega)]
      simp
  · rw [BitVec.getLsbD_of_ge w (p + i) (by omega)]
    simp
theorem setB_get (w v : B64) (p : Nat) (n : Int) (hn : 1 ≤ n) (i : Nat) (hi : i < 64) : (setB w p n v).getLsbD i = if p ≤ i ∧ (i : Int) < p + n then v.getLsbD (i - p) else w.getLsbD i := by
  unfold setB
  rw [BitVec.getLsbD_or, BitVec.getLsbD_and, BitVec.getLsbD_and, BitVec.getLsbD_not, BitVec.getLsbD_shiftLeft, maskB_get p n hn i hi]
  by_cases h : p ≤ i <;> by_cases h2 : (i : Int) < p + n <;> simp [h, h2, hi] <;> omega
theorem place {p : Nat} (hp : p < 64) : (mn (mx (p : Int) 0) 64).toNat = p := by
  unfold mn mx
  repeat' split
  all_goals omega
theorem get_eq (w : B64) (p : Nat) (hp : p < 64) (n : Int) (hn : 1 ≤ n) (k : Nat) : ints_Get.f (k + 1) (w.toNat : Int) (p : Int) n = some ((getB w p n).toNat : Int) := by
  unfold ints_Get.f
  rw [mask_eq p hp n hn]
  simp only [Option.bind_some]
  rw [and_bv, place hp, div_pow_bv]
  rfl
theorem set_eq (w v : B64) (p : Nat) (hp : p < 64) (n : Int) (hn : 1 ≤ n) (k : Nat) : ints_Set.f (k + 1) (w.toNat : Int) (p : Int) n (v.toNat : Int) = some ((setB w p n v).toNat : Int) := by
  unfold ints_Set.f
  rw [mask_eq p hp n hn]
  simp only [Option.bind_some]
  rw [place hp, mul_pow_bv, andNot_bv, and_bv, or_bv]
  rfl
theorem get_bad (w : B64) {p n : Int} (h : p < 0 ∨ 64 ≤ p ∨ n < 1) (k : Nat) : ints_Get.f (k + 1) (w.toNat : Int) p n = some 0 := by
  unfold ints_Get.f
  rw [mask_bad h]
  simp only [Option.bind_some]
  rw [and_bv]
  simp
theorem set_bad (w v : B64) {p n : Int} (h : p < 0 ∨ 64 ≤ p ∨ n < 1) (k : Nat) : ints_Set.f (k + 1) (w.toNat : Int) p n (v.toNat : Int) = some (w.toNat : Int) := by
  unfold ints_Set.f
  rw [mask_bad h]
  simp only [Option.bind_some]
  rw [mul_pow_bv, andNot_bv, and_bv, or_bv]
  congr 2
  refine congrArg BitVec.toNat ?_
  apply BitVec.eq_of_getLsbD_eq
  intro i hi
  rw [BitVec.getLsbD_or, BitVec.getLsbD_and, BitVec.getLsbD_and, BitVec.getLsbD_not, BitVec.getLsbD_zero]
  simp [hi]

/-! ### the reference, bit by bit -/
theorem rget_bad (w : B64) {p n : Int} (h : p < 0 ∨ 64 ≤ p ∨ n < 1) (k : Nat) : umlautref1_Get.f (k + 1) (w.toNat : Int) p n = some 0 := by
  unfold umlautref1_Get.f
  split
  · simp [umlautref1_Get.j0]
  · split
    · simp [umlautref1_Get.j0]
    · have : n < 1 := by omega
      simp [umlautref1_Get.j0, this]
theorem rset_bad (w v : B64) {p n : Int} (h : p < 0 ∨ 64 ≤ p ∨ n < 1) (k : Nat) : umlautref1_Set.f (k + 1) (w.toNat : Int) p n (v.toNat : Int) = some (w.toNat : Int) := by
  unfold umlautref1_Set.f
  split
  · simp [umlautref1_Set.j0]
  · split
    · simp [umlautref1_Set.j0]
    · have : n < 1 := by omega
      simp [umlautref1_Set.j0, this]
theorem w64 {x : Nat} (h : x < 1000000) : wrap64 (x : Int) = x := wrap64_in (by unfold I64; omega)
theorem rget_loop (w : B64) (p : Nat) (n : Int) (hn : 1 ≤ n) (d : Nat) : ∀ (k : Nat) (out : B64) (i : Nat), p + i + d = 64 → (i : Int) ≤ n → (∀ j, j < 64 → out.getLsbD j = (decide (j < i) && w.getLsbD (p + j))) → 2 * d + 1 < k →
    umlautref1_Get.l0 k (w.toNat : Int) (p : Int) n (out.toNat : Int) (i : Int) = some ((getB w p n).toNat : Int) := by
  induction d with
  | zero =>
    intro k out i hd hin hout hk
    obtain ⟨k, rfl⟩ : ∃ m, k = m + 2 := ⟨k - 2, by omega⟩
    have fin : out = getB w p n := by
      apply BitVec.eq_of_getLsbD_eq
      intro j hj
      rw [hout j hj, getB_get w p n hn]
      by_cases h : j < i
      · rw [decide_eq_true h, decide_eq_true (show p + j < 64 by omega), decide_eq_true (show (j : Int) < n by omega)]
        simp
      · rw [decide_eq_false h, decide_eq_false (show ¬ p + j < 64 by omega)]
        simp
    subst fin
    simp only [umlautref1_Get.l0]
    have e : wrap64 ((p : Int) + (i : Int)) = ((p + i : Nat) : Int) := by rw [← Int.natCast_add]; exact w64 (by omega)
    split
    · rw [e, decide_eq_false (show ¬ ((p + i : Nat) : Int) < 64 by omega)]
      simp [umlautref1_Get.j2]
    · simp [umlautref1_Get.j2]
  | succ d ih =>
    intro k out i hd hin hout hk
    obtain ⟨k, rfl⟩ : ∃ m, k = m + 2 := ⟨k - 2, by omega⟩
    simp only [umlautref1_Get.l0]
    have e : wrap64 ((p : Int) + (i : Int)) = ((p + i : Nat) : Int) := by rw [← Int.natCast_add]; exact w64 (by omega)
    have e1 : wrap64 ((i : Int) + 1) = ((i + 1 : Nat) : Int) := by
      rw [show (i : Int) + 1 = ((i + 1 : Nat) : Int) by omega]; exact w64 (by omega)
    split
    · rename_i hlt
      rw [e, decide_eq_true (show ((p + i : Nat) : Int) < 64 by omega)]
      simp only [umlautref1_Get.j2, if_true]
      rw [e, if_pos (by omega), shr_bv _ _ (by omega), e1, if_pos (show (0 : Int) ≤ (i : Int) by omega)]
      simp only [bit_test, BitVec.getLsbD_ushiftRight, Nat.add_zero]
      split
      · rename_i hb
        have e2 : Go.bits .or .u64 (out.toNat : Int) (shl .u64 1 (i : Int)) = ((out ||| ((1#64 : B64) <<< i)).toNat : Int) := by
          rw [one_bv, shl_bv _ _ (by omega), or_bv]
        rw [e2]
        refine ih k _ (i + 1) (by omega) (by omega) (fun j hj => ?_) (by omega)
        rw [BitVec.getLsbD_or, hout j hj, BitVec.getLsbD_shiftLeft, one_get]
        rcases Nat.lt_trichotomy j i with h | h | h
        · rw [decide_eq_true h, decide_eq_true (show j < i + 1 by omega)]
          simp
        · subst h
          simp [hb, hj]
        · rw [decide_eq_false (show ¬ j < i by omega), decide_eq_false (show ¬ j < i + 1 by omega), decide_eq_false (show ¬ j - i = 0 by omega)]
          simp
      · rename_i hb
        refine ih k _ (i + 1) (by omega) (by omega) (fun j hj => ?_) (by omega)
        rw [hout j hj]
        rcases Nat.lt_trichotomy j i with h | h | h
        · rw [decide_eq_true h, decide_eq_true (show j < i + 1 by omega)]
        · subst h
          simp [hb]
        · rw [decide_eq_false (show ¬ j < i by omega), decide_eq_false (show ¬ j < i + 1 by omega)]
    · rename_i hlt
      simp only [umlautref1_Get.j2, Bool.false_eq_true, if_false]
      congr 3
      apply BitVec.eq_of_getLsbD_eq
      intro j hj
      rw [hout j hj, getB_get w p n hn]
      by_cases h : j < i
      · rw [decide_eq_true h, decide_eq_true (show p + j < 64 by omega), decide_eq_true (show (j : Int) < n by omega)]
        simp
      · rw [decide_eq_false h, decide_eq_false (show ¬ (j : Int) < n by omega)]
        simp
theorem rget_eq (w : B64) (p : Nat) (hp : p < 64) (n : Int) (hn : 1 ≤ n) (k : Nat) (hk : 140 ≤ k) : umlautref1_Get.f (k + 1) (w.toNat : Int) (p : Int) n = some ((getB w p n).toNat : Int) := by
  unfold umlautref1_Get.f
  rw [if_neg (by omega), if_neg (by omega), decide_eq_false (show ¬ n < 1 by omega)]
  simp only [umlautref1_Get.j0, Bool.false_eq_true, if_false]
  exact rget_loop w p n hn (64 - p) k 0#64 0 (by omega) (by omega) (fun j hj => by simp) (by omega)
theorem rset_loop (w0 v : B64) (p : Nat) (n : Int) (hn : 1 ≤ n) (d : Nat) : ∀ (k : Nat) (w : B64) (i : Nat), p + i + d = 64 → (i : Int) ≤ n → (∀ j, j < 64 → w.getLsbD j = if p ≤ j ∧ j < p + i then v.getLsbD (j - p) else w0.getLsbD j) → 2 * d + 1 < k →
    umlautref1_Set.l0 k (w.toNat : Int) (p : Int) n (v.toNat : Int) (i : Int) = some ((setB w0 p n v).toNat : Int) := by
  have fin : ∀ (w : B64) (i : Nat), (p + i = 64 ∨ (i : Int) = n) → (i : Int) ≤ n → (∀ j, j < 64 → w.getLsbD j = if p ≤ j ∧ j < p + i then v.getLsbD (j - p) else w0.getLsbD j) → w = setB w0 p n v := by
    intro w i h hin hw
    apply BitVec.eq_of_getLsbD_eq
    intro j hj
    rw [hw j hj, setB_get w0 v p n hn j hj]
    by_cases h1 : p ≤ j ∧ j < p + i
    · rw [if_pos h1, if_pos (by omega)]
    · rw [if_neg h1, if_neg (by omega)]
  induction d with
  | zero =>
    intro k w i hd hin hw hk
    obtain ⟨k, rfl⟩ : ∃ m, k = m + 2 := ⟨k - 2, by omega⟩
    have e : wrap64 ((p : Int) + (i : Int)) = ((p + i : Nat) : Int) := by rw [← Int.natCast_add]; exact w64 (by omega)
    rw [← fin w i (by omega) hin hw]
    simp only [umlautref1_Set.l0]
    split
    · rw [e, decide_eq_false (show ¬ ((p + i : Nat) : Int) < 64 by omega)]
      simp [umlautref1_Set.j2]
    · simp [umlautref1_Set.j2]
  | succ d ih =>
    intro k w i hd hin hw hk
    obtain ⟨k, rfl⟩ : ∃ m, k = m + 2 := ⟨k - 2, by omega⟩
    have e : wrap64 ((p : Int) + (i : Int)) = ((p + i : Nat) : Int) := by rw [← Int.natCast_add]; exact w64 (by omega)
    have e1 : wrap64 ((i : Int) + 1) = ((i + 1 : Nat) : Int) := by
      rw [show (i : Int) + 1 = ((i + 1 : Nat) : Int) by omega]; exact w64 (by omega)
    simp only [umlautref1_Set.l0]
    split
    · rename_i hlt
      rw [e, decide_eq_true (show ((p + i : Nat) : Int) < 64 by omega)]
      simp only [umlautref1_Set.j2, if_true]
      rw [e, if_pos (by omega), shr_bv _ _ (by omega), e1, if_pos (show (0 : Int) ≤ (i : Int) by omega)]
      simp only [bit_test, BitVec.getLsbD_ushiftRight, Nat.add_zero]
      have e2 : shl .u64 1 ((p + i : Nat) : Int) = (((1#64 : B64) <<< (p + i)).toNat : Int) := by rw [one_bv, shl_bv _ _ (by omega)]
      rw [e2, andNot_bv, or_bv]
      split
      · rename_i hb
        refine ih k _ (i + 1) (by omega) (by omega) (fun j hj => ?_) (by omega)
        rw [BitVec.getLsbD_or, BitVec.getLsbD_and, BitVec.getLsbD_not, BitVec.getLsbD_shiftLeft, one_get, hw j hj]
        by_cases h : j = p + i
        · subst h
          rw [if_pos (show p ≤ p + i ∧ p + i < p + (i + 1) by omega)]
          simp [hj, hb]
        · have h0 : (decide (j < 64) && !decide (j < p + i) && decide (j - (p + i) = 0)) = false := by
            by_cases h2 : j < p + i
            · simp [h2]
            · rw [decide_eq_false (show ¬ j - (p + i) = 0 by omega)]
              simp
          rw [h0]
          by_cases h1 : p ≤ j ∧ j < p + i
          · rw [if_pos h1, if_pos (by omega)]
            simp [hj]
          · rw [if_neg h1, if_neg (by omega)]
            simp [hj]
      · rename_i hb
        refine ih k _ (i + 1) (by omega) (by omega) (fun j hj => ?_) (by omega)
        rw [BitVec.getLsbD_and, BitVec.getLsbD_not, BitVec.getLsbD_shiftLeft, one_get, hw j hj]
        by_cases h : j = p + i
        · subst h
          rw [if_pos (show p ≤ p + i ∧ p + i < p + (i + 1) by omega)]
          simp [hj, hb]
        · have h0 : (decide (j < 64) && !decide (j < p + i) && decide (j - (p + i) = 0)) = false := by
            by_cases h2 : j < p + i
            · simp [h2]
            · rw [decide_eq_false (show ¬ j - (p + i) = 0 by omega)]
              simp
          rw [h0]
          by_cases h1 : p ≤ j ∧ j < p + i
          · rw [if_pos h1, if_pos (by omega)]
            simp [hj]
          · rw [if_neg h1, if_neg (by omega)]
            simp [hj]
    · rename_i hlt
      simp only [umlautref1_Set.j2, Bool.false_eq_true, if_false]
      rw [← fin w i (by omega) hin hw]
theorem rset_eq (w v : B64) (p : Nat) (hp : p < 64) (n : Int) (hn : 1 ≤ n) (k : Nat) (hk : 140 ≤ k) : umlautref1_Set.f (k + 1) (w.toNat : Int) (p : Int) n (v.toNat : Int) = some ((setB w p n v).toNat : Int) := by
  unfold umlautref1_Set.f
  rw [if_neg (by omega), if_neg (by omega), decide_eq_false (show ¬ n < 1 by omega)]
  simp only [umlautref1_Set.j0, Bool.false_eq_true, if_false]
  refine rset_loop w v p n hn (64 - p) k w 0 (by omega) (by omega) (fun j hj => ?_) (by omega)
  rw [if_neg (by omega)]

theorem get_set (w v : B64) (p : Nat) (hp : p < 64) (n : Int) (hn : 1 ≤ n) (m : Int) (hm : m = if n < 64 - p then n else 64 - (p : Int)) : getB (setB w p n v) p n = getB v 0 m := by
  apply BitVec.eq_of_getLsbD_eq
  intro j hj
  rw [getB_get _ p n hn, getB_get _ 0 m (by split at hm <;> omega)]
  by_cases h : p + j < 64
  · rw [setB_get _ _ p n hn _ h]
    by_cases h2 : (j : Int) < n
    · rw [if_pos (by omega), decide_eq_true h, decide_eq_true h2, decide_eq_true (show 0 + j < 64 by omega), decide_eq_true (show (j : Int) < m by split at hm <;> omega)]
      simp
    · rw [decide_eq_false h2, decide_eq_false (show ¬ (j : Int) < m by split at hm <;> omega)]
      simp
  · rw [decide_eq_false h, decide_eq_false (show ¬ (j : Int) < m by split at hm <;> omega)]
    simp
theorem set_get (w v : B64) (p : Nat) (n : Int) (hn : 1 ≤ n) : setB (setB w p n v) p n (getB w p n) = w := by
  apply BitVec.eq_of_getLsbD_eq
  intro j hj
  rw [setB_get _ _ p n hn j hj]
  by_cases h : p ≤ j ∧ (j : Int) < p + n
  · rw [if_pos h, getB_get _ p n hn, show p + (j - p) = j by omega, decide_eq_true hj, decide_eq_true (show ((j - p : Nat) : Int) < n by omega)]
    simp
  · rw [if_neg h, setB_get _ _ p n hn j hj, if_neg h]

theorem IntsFields : umlautlaw1_IntsFields.Pure := by
  intro w p n v hw hp hn hv
  obtain ⟨w, rfl⟩ := of_u64 (u64_of hw)
  obtain ⟨v, rfl⟩ := of_u64 (u64_of hv)
  have hp := i64_of hp
  have hn := i64_of hn
  refine ⟨150, ?_⟩
  unfold umlautlaw1_IntsFields.f
  by_cases h : p < 0 ∨ 64 ≤ p ∨ n < 1
  · rw [set_bad w v h 149, get_bad w h 149, rget_bad w h 149, rset_bad w v h 149]
    simp only [Option.bind_some, if_true, bne_self_eq_false]
    have last : umlautlaw1_IntsFields.j1 149 (w.toNat : Int) p n (v.toNat : Int) (w.toNat : Int) true = some true := by
      simp [umlautlaw1_IntsFields.j1, awake]
    simp only [umlautlaw1_IntsFields.j0, Bool.false_eq_true, if_false]
    split
    · exact last
    · split
      · exact last
      · rw [decide_eq_true (show n < 1 by omega)]
        exact last
  · obtain ⟨q, rfl⟩ := Int.eq_ofNat_of_zero_le (show 0 ≤ p by omega)
    have hq : q < 64 := by omega
    have hn1 : 1 ≤ n := by omega
    rw [set_eq w v q hq n hn1 149, get_eq w q hq n hn1 149, rget_eq w q hq n hn1 149 (by decide), rset_eq w v q hq n hn1 149 (by decide)]
    simp only [Option.bind_some, if_true, bne_self_eq_false]
    simp only [umlautlaw1_IntsFields.j0, Bool.false_eq_true, if_false]
    rw [if_neg (by omega), if_neg (by omega), decide_eq_false (show ¬ n < 1 by omega)]
    simp only [umlautlaw1_IntsFields.j1, Bool.false_eq_true, if_false]
    have e : wrap64 (64 - (q : Int)) = 64 - (q : Int) := wrap64_in (by unfold I64; omega)
    have em : mn n (64 - (q : Int)) = if n < 64 - (q : Int) then n else 64 - (q : Int) := by
      unfold mn
      split <;> split <;> omega
    rw [e, get_eq _ q hq n hn1 147, get_eq _ q hq n hn1 147]
    have hr := rget_eq v 0 (by decide) (mn n (64 - (q : Int))) (by rw [em]; split <;> omega) 147 (by decide)
    rw [show ((0 : Nat) : Int) = 0 from rfl] at hr
    rw [hr]
    simp only [Option.bind_some]
    rw [set_eq _ _ q hq n hn1 147, set_get w v q n hn1]
    simp only [Option.bind_some]
    rw [get_set w v q hq n hn1 _ em, if_pos rfl]
    simp only [if_true, awake, Option.bind_some]
end Go.Proofs.YtedmbkhjpbdkjaaDoor.PureI
