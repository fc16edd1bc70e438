/-
  The reference's text of a number is its decimal digits; and the law IntsPowers.
-/
import Derived.Test.YtedmbkhjpbdkjaaDoorPureB
import Derived.Test.YtedmbkhjpbdkjaaDoorPureE
namespace Go.Proofs.YtedmbkhjpbdkjaaDoor.PureI
set_option linter.unusedSimpArgs false
set_option linter.unusedVariables false
open Go.RowKit Go.Proofs.YtedmbkhjpbdkjaaDoorW.PrintWords Go.Proofs.YtedmbkhjpbdkjaaDoorW.PrintLast Go.Proofs.YtedmbkhjpbdkjaaDoorW.PrintMore Go.Proofs.YtedmbkhjpbdkjaaDoor.XI Go.Proofs.YtedmbkhjpbdkjaaDoor.Given

def ofL (l : List UInt8) : ByteArray := ⟨l.toArray⟩
theorem ofL_append (a b : List UInt8) : ofL a ++ ofL b = ofL (a ++ b) := by
  apply ByteArray.ext
  rw [ByteArray.data_append]
  simp [ofL]
theorem ofL_size (a : List UInt8) : (ofL a).size = a.length := by simp [ofL, ByteArray.size]
theorem digit_at : ∀ d : Fin 10, (⟨#[48, 49, 50, 51, 52, 53, 54, 55, 56, 57]⟩ : ByteArray).extract d.val (d.val + 1) = ofL [UInt8.ofNat (48 + d.val)] := by decide +kernel
theorem digit_int {x : Int} (h0 : 0 ≤ x) (h1 : x < 10) : (⟨#[48, 49, 50, 51, 52, 53, 54, 55, 56, 57]⟩ : ByteArray).extract x.toNat (wrap64 (x + 1)).toNat = ofL [UInt8.ofNat (48 + x.toNat)] := by
  have e : (wrap64 (x + 1)).toNat = x.toNat + 1 := by unfold wrap64; omega
  rw [e]
  exact digit_at ⟨x.toNat, by omega⟩
theorem rtext_loop (d : Nat) : ∀ (k n : Nat) (s : List UInt8), n < 10 ^ (d + 1) → n ≤ 9223372036854775807 → s.length + d ≤ 1000 → d < k →
    umlautref1_Text.l0 k (n : Int) (ofL s) = some (ofL (Lib.decDigits n ++ s)) := by
  induction d with
  | zero =>
    intro k n s hn hm hs hk
    obtain ⟨k, rfl⟩ : ∃ m, k = m + 1 := ⟨k - 1, by omega⟩
    have h10 : n < 10 := by simpa using hn
    simp only [umlautref1_Text.l0]
    have e := digit_int (x := (n : Int)) (by omega) (by omega)
    rw [if_neg (by omega), if_pos (by omega), if_pos (by unfold wrap64; omega), if_pos (by unfold wrap64; omega), e, if_pos (by rw [ofL_size, ofL_size]; simp; omega), ofL_append, Lib.decDigits, dif_pos h10, Int.toNat_natCast]
  | succ d ih =>
    intro k n s hn hm hs hk
    obtain ⟨k, rfl⟩ : ∃ m, k = m + 1 := ⟨k - 1, by omega⟩
    simp only [umlautref1_Text.l0]
    by_cases h10 : n < 10
    · have e := digit_int (x := (n : Int)) (by omega) (by omega)
      rw [if_neg (by omega), if_pos (by omega), if_pos (by unfold wrap64; omega), if_pos (by unfold wrap64; omega), e, if_pos (by rw [ofL_size, ofL_size]; simp; omega), ofL_append, Lib.decDigits, dif_pos h10, Int.toNat_natCast]
    · have em : Int.tmod (n : Int) 10 = ((n % 10 : Nat) : Int) := by rw [Int.tmod_eq_emod_of_nonneg (by omega)]; omega
      have ed : wrap64 (Int.tdiv (n : Int) 10) = ((n / 10 : Nat) : Int) := by rw [Int.tdiv_eq_ediv_of_nonneg (by omega)]; unfold wrap64; omega
      have hmod : n % 10 < 10 := Nat.mod_lt _ (by decide)
      have e := digit_int (x := ((n % 10 : Nat) : Int)) (by omega) (by omega)
      rw [if_pos (by omega), em, ed, if_pos (by omega), if_pos (by unfold wrap64; omega), if_pos (by unfold wrap64; omega), e, if_pos (by rw [ofL_size, ofL_size]; simp; omega), ofL_append,
        ih k (n / 10) _ (by rw [Nat.pow_succ] at hn; omega) (by omega) (by simp; omega) (by omega), Int.toNat_natCast]
      have e2 : Lib.decDigits n = Lib.decDigits (n / 10) ++ [UInt8.ofNat (48 + n % 10)] := by
        rw [Lib.decDigits, dif_neg h10]
      rw [e2, List.append_assoc]
theorem dec_len (d : Nat) : ∀ n : Nat, n < 10 ^ (d + 1) → (Lib.decDigits n).length ≤ d + 1 := by
  induction d with
  | zero => intro n h; rw [Lib.decDigits, dif_pos (by simpa using h)]; simp
  | succ d ih =>
    intro n h
    rw [Lib.decDigits]
    split
    · simp
    · have := ih (n / 10) (by rw [Nat.pow_succ] at h; omega)
      simp
      omega
theorem least_digits : Lib.decDigits 9223372036854775808 = [57, 50, 50, 51, 51, 55, 50, 48, 51, 54, 56, 53, 52, 55, 55, 53, 56, 48, 56] := by
  simp [Lib.decDigits]
theorem rtext_eq {a : Int} (ha : I64 a) (k : Nat) (hk : 30 ≤ k) : umlautref1_Text.f (k + 2) a = some (ofL (Lib.itoa a)) := by
  unfold I64 at ha
  have hbig : ∀ n : Nat, n ≤ 9223372036854775807 → n < 10 ^ (18 + 1) := fun n h => by
    have : (10 : Nat) ^ (18 + 1) = 10000000000000000000 := by decide +kernel
    omega
  have hlen : ∀ n : Nat, n ≤ 9223372036854775807 → (Lib.decDigits n).length ≤ 100 := fun n h => by
    have := dec_len 18 n (hbig n h)
    omega
  have up : ∀ j, 30 ≤ j → ∀ n : Nat, n ≤ 9223372036854775807 → umlautref1_Text.f (j + 1) (n : Int) = some (ofL (Lib.decDigits n)) := by
    intro j hj n hn
    simp only [umlautref1_Text.f]
    rw [if_neg (by omega), if_neg (by omega)]
    have := rtext_loop 18 j n [] (hbig n hn) hn (by simp) (by omega)
    rw [List.append_nil] at this
    exact this
  unfold Lib.itoa
  split
  · rename_i hneg
    by_cases hl : a = -9223372036854775808
    · subst hl
      rw [show (-9223372036854775808 : Int).natAbs = 9223372036854775808 from rfl, least_digits]
      rfl
    · have e : wrap64 (-a) = (a.natAbs : Int) := by unfold wrap64; omega
      simp only [umlautref1_Text.f]
      rw [if_neg hl, if_pos hneg, e]
      have h1 := up k hk a.natAbs (by omega)
      simp only [umlautref1_Text.f] at h1
      rw [h1]
      simp only [Option.bind_some]
      have h2 := hlen a.natAbs (by omega)
      rw [if_pos (by rw [ofL_size]; omega)]
      exact congrArg some (ofL_append [45] _)
  · rename_i hneg
    obtain ⟨n, rfl⟩ := Int.eq_ofNat_of_zero_le (show 0 ≤ a by omega)
    exact up (k + 1) (by omega) n (by omega)
theorem getB_low (w : B64) (n : Nat) (hn : n < 64) (h1 : 1 ≤ n) : (getB w 0 n).toNat = w.toNat % 2 ^ n := by
  apply Nat.eq_of_testBit_eq
  intro i
  rw [BitVec.testBit_toNat, getB_get w 0 n (by omega), Nat.testBit_mod_two_pow, BitVec.testBit_toNat]
  by_cases h : i < n
  · rw [decide_eq_true h, decide_eq_true (show 0 + i < 64 by omega), decide_eq_true (show (i : Int) < (n : Int) by omega)]
    simp
  · rw [decide_eq_false h, decide_eq_false (show ¬ (i : Int) < (n : Int) by omega)]
    simp
theorem IntsPowers : umlautlaw1_IntsPowers.Pure := by
  intro a m ha hm
  have ha := i64_of ha
  refine ⟨100, ?_⟩
  unfold umlautlaw1_IntsPowers.f
  rw [low_i64, Int.tmod_eq_emod_of_nonneg (by omega)]
  obtain ⟨n, hn⟩ : ∃ n : Nat, m % 65536 % 63 = n := ⟨(m % 65536 % 63).toNat, by omega⟩
  have hn63 : n < 63 := by omega
  rw [hn, shl_eq (by omega) (by omega), shr_eq (by omega) (by omega), Int.toNat_natCast, Int.one_mul]
  have hp0 : (0 : Int) < 2 ^ n := pow_pos' n
  have hp1 : (2 : Int) ^ n ≤ 4611686018427387904 := by
    have : (2 : Nat) ^ n ≤ 2 ^ 62 := Nat.pow_le_pow_right (by decide) (by omega)
    have e : (2 : Nat) ^ 62 = 4611686018427387904 := by decide +kernel
    have e2 : ((2 : Int) ^ n) = ((2 ^ n : Nat) : Int) := by simp
    rw [e2]
    omega
  have e2 : ((2 : Int) ^ n) = ((2 ^ n : Nat) : Int) := by simp
  have hI : I64 (2 ^ n) := by unfold I64; omega
  rw [fit_in hI]
  have hdm := Int.emod_add_mul_ediv a (2 ^ n)
  have hm0 := Int.emod_nonneg a (b := 2 ^ n) (by omega)
  have hm1 := Int.emod_lt_of_pos a hp0
  have hRR : (2 : Int) ^ (63 - n) * 2 ^ n = 9223372036854775808 := by
    rw [← Int.pow_add, show 63 - n + n = 63 by omega]
    decide +kernel
  have hlow : -(2 : Int) ^ (63 - n) ≤ a / 2 ^ n := by
    rw [Int.le_ediv_iff_mul_le hp0, Int.neg_mul, hRR]
    unfold I64 at ha
    omega
  have hmul := Int.mul_le_mul_of_nonneg_right hlow (show (0 : Int) ≤ 2 ^ n by omega)
  rw [Int.neg_mul, hRR] at hmul
  have hcomm : 2 ^ n * (a / 2 ^ n) = a / 2 ^ n * 2 ^ n := Int.mul_comm _ _
  have hx : I64 (a / 2 ^ n * 2 ^ n) := by
    unfold I64 at *
    omega
  have hq : I64 (a / 2 ^ n) := by
    rcases Int.lt_or_le (a / 2 ^ n) 0 with h | h
    · have hR1 : (2 : Int) ^ (63 - n) ≤ 9223372036854775808 := by
        have : (2 : Nat) ^ (63 - n) ≤ 2 ^ 63 := Nat.pow_le_pow_right (by decide) (by omega)
        have e : (2 : Nat) ^ 63 = 9223372036854775808 := by decide +kernel
        have e3 : ((2 : Int) ^ (63 - n)) = ((2 ^ (63 - n) : Nat) : Int) := by simp
        rw [e3]
        omega
      unfold I64
      omega
    · have h2 := Int.mul_le_mul_of_nonneg_left (show (1 : Int) ≤ 2 ^ n by omega) h
      rw [Int.mul_one] at h2
      unfold I64 at *
      omega
  simp only [Option.bind_some, if_true]
  rw [decide_eq_false (show ¬ (2 : Int) ^ n ≤ 0 by omega)]
  simp only [umlautlaw1_IntsPowers.j0, Bool.false_eq_true, if_false]
  have ez : a - a / 2 ^ n * 2 ^ n = a % 2 ^ n := by rw [Int.mul_comm]; omega
  rw [mul_eq hq hI, fit_in hx]
  simp only [Option.bind_some]
  rw [sub_eq ha hx, ez, fit_in (show I64 (a % 2 ^ n) by unfold I64; omega)]
  simp only [Option.bind_some, if_true]
  have hT := rtext_eq hI 97 (by decide)
  have hT2 : ints_Text.f (2 ^ n) = some (ofL (Lib.itoa (2 ^ n))) := by
    unfold ints_Text.f
    rw [if_pos (by unfold I64 at hI; omega)]
    rfl
  have hG : ints_Get.f 99 (IntKind.u64.wrap a) 0 (n : Int) = some (IntKind.u64.wrap (a % 2 ^ n)) := by
    obtain ⟨w, hw⟩ := of_u64 (a := IntKind.u64.wrap a) (by rw [u64_wrap]; unfold U64; omega)
    rw [hw, u64_wrap (a % 2 ^ n), Int.emod_eq_of_lt hm0 (by omega)]
    rcases Nat.eq_zero_or_pos n with h0 | h0
    · subst h0
      rw [get_bad w (by omega) 98]
      simp
    · rw [show (0 : Int) = ((0 : Nat) : Int) from rfl, get_eq w 0 (by decide) n (by omega) 98, getB_low w n (by omega) h0]
      rw [u64_wrap] at hw
      have hd : (2 : Int) ^ n ∣ 18446744073709551616 := by
        rw [split64 (m := n) (by omega)]
        exact Int.dvd_mul_right _ _
      rw [← Int.emod_emod_of_dvd a hd, hw]
      simp
  rw [if_pos (by omega), if_pos (by omega), hG, hT, hT2]
  simp only [Option.bind_some, if_true, awake]
end Go.Proofs.YtedmbkhjpbdkjaaDoor.PureI
