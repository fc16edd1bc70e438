/-
  Counting the bits of a word in two ways; and the law IntsBits over it.
-/
import Derived.Test.YtedmbkhjpbdkjaaDoorPureC
namespace Go.Proofs.YtedmbkhjpbdkjaaDoor.PureI
set_option linter.unusedSimpArgs false
set_option linter.unusedVariables false
open Go.RowKit Go.Proofs.YtedmbkhjpbdkjaaDoorW.PrintWords Go.Proofs.YtedmbkhjpbdkjaaDoorW.PrintLast Go.Proofs.YtedmbkhjpbdkjaaDoorW.PrintMore Go.Proofs.YtedmbkhjpbdkjaaDoor.XI Go.Proofs.YtedmbkhjpbdkjaaDoor.Given

/-! ### counting -/
theorem low_i64 (a : Int) : Go.bits .and .i64 a 65535 = a % 65536 := by
  unfold Go.bits
  simp only [IntKind.bits]
  have e : (BitVec.ofInt 64 a &&& BitVec.ofInt 64 65535).toNat = (a % 65536).toNat := by
    rw [BitVec.toNat_and, BitVec.toNat_ofInt, show (BitVec.ofInt 64 65535).toNat = 2 ^ 16 - 1 from rfl, Nat.and_two_pow_sub_one_eq_mod]
    omega
  show IntKind.i64.wrap ((BitVec.ofInt 64 a &&& BitVec.ofInt 64 65535).toNat : Int) = _
  rw [e, i64_w]
  unfold wrap64
  omega
/-- How many of the lowest k bits of a word are set. -/
def cnt (w : Nat) : Nat → Nat
  | 0 => 0
  | k + 1 => cnt w k + (w / 2 ^ k) % 2
theorem cnt_succ (w k : Nat) : cnt w (k + 1) = cnt w k + (w / 2 ^ k) % 2 := rfl
theorem cnt_nil (w : Nat) : cnt w 0 = 0 := rfl
theorem cnt_le (w k : Nat) : cnt w k ≤ k := by
  induction k with
  | zero => exact Nat.le_refl _
  | succ k ih => simp only [cnt]; omega
theorem cnt_head (w k : Nat) : cnt w (k + 1) = w % 2 + cnt (w / 2) k := by
  induction k with
  | zero => simp [cnt]
  | succ k ih =>
    have e : cnt w (k + 1 + 1) = cnt w (k + 1) + (w / 2 ^ (k + 1)) % 2 := rfl
    have e2 : cnt (w / 2) (k + 1) = cnt (w / 2) k + (w / 2 / 2 ^ k) % 2 := rfl
    rw [e, ih, e2, Nat.div_div_eq_div_mul, Nat.pow_succ, Nat.mul_comm 2]
    omega
theorem and_odd (y : Nat) : (2 * y + 1) &&& (2 * y) = 2 * y := by
  apply Nat.eq_of_testBit_eq
  intro i
  cases i with
  | zero => simp [Nat.testBit_zero]
  | succ i =>
    rw [Nat.testBit_and, Nat.testBit_succ, Nat.testBit_succ, show (2 * y + 1) / 2 = y by omega, show 2 * y / 2 = y by omega, Bool.and_self]
theorem and_even (y z : Nat) : (2 * y) &&& (2 * z + 1) = 2 * (y &&& z) := by
  apply Nat.eq_of_testBit_eq
  intro i
  cases i with
  | zero => simp [Nat.testBit_zero]
  | succ i =>
    rw [Nat.testBit_and, Nat.testBit_succ, Nat.testBit_succ, Nat.testBit_succ, show (2 * z + 1) / 2 = z by omega, show 2 * y / 2 = y by omega, show 2 * (y &&& z) / 2 = (y &&& z) by omega, Nat.testBit_and]
theorem cnt_less (k : Nat) : ∀ x : Nat, 0 < x → x < 2 ^ k → cnt (x &&& (x - 1)) k + 1 = cnt x k := by
  induction k with
  | zero => intro x h0 h1; simp at h1; omega
  | succ k ih =>
    intro x h0 h1
    rw [Nat.pow_succ] at h1
    rw [cnt_head, cnt_head]
    rcases Nat.mod_two_eq_zero_or_one x with h | h
    · obtain ⟨y, rfl⟩ : ∃ y, x = 2 * y := ⟨x / 2, by omega⟩
      obtain ⟨z, rfl⟩ : ∃ z, y = z + 1 := ⟨y - 1, by omega⟩
      rw [show 2 * (z + 1) - 1 = 2 * z + 1 by omega, and_even, show 2 * (z + 1 &&& z) / 2 = (z + 1 &&& z) by omega, show 2 * (z + 1) / 2 = z + 1 by omega]
      have := ih (z + 1) (by omega) (by omega)
      rw [show z + 1 - 1 = z by omega] at this
      omega
    · obtain ⟨y, rfl⟩ : ∃ y, x = 2 * y + 1 := ⟨x / 2, by omega⟩
      rw [show 2 * y + 1 - 1 = 2 * y by omega, and_odd, show 2 * y / 2 = y by omega, show (2 * y + 1) / 2 = y by omega]
      omega
theorem cnt_zero (k : Nat) : cnt 0 k = 0 := by
  induction k with
  | zero => rfl
  | succ k ih => simp [cnt, ih]
theorem cnt_pos (k : Nat) : ∀ x : Nat, 0 < x → x < 2 ^ k → 0 < cnt x k := by
  intro x h0 h1
  have := cnt_less k x h0 h1
  omega
theorem getB_one (w : B64) (p : Nat) (hp : p < 64) : (getB w p 1).toNat = (w.toNat / 2 ^ p) % 2 := by
  apply Nat.eq_of_testBit_eq
  intro i
  rw [BitVec.testBit_toNat, getB_get w p 1 (by omega), show (2 : Nat) = 2 ^ 1 from rfl, Nat.testBit_mod_two_pow, ← Nat.shiftRight_eq_div_pow, ← BitVec.testBit_toNat]
  cases i with
  | zero => simp [hp, Nat.testBit_shiftRight]
  | succ i =>
    rw [decide_eq_false (show ¬ ((i + 1 : Nat) : Int) < 1 by omega), decide_eq_false (show ¬ i + 1 < 1 by omega)]
    simp
theorem bits_last (w : B64) (k m : Nat) (d : Nat) : ∀ (k m : Nat) (x : B64), cnt x.toNat 64 = d → d + m = cnt w.toNat 64 → d + 1 < k →
    umlautlaw1_IntsBits.l2 k (w.toNat : Int) (w.toNat : Int) (cnt w.toNat 64 : Int) (m : Int) (x.toNat : Int) = some true := by
  have hc := cnt_le w.toNat 64
  induction d with
  | zero =>
    intro k m x h0 h1 hk
    obtain ⟨k, rfl⟩ : ∃ j, k = j + 2 := ⟨k - 2, by omega⟩
    have hx : x.toNat = 0 := by
      rcases Nat.eq_zero_or_pos x.toNat with h | h
      · exact h
      · have := cnt_pos 64 x.toNat h x.isLt
        omega
    simp only [umlautlaw1_IntsBits.l2]
    have hg := get_eq w 0 (by decide) 99 (by decide) k
    have hall : getB w 0 99 = w := by
      apply BitVec.eq_of_getLsbD_eq
      intro i hi
      rw [getB_get w 0 99 (by decide), decide_eq_true (show 0 + i < 64 by omega), decide_eq_true (show (i : Int) < 99 by omega)]
      simp
    rw [hall] at hg
    have hg' : ints_Get.f (k + 1) (w.toNat : Int) 0 99 = some (w.toNat : Int) := hg
    rw [hx, if_neg (by decide), hg']
    simp only [if_true]
    rw [if_pos (by omega)]
    simp only [Option.bind_some, if_true, awake]
  | succ d ih =>
    intro k m x h0 h1 hk
    obtain ⟨k, rfl⟩ : ∃ j, k = j + 1 := ⟨k - 1, by omega⟩
    have hx : 0 < x.toNat := by
      rcases Nat.eq_zero_or_pos x.toNat with h | h
      · rw [h, cnt_zero] at h0
        omega
      · exact h
    simp only [umlautlaw1_IntsBits.l2]
    have hlt := x.isLt
    have e1 : IntKind.u64.wrap ((x.toNat : Int) - 1) = ((BitVec.ofNat 64 (x.toNat - 1)).toNat : Int) := by
      rw [u64_wrap, BitVec.toNat_ofNat]
      omega
    have e2 : (x &&& BitVec.ofNat 64 (x.toNat - 1)).toNat = x.toNat &&& (x.toNat - 1) := by
      rw [BitVec.toNat_and, BitVec.toNat_ofNat, Nat.mod_eq_of_lt (by omega)]
    have e3 : wrap64 ((m : Int) + 1) = ((m + 1 : Nat) : Int) := by
      rw [show (m : Int) + 1 = ((m + 1 : Nat) : Int) by omega]
      exact w64 (by omega)
    rw [if_pos (by omega), e1, and_bv, e3]
    have := cnt_less 64 x.toNat hx hlt
    exact ih k (m + 1) _ (by rw [e2]; omega) (by omega) (by omega)
theorem get_at (w : B64) (p : Nat) (hp : p < 64) (n : Int) (hn : 1 ≤ n) (k : Nat) (hk : 0 < k) : ints_Get.f k (w.toNat : Int) (p : Int) n = some ((getB w p n).toNat : Int) := by
  obtain ⟨k, rfl⟩ : ∃ j, k = j + 1 := ⟨k - 1, by omega⟩
  exact get_eq w p hp n hn k
theorem set_at (w v : B64) (p : Nat) (hp : p < 64) (n : Int) (hn : 1 ≤ n) (k : Nat) (hk : 0 < k) : ints_Set.f k (w.toNat : Int) (p : Int) n (v.toNat : Int) = some ((setB w p n v).toNat : Int) := by
  obtain ⟨k, rfl⟩ : ∃ j, k = j + 1 := ⟨k - 1, by omega⟩
  exact set_eq w v p hp n hn k
theorem bits_mid (w : B64) (C : Nat → Nat) (hs : ∀ p, C (p + 1) = C p + (w.toNat / 2 ^ p) % 2) (hl : ∀ p, C p ≤ p)
    (last : ∀ k, 66 < k → umlautlaw1_IntsBits.l2 k (w.toNat : Int) (w.toNat : Int) (C 64 : Int) 0 (w.toNat : Int) = some true) (d : Nat) :
    ∀ (k p : Nat), p + d = 64 → d + 70 < k → umlautlaw1_IntsBits.l1 k (w.toNat : Int) (w.toNat : Int) (C p : Int) (p : Int) = some true := by
  induction d with
  | zero =>
    intro k p h hk
    obtain ⟨k, rfl⟩ : ∃ j, k = j + 1 := ⟨k - 1, by omega⟩
    obtain rfl : p = 64 := by omega
    simp only [umlautlaw1_IntsBits.l1]
    rw [if_neg (by omega)]
    exact last k (by omega)
  | succ d ih =>
    intro k p h hk
    obtain ⟨k, rfl⟩ : ∃ j, k = j + 1 := ⟨k - 1, by omega⟩
    simp only [umlautlaw1_IntsBits.l1]
    rw [if_pos (by omega), get_at w p (by omega) 1 (by decide) k (by omega)]
    simp only [Option.bind_some]
    have hc := hl p
    rw [getB_one w p (by omega)]
    have e0 : (w.toNat / 2 ^ p) % 2 < 2 := Nat.mod_lt _ (by decide)
    have h2 := hs p
    have h3 := ih k (p + 1) (by omega) (by omega)
    generalize (w.toNat / 2 ^ p) % 2 = b at *
    generalize C (p + 1) = c1 at *
    subst h2
    have e1 : wrap64 (b : Int) = b := w64 (by omega)
    have e2 : wrap64 ((C p : Int) + (b : Int)) = ((C p + b : Nat) : Int) := by
      rw [← Int.natCast_add]
      exact w64 (by omega)
    have e3 : wrap64 ((p : Int) + 1) = ((p + 1 : Nat) : Int) := by
      rw [show (p : Int) + 1 = ((p + 1 : Nat) : Int) by omega]
      exact w64 (by omega)
    rw [e1, e2, e3]
    exact h3
theorem bits_first (w : B64) (mid : ∀ k, 140 < k → umlautlaw1_IntsBits.l1 k (w.toNat : Int) (w.toNat : Int) 0 0 = some true) (n : Nat) (hn : 1 ≤ n) (hn2 : n ≤ 16) (d : Nat) : ∀ (k p : Nat) (out : B64), 64 ≤ p + d → p ≤ 80 → (∀ j, j < 64 → out.getLsbD j = (decide (j < p) && w.getLsbD j)) → d + 142 < k →
    umlautlaw1_IntsBits.l0 k (w.toNat : Int) (n : Int) (out.toNat : Int) (p : Int) = some true := by
  have fin : ∀ (p : Nat) (out : B64), 64 ≤ p → (∀ j, j < 64 → out.getLsbD j = (decide (j < p) && w.getLsbD j)) → out = w := by
    intro p out hp ho
    apply BitVec.eq_of_getLsbD_eq
    intro j hj
    rw [ho j hj, decide_eq_true (show j < p by omega)]
    simp
  induction d with
  | zero =>
    intro k p out h hp80 ho hk
    obtain ⟨k, rfl⟩ : ∃ j, k = j + 1 := ⟨k - 1, by omega⟩
    simp only [umlautlaw1_IntsBits.l0]
    rw [if_neg (by omega), fin p out (by omega) ho]
    exact mid k (by omega)
  | succ d ih =>
    intro k p out h hp80 ho hk
    obtain ⟨k, rfl⟩ : ∃ j, k = j + 1 := ⟨k - 1, by omega⟩
    simp only [umlautlaw1_IntsBits.l0]
    by_cases hp : p < 64
    · rw [if_pos (by omega), get_at w p hp n (by omega) k (by omega)]
      simp only [Option.bind_some]
      rw [set_at out _ p hp n (by omega) k (by omega)]
      simp only [Option.bind_some]
      have e3 : wrap64 ((p : Int) + (n : Int)) = ((p + n : Nat) : Int) := by
        rw [← Int.natCast_add]
        exact w64 (by omega)
      rw [e3]
      refine ih k (p + n) _ (by omega) (by omega) (fun j hj => ?_) (by omega)
      rw [setB_get _ _ p n (by omega) j hj]
      split
      · rename_i h1
        rw [getB_get w p n (by omega), show p + (j - p) = j by omega, decide_eq_true hj, decide_eq_true (show ((j - p : Nat) : Int) < n by omega), decide_eq_true (show j < p + n by omega)]
        simp
      · rename_i h1
        rw [ho j hj]
        by_cases h2 : j < p
        · rw [decide_eq_true h2, decide_eq_true (show j < p + n by omega)]
        · rw [decide_eq_false h2, decide_eq_false (show ¬ j < p + n by omega)]
    · rw [if_neg (by omega), fin p out (by omega) ho]
      exact mid k (by omega)
theorem IntsBits : umlautlaw1_IntsBits.Pure := by
  intro w n hw hn
  obtain ⟨w, rfl⟩ := of_u64 (u64_of hw)
  refine ⟨300, ?_⟩
  unfold umlautlaw1_IntsBits.f
  rw [low_i64, Int.tmod_eq_emod_of_nonneg (by omega)]
  obtain ⟨m, hm⟩ : ∃ m : Nat, wrap64 (n % 65536 % 16 + 1) = m := ⟨(n % 65536 % 16 + 1).toNat, by unfold wrap64; omega⟩
  rw [hm]
  have hb : 1 ≤ m ∧ m ≤ 16 := by unfold wrap64 at hm; omega
  have last : ∀ k, 66 < k → umlautlaw1_IntsBits.l2 k (w.toNat : Int) (w.toNat : Int) (cnt w.toNat 64 : Int) 0 (w.toNat : Int) = some true := by
    intro k hk
    have hc := cnt_le w.toNat 64
    exact bits_last w 0 0 (cnt w.toNat 64) k 0 w rfl (Nat.add_zero _) (by omega)
  have mid : ∀ k, 140 < k → umlautlaw1_IntsBits.l1 k (w.toNat : Int) (w.toNat : Int) 0 0 = some true := fun k hk =>
    bits_mid w (cnt w.toNat) (cnt_succ _) (cnt_le _) last 64 k 0 (by omega) (by omega)
  exact bits_first w mid m hb.1 hb.2 64 300 0 0#64 (by omega) (by omega) (fun j hj => by simp) (by omega)
end Go.Proofs.YtedmbkhjpbdkjaaDoor.PureI
