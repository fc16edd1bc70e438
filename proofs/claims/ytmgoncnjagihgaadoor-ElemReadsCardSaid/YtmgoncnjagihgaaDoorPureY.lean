/-
  The laws ElemChanges and ElemMakes, over the printed functions.
-/
import Derived.Test.YtmgoncnjagihgaaDoorPureX
namespace Go.Proofs.YtmgoncnjagihgaaDoor.PureW
set_option linter.unusedSimpArgs false
open Go.RowKit Go.Proofs.YtmgoncnjagihgaaDoorW.PrintWords Go.Proofs.YtmgoncnjagihgaaDoorW.PrintLast Go.Proofs.YtmgoncnjagihgaaDoorW.PrintMore Go.Proofs.YtmgoncnjagihgaaDoor.XA Go.Proofs.YtmgoncnjagihgaaDoor.Given Go.Proofs.YtmgoncnjagihgaaDoor.PureN

theorem andi (a : Int) (n : Nat) (hn : n ≤ 32) (m : Int) (hm : m = ((2 ^ n - 1 : Nat) : Int)) : Go.bits .and .i64 a m = a % 2 ^ n := by
  unfold Go.bits
  simp only [IntKind.bits]
  have hp : (0 : Nat) < 2 ^ n := Nat.two_pow_pos n
  have hl : (2 : Nat) ^ n ≤ 4294967296 := Nat.pow_le_pow_right (n := 2) (j := 32) (by decide) hn
  have hd : ((2 : Nat) ^ n) ∣ 18446744073709551616 := by
    rw [show (18446744073709551616 : Nat) = 2 ^ 64 from rfl]
    exact Nat.pow_dvd_pow 2 (by omega)
  have e : (BitVec.ofInt 64 a &&& BitVec.ofInt 64 m).toNat = (a % 2 ^ n).toNat := by
    rw [BitVec.toNat_and, BitVec.toNat_ofInt, BitVec.toNat_ofInt, hm]
    have e1 : (((2 ^ n - 1 : Nat) : Int) % ((2 ^ 64 : Nat) : Int)).toNat = 2 ^ n - 1 := by omega
    rw [e1, Nat.and_two_pow_sub_one_eq_mod]
    have hdi : ((2 : Int) ^ n) ∣ ((2 ^ 64 : Nat) : Int) := by
      have := Int.natCast_dvd_natCast.2 hd
      simpa using this
    have : a % ((2 ^ 64 : Nat) : Int) % (2 : Int) ^ n = a % 2 ^ n := Int.emod_emod_of_dvd a hdi
    rw [← this]
    have h0 : 0 ≤ a % ((2 ^ 64 : Nat) : Int) := Int.emod_nonneg _ (by decide)
    obtain ⟨x, hx⟩ := Int.eq_ofNat_of_zero_le h0
    rw [hx]
    have : ((x : Int) % (2 : Int) ^ n) = ((x % 2 ^ n : Nat) : Int) := by simp
    rw [this, Int.toNat_natCast]
    rfl
  show IntKind.i64.wrap ((BitVec.ofInt 64 a &&& BitVec.ofInt 64 m).toNat : Int) = _
  rw [e, i64_w]
  have hq : (0 : Int) < 2 ^ n := by exact_mod_cast hp
  have h0 : 0 ≤ a % (2 : Int) ^ n := Int.emod_nonneg _ (Int.ne_of_gt hq)
  have h1 : a % (2 : Int) ^ n < 2 ^ n := Int.emod_lt_of_pos _ (by exact_mod_cast hp)
  have h2 : ((2 : Int) ^ n) ≤ 4294967296 := by
    have h := Int.ofNat_le.2 hl
    rw [Int.natCast_pow] at h
    exact h
  unfold wrap64
  omega

theorem nat_of {x : Int} {m : Int} (h0 : 0 ≤ x) (h1 : x < m) : ∃ n : Nat, x = n ∧ (n : Int) < m := ⟨x.toNat, by omega, by omega⟩

theorem wordI (p s t : Int) (v : Bool) (hp : 0 ≤ p ∧ p < 65536) (hs : 0 ≤ s ∧ s < 256) (ht : 0 ≤ t ∧ t < 128) : umlautref5_Elem_Word.f p s t v = some (p * 65536 + (s * 256 + (t * 2 + (if v then 1 else 0)))) := by
  obtain ⟨p, rfl, _⟩ := nat_of hp.1 hp.2
  obtain ⟨s, rfl, _⟩ := nat_of hs.1 hs.2
  obtain ⟨t, rfl, _⟩ := nat_of ht.1 ht.2
  rw [word_eq p s t v (by omega) (by omega) (by omega)]
  refine congrArg some ?_
  cases v <;> simp

theorem ElemChanges : umlautlaw3_ElemChanges.Pure := by
  intro w lv v hw hlv hv
  have hw := bounds_u32 hw
  clear hlv hv
  obtain ⟨w, rfl, hw2⟩ := nat_of hw.1 (show w < 4294967296 by omega)
  have hw3 : w < 4294967296 := by omega
  refine ⟨5, ?_⟩
  unfold umlautlaw3_ElemChanges.f
  rw [with_eq 4 w lv v hw3, of_eq w hw3, show umlautlaw3_awake.f 5 = some true from awake_eq 0]
  simp only [Option.bind_some]
  have m : w % 2 = 0 ∨ w % 2 = 1 := by omega
  have q : ((w / 2 % 128 : Nat) : Int) = (w : Int) / 2 % 128 := by omega
  by_cases h1 : lv = 1
  · rw [if_pos h1, andi v 16 (by decide) 65535 (by decide), wordI _ _ _ _ (by omega) (by omega) (by omega)]
    simp only [Option.bind_some]
    rw [if_pos]
    unfold withN
    rw [if_pos h1]
    rcases m with m | m <;> simp only [m] <;> simp <;> omega
  rw [if_neg h1]
  by_cases h2 : lv = 2
  · rw [if_pos h2, andi v 8 (by decide) 255 (by decide), wordI _ _ _ _ (by omega) (by omega) (by omega)]
    simp only [Option.bind_some]
    rw [if_pos]
    unfold withN
    rw [if_neg h1, if_pos h2]
    rcases m with m | m <;> simp only [m] <;> simp <;> omega
  rw [if_neg h2]
  by_cases h3 : lv = 3
  · rw [if_pos h3, andi v 7 (by decide) 127 (by decide), wordI _ _ _ _ (by omega) (by omega) (by omega)]
    simp only [Option.bind_some]
    rw [if_pos]
    unfold withN
    rw [if_neg h1, if_neg h2, if_pos h3]
    rcases m with m | m <;> simp only [m] <;> simp <;> omega
  rw [if_neg h3, wordI _ _ _ _ (by omega) (by omega) (by omega)]
  simp only [Option.bind_some]
  rw [if_pos]
  unfold withN
  rw [if_neg h1, if_neg h2, if_neg h3]
  rcases m with m | m <;> simp only [m] <;> simp <;> omega

/-- Whether weights go together. -/
def okW (p s t : Int) (v : Bool) : Bool := (decide (p ≤ 0) || decide (0 < s)) && (decide (s ≤ 0) || decide (0 < t)) && (!v || decide (0 < p))

theorem ok_eq (k w : Nat) (hw : w < 4294967296) : elem_Elem_Ok.f (k + 1) (w : Int) = some (okW ((w : Int) / 65536) ((w : Int) / 256 % 256) ((w : Int) / 2 % 128) (decide (w % 2 = 1))) := by
  unfold elem_Elem_Ok.f okW
  rw [weight_eq k w 1 hw, weight_eq k w 2 hw, weight_eq k w 3 hw, var_eq w hw]
  simp only [Option.bind_some]
  rw [show weightN w 1 = (w : Int) / 65536 from if_pos rfl, show weightN w 2 = (w : Int) / 256 % 256 from (if_neg (by decide)).trans (if_pos rfl), show weightN w 3 = (w : Int) / 2 % 128 from (if_neg (by decide)).trans ((if_neg (by decide)).trans (if_pos rfl))]
  generalize (w : Int) / 65536 = p
  generalize (w : Int) / 256 % 256 = s
  generalize (w : Int) / 2 % 128 = t
  generalize decide (w % 2 = 1) = v
  by_cases hp : p > 0 <;> by_cases hs : s > 0 <;> by_cases ht : t > 0 <;> cases v <;> simp [hp, hs, ht, Int.not_le, Int.not_lt] <;> omega

theorem rok_eq (p s t : Int) (v : Bool) (hp : 0 ≤ p) (hs : 0 ≤ s) (ht : 0 ≤ t) : umlautref5_Elem_Ok.f p s t v = some (okW p s t v) := by
  unfold umlautref5_Elem_Ok.f okW
  rcases (by omega : p = 0 ∨ 0 < p) with rfl | hp <;> rcases (by omega : s = 0 ∨ 0 < s) with rfl | hs <;> rcases (by omega : t = 0 ∨ 0 < t) with rfl | ht <;> cases v <;>
    simp [*, Int.ne_of_gt] <;> omega

theorem ElemMakes : umlautlaw3_ElemMakes.Pure := by
  intro p s t v _ _ _
  refine ⟨8, ?_⟩
  unfold umlautlaw3_ElemMakes.f
  rw [show elem_Make.f 8 p s t v = _ from make_eq 3 p s t v]
  simp only [Option.bind_some]
  have bad : ∀ e f : Int, e = 0 → f = 1 → umlautlaw3_ElemMakes.j0 8 p s t v e f false = some true := by
    intro e f he hf
    subst he hf
    rw [umlautlaw3_ElemMakes.j0, if_neg (by decide), if_pos rfl, if_pos rfl, show umlautlaw3_awake.f 7 = some true from awake_eq 2]
    rfl
  by_cases hf : fits p s t
  · rw [if_pos hf]
    unfold fits at hf
    rw [if_pos (by omega), if_pos (by omega), if_pos (by omega), if_pos (by omega), if_pos (by omega), decide_eq_true (by omega)]
    obtain ⟨n, hn, hnl⟩ : ∃ n : Nat, p * 65536 + s * 256 + t * 2 + (if v then 1 else 0) = (n : Int) ∧ n < 4294967296 := by
      refine ⟨(p * 65536 + s * 256 + t * 2 + (if v then 1 else 0)).toNat, ?_, ?_⟩ <;> cases v <;> simp <;> omega
    have n1 : (n : Int) / 65536 = p := by cases v <;> simp at hn <;> omega
    have n2 : (n : Int) / 256 % 256 = s := by cases v <;> simp at hn <;> omega
    have n3 : (n : Int) / 2 % 128 = t := by cases v <;> simp at hn <;> omega
    have n4 : decide (n % 2 = 1) = v := by cases v <;> simp at hn <;> simp <;> omega
    have hx := text_eq 5 n hnl
    have hy := rtext_eq 2 p s t v (by omega) (by omega) (by omega)
    have hk := ok_eq 6 n hnl
    have w1 : weightN n 1 = p := by unfold weightN; rw [if_pos rfl, n1]
    have w2 : weightN n 2 = s := by unfold weightN; rw [if_neg (by decide), if_pos rfl, n2]
    have w3 : weightN n 3 = t := by unfold weightN; rw [if_neg (by decide), if_neg (by decide), if_pos rfl, n3]
    rw [n1, n2, n3, n4] at hx hk
    rw [hn, umlautlaw3_ElemMakes.j0, if_pos rfl, if_pos rfl, wordI p s t v (by omega) (by omega) (by omega)]
    simp only [Option.bind_some]
    rw [if_pos (by rw [← hn]; omega), weight_eq 6 n 1 hnl, w1]
    simp only [Option.bind_some]
    rw [if_pos trivial, weight_eq 6 n 2 hnl, w2]
    simp only [Option.bind_some]
    rw [if_pos trivial, weight_eq 6 n 3 hnl, w3]
    simp only [Option.bind_some]
    rw [if_pos trivial, var_eq n hnl, n4]
    simp only [Option.bind_some]
    rw [if_pos (by simp), show elem_Elem_Ok.f 7 (n : Int) = _ from hk, rok_eq p s t v (by omega) (by omega) (by omega)]
    simp only [Option.bind_some]
    rw [if_pos (by simp), show elem_Elem_Text.f 7 (n : Int) = _ from hx, show umlautref5_Elem_Text.f 7 p s t v = _ from hy, show umlautlaw3_awake.f 7 = some true from awake_eq 2]
    simp only [Option.bind_some]
    rw [if_pos trivial]
  · rw [if_neg hf]
    unfold fits at hf
    have hb := bad 0 1 rfl rfl
    by_cases a1 : p ≥ 0
    · rw [if_pos a1]
      by_cases a2 : p ≤ 65535
      · rw [if_pos a2]
        by_cases a3 : s ≥ 0
        · rw [if_pos a3]
          by_cases a4 : s ≤ 255
          · rw [if_pos a4]
            by_cases a5 : t ≥ 0
            · rw [if_pos a5, decide_eq_false (by omega)]
              exact hb
            · rw [if_neg a5]
              exact hb
          · rw [if_neg a4]
            exact hb
        · rw [if_neg a3]
          exact hb
      · rw [if_neg a2]
        exact hb
    · rw [if_neg a1]
      exact hb

end Go.Proofs.YtmgoncnjagihgaaDoor.PureW
