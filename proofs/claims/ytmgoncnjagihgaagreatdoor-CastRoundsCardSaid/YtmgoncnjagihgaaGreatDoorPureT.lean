/-
  Numbers' digits: what the program reads of a text, and the reference's text of a number (the laws' plain part, as for the whole numbers).
-/
import Derived.Test.YtmgoncnjagihgaaGreatDoorPureO
import Derived.Test.YtmgoncnjagihgaaGreatDoorXG1
import Derived.Lib.ParseIntBCases
import Derived.Lib.ItoaMem
namespace Go.Proofs.YtmgoncnjagihgaaGreatDoor.PureC
set_option linter.unusedSimpArgs false
set_option linter.unusedVariables false
open Go.RowKit Go.Proofs.YtmgoncnjagihgaaGreatDoorW.PrintWords Go.Proofs.YtmgoncnjagihgaaGreatDoorW.PrintLast Go.Proofs.YtmgoncnjagihgaaGreatDoorW.PrintMore Go.Proofs.YtmgoncnjagihgaaGreatDoor.XC Go.Proofs.YtmgoncnjagihgaaGreatDoor.XG Go.Proofs.YtmgoncnjagihgaaGreatDoor.Given
instance (x : Int) : Decidable (I64 x) := by unfold I64; infer_instance
/-- A number, or 'too great'. -/
def fit (x : Int) : Int × Int := if I64 x then (x, 0) else (0, 17)
theorem fit_in {x : Int} (h : I64 x) : fit x = (x, 0) := if_pos h
theorem fit_out {x : Int} (h : ¬ I64 x) : fit x = (0, 17) := if_neg h

/-! ### numbers by digits -/
def IsDig (c : UInt8) : Prop := 48 ≤ c.toNat ∧ c.toNat ≤ 57
instance (c : UInt8) : Decidable (IsDig c) := by unfold IsDig; infer_instance
def dstep (a : Nat) (c : UInt8) : Nat := a * 10 + (c.toNat - 48)
def dval (acc : Nat) (l : List UInt8) : Nat := l.foldl dstep acc
theorem dval_nil (acc : Nat) : dval acc [] = acc := by unfold dval; exact List.foldl_nil
theorem dval_cons (acc : Nat) (c : UInt8) (r : List UInt8) : dval acc (c :: r) = dval (acc * 10 + (c.toNat - 48)) r := by
  unfold dval
  rw [List.foldl_cons, dstep]
attribute [local irreducible] dval
theorem dval_ge (l : List UInt8) : ∀ acc, acc ≤ dval acc l := by
  induction l with
  | nil => intro acc; rw [dval_nil]; exact Nat.le_refl _
  | cons c r ih =>
    intro acc
    rw [dval_cons]
    exact Nat.le_trans (by omega) (ih (acc * 10 + (c.toNat - 48)))
theorem dval_append (l m : List UInt8) : ∀ acc, dval acc (l ++ m) = dval (dval acc l) m := by
  induction l with
  | nil => intro acc; rw [dval_nil]; rfl
  | cons c r ih => intro acc; rw [List.cons_append, dval_cons, dval_cons]; exact ih _
theorem dig_byte (d : Nat) (h : d < 10) : (UInt8.ofNat (48 + d)).toNat = 48 + d := by
  exact UInt8.toNat_ofNat_of_lt' (by show 48 + d < 256; omega)
theorem dec_val (n : Nat) : dval 0 (Lib.decDigits n) = n ∧ (∀ c ∈ Lib.decDigits n, IsDig c) ∧ Lib.decDigits n ≠ [] := by
  induction n using Nat.strongRecOn with
  | _ n ih =>
    rw [Lib.decDigits]
    split
    · rename_i h
      refine ⟨?_, ?_, by simp⟩
      · have e : dval 0 [UInt8.ofNat (48 + n)] = 0 * 10 + ((UInt8.ofNat (48 + n)).toNat - 48) := by rw [dval_cons, dval_nil]
        rw [e, dig_byte n h]
        omega
      · intro c hc
        rw [List.mem_singleton] at hc
        subst hc
        unfold IsDig
        rw [dig_byte n h]
        omega
    · rename_i h
      obtain ⟨h1, h2, h3⟩ := ih (n / 10) (by omega)
      have hm : n % 10 < 10 := Nat.mod_lt _ (by decide)
      refine ⟨?_, ?_, by simp⟩
      · rw [dval_append, h1]
        have e : dval (n / 10) [UInt8.ofNat (48 + n % 10)] = n / 10 * 10 + ((UInt8.ofNat (48 + n % 10)).toNat - 48) := by rw [dval_cons, dval_nil]
        rw [e, dig_byte _ hm]
        omega
      · intro c hc
        rcases List.mem_append.1 hc with hc | hc
        · exact h2 c hc
        · rw [List.mem_singleton] at hc
          subst hc
          unfold IsDig
          rw [dig_byte _ hm]
          omega

/-! ### the program's way -/
theorem contains_digs (c : UInt8) : digs.contains c = decide (IsDig c) := by
  unfold digs IsDig
  have : ∀ c : UInt8, ([48, 49, 50, 51, 52, 53, 54, 55, 56, 57] : List UInt8).contains c = decide (48 ≤ c.toNat ∧ c.toNat ≤ 57) := by
    intro c
    have h : ∀ n : Fin 256, ([48, 49, 50, 51, 52, 53, 54, 55, 56, 57] : List UInt8).contains (UInt8.ofNat n.val) = decide (48 ≤ (UInt8.ofNat n.val).toNat ∧ (UInt8.ofNat n.val).toNat ≤ 57) := by decide +kernel
    have := h ⟨c.toNat, c.toNat_lt⟩
    simpa using this
  exact this c
theorem drop_nil {p : UInt8 → Bool} (l : List UInt8) : l.dropWhile p = [] ↔ ∀ c ∈ l, p c = true := by
  induction l with
  | nil => simp
  | cons c r ih =>
    rw [List.dropWhile_cons]
    split
    · rename_i h
      rw [ih]
      simp [h]
    · rename_i h
      simp [h]
theorem drop_head {p : UInt8 → Bool} (l : List UInt8) : ∀ x r, l.dropWhile p = x :: r → p x = false := by
  induction l with
  | nil => intro x r h; simp at h
  | cons c l ih =>
    intro x r h
    rw [List.dropWhile_cons] at h
    split at h
    · exact ih x r h
    · rename_i hc
      cases h
      simpa using hc
theorem trim_nil (l : List UInt8) : Lib.trimS l digs = [] ↔ ∀ c ∈ l, IsDig c := by
  unfold Lib.trimS Lib.trimLeftS Lib.trimRightS
  rw [drop_nil]
  constructor
  · intro h
    cases hm : l.reverse.dropWhile (digs.contains ·) with
    | nil =>
      rw [drop_nil] at hm
      intro c hc
      have := hm c (by simpa using hc)
      rw [contains_digs] at this
      exact of_decide_eq_true this
    | cons x r =>
      rw [hm] at h
      have h1 := h x (by simp)
      have h2 := drop_head _ x r hm
      rw [h2] at h1
      cases h1
  · intro h
    have hm : l.reverse.dropWhile (digs.contains ·) = [] := by
      rw [drop_nil]
      intro c hc
      rw [contains_digs]
      exact decide_eq_true (h c (by simpa using hc))
    rw [hm]
    simp
theorem parseM_eq (l : List UInt8) (h : ∀ c ∈ l, IsDig c) : ∀ acc, acc ≤ 18446744073709551615 →
    Lib.parseUintM 18446744073709551615 acc l = if dval acc l ≤ 18446744073709551615 then .ok (dval acc l) else .range := by
  induction l with
  | nil =>
    intro acc ha
    rw [dval_nil, if_pos ha]
    rfl
  | cons c r ih =>
    intro acc ha
    have hc : IsDig c := h c (by simp)
    have hr := dval_ge r (acc * 10 + (c.toNat - 48))
    unfold IsDig at hc
    rw [dval_cons]
    simp only [Lib.parseUintM]
    rw [if_pos hc]
    split
    · rw [if_neg (by omega)]
    · split
      · rw [if_neg (by omega)]
      · rename_i h2
        have h3 := Nat.not_lt.1 h2
        exact ih (fun x hx => h x (List.mem_cons_of_mem _ hx)) _ h3
/-- A sign and digits. -/
def signed (neg : Bool) (n : Nat) : Int := if neg then -(n : Int) else n
theorem parse_minus (d : List UInt8) (h0 : d ≠ []) (h : ∀ c ∈ d, IsDig c) : parse (45 :: d) = fit (signed true (dval 0 d)) := by
  have hb : body (45 :: d) = d := by simp [body, Lib.trimPrefix, Lib.hasPrefix]
  unfold parse
  rw [hb, if_neg h0, if_neg (by rw [ne_eq, trim_nil]; exact fun hn => hn h), Lib.parseIntB_minus]
  unfold Lib.parseUintB
  rw [if_neg h0, show (2 : Nat) ^ 64 - 1 = 18446744073709551615 by decide +kernel, parseM_eq d h 0 (by omega)]
  generalize dval 0 d = n
  rw [show (2 : Nat) ^ (64 - 1) = 9223372036854775808 by decide +kernel]
  unfold signed fit I64
  simp only [if_true]
  by_cases h1 : n ≤ 18446744073709551615
  · rw [if_pos h1]
    simp only [Lib.signedC]
    by_cases h2 : 9223372036854775808 < n
    · rw [if_pos h2, if_neg (by omega)]
    · rw [if_neg h2, if_pos (by omega)]
  · rw [if_neg h1, if_neg (by omega)]
    rfl
theorem parse_plain (d : List UInt8) (h0 : d ≠ []) (h : ∀ c ∈ d, IsDig c) : parse d = fit (signed false (dval 0 d)) := by
  cases d with
  | nil => exact absurd rfl h0
  | cons c r =>
    have hc : IsDig c := h c (by simp)
    unfold IsDig at hc
    have hb : body (c :: r) = c :: r := by
      have hne : (c == 45) = false := by
        rw [beq_eq_false_iff_ne]
        rintro rfl
        exact absurd hc.1 (by decide)
      simp [body, Lib.trimPrefix, Lib.hasPrefix]
      rintro rfl
      exact absurd hc.1 (by decide)
    unfold parse
    rw [hb, if_neg h0, if_neg (by rw [ne_eq, trim_nil]; exact fun hn => hn h), Lib.parseIntB_plain _ _ _ (by omega) (by omega)]
    unfold Lib.parseUintB
    rw [if_neg h0, show (2 : Nat) ^ 64 - 1 = 18446744073709551615 by decide +kernel, parseM_eq _ h 0 (by omega)]
    generalize dval 0 (c :: r) = n
    rw [show (2 : Nat) ^ (64 - 1) = 9223372036854775808 by decide +kernel]
    unfold signed fit I64
    simp only [Bool.false_eq_true, if_false]
    by_cases h1 : n ≤ 18446744073709551615
    · rw [if_pos h1]
      simp only [Lib.signlessC]
      by_cases h2 : 9223372036854775808 ≤ n
      · rw [if_pos h2, if_neg (by omega)]
      · rw [if_neg h2, if_pos (by omega)]
    · rw [if_neg h1, if_neg (by omega)]
      rfl
theorem parse_bad (l : List UInt8) (h : body l = [] ∨ ∃ c ∈ body l, ¬ IsDig c) : parse l = (0, 3) := by
  unfold parse
  split
  · rfl
  · rename_i h0
    rw [if_pos]
    rw [ne_eq, trim_nil]
    rcases h with h | ⟨c, hc, hn⟩
    · exact absurd h h0
    · exact fun hall => hn (hall c hc)
theorem parse_itoa {a : Int} (ha : I64 a) : parse (Lib.itoa a) = (a, 0) := by
  unfold Lib.itoa
  split
  · rename_i hneg
    obtain ⟨h1, h2, h3⟩ := dec_val a.natAbs
    rw [parse_minus _ h3 h2, h1]
    unfold signed
    rw [if_pos rfl, show -(a.natAbs : Int) = a by omega, fit_in ha]
  · rename_i hneg
    obtain ⟨h1, h2, h3⟩ := dec_val a.toNat
    rw [parse_plain _ h3 h2, h1]
    unfold signed
    rw [if_neg (by simp), show (a.toNat : Int) = a by omega, fit_in ha]

/-! ### the reference's way -/
def ofL (l : List UInt8) : ByteArray := ⟨l.toArray⟩
theorem ofL_append (a b : List UInt8) : ofL a ++ ofL b = ofL (a ++ b) := by
  apply ByteArray.ext
  rw [ByteArray.data_append]
  simp [ofL]
theorem ofL_size (a : List UInt8) : (ofL a).size = a.length := by simp [ofL, ByteArray.size]
theorem digit_at : ∀ d : Fin 10, (⟨#[48, 49, 50, 51, 52, 53, 54, 55, 56, 57]⟩ : ByteArray).extract d.val (d.val + 1) = ofL [UInt8.ofNat (48 + d.val)] := by decide +kernel
theorem digit_int {x : Int} (h0 : 0 ≤ x) (h1 : x < 10) : (⟨#[48, 49, 50, 51, 52, 53, 54, 55, 56, 57]⟩ : ByteArray).extract x.toNat (wrap64 (x + 1)).toNat = ofL [UInt8.ofNat (48 + x.toNat)] := by
  have e : (wrap64 (x + 1)).toNat = x.toNat + 1 := by unfold wrap64; omega
  rw [e]
  exact digit_at ⟨x.toNat, by omega⟩
theorem rtext_loop (d : Nat) : ∀ (k n : Nat) (s : List UInt8), n < 10 ^ (d + 1) → n ≤ 9223372036854775807 → s.length + d ≤ 1000 → d < k →
    umlautref1_Text.l0 k (n : Int) (ofL s) = some (ofL (Lib.decDigits n ++ s)) := by
  induction d with
  | zero =>
    intro k n s hn hm hs hk
    obtain ⟨k, rfl⟩ : ∃ m, k = m + 1 := ⟨k - 1, by omega⟩
    have h10 : n < 10 := by simpa using hn
    simp only [umlautref1_Text.l0]
    have e := digit_int (x := (n : Int)) (by omega) (by omega)
    rw [if_neg (by omega), if_pos (by omega), if_pos (by unfold wrap64; omega), if_pos (by unfold wrap64; omega), e, if_pos (by rw [ofL_size, ofL_size]; simp; omega), ofL_append, Lib.decDigits, dif_pos h10, Int.toNat_natCast]
  | succ d ih =>
    intro k n s hn hm hs hk
    obtain ⟨k, rfl⟩ : ∃ m, k = m + 1 := ⟨k - 1, by omega⟩
    simp only [umlautref1_Text.l0]
    by_cases h10 : n < 10
    · have e := digit_int (x := (n : Int)) (by omega) (by omega)
      rw [if_neg (by omega), if_pos (by omega), if_pos (by unfold wrap64; omega), if_pos (by unfold wrap64; omega), e, if_pos (by rw [ofL_size, ofL_size]; simp; omega), ofL_append, Lib.decDigits, dif_pos h10, Int.toNat_natCast]
    · have em : Int.tmod (n : Int) 10 = ((n % 10 : Nat) : Int) := by rw [Int.tmod_eq_emod_of_nonneg (by omega)]; omega
      have ed : wrap64 (Int.tdiv (n : Int) 10) = ((n / 10 : Nat) : Int) := by rw [Int.tdiv_eq_ediv_of_nonneg (by omega)]; unfold wrap64; omega
      have hmod : n % 10 < 10 := Nat.mod_lt _ (by decide)
      have e := digit_int (x := ((n % 10 : Nat) : Int)) (by omega) (by omega)
      rw [if_pos (by omega), em, ed, if_pos (by omega), if_pos (by unfold wrap64; omega), if_pos (by unfold wrap64; omega), e, if_pos (by rw [ofL_size, ofL_size]; simp; omega), ofL_append,
        ih k (n / 10) _ (by rw [Nat.pow_succ] at hn; omega) (by omega) (by simp; omega) (by omega), Int.toNat_natCast]
      have e2 : Lib.decDigits n = Lib.decDigits (n / 10) ++ [UInt8.ofNat (48 + n % 10)] := by
        rw [Lib.decDigits, dif_neg h10]
      rw [e2, List.append_assoc]
theorem dec_len (d : Nat) : ∀ n : Nat, n < 10 ^ (d + 1) → (Lib.decDigits n).length ≤ d + 1 := by
  induction d with
  | zero => intro n h; rw [Lib.decDigits, dif_pos (by simpa using h)]; simp
  | succ d ih =>
    intro n h
    rw [Lib.decDigits]
    split
    · simp
    · have := ih (n / 10) (by rw [Nat.pow_succ] at h; omega)
      simp
      omega
theorem least_digits : Lib.decDigits 9223372036854775808 = [57, 50, 50, 51, 51, 55, 50, 48, 51, 54, 56, 53, 52, 55, 55, 53, 56, 48, 56] := by
  simp [Lib.decDigits]
theorem rtext_eq {a : Int} (ha : I64 a) (k : Nat) (hk : 30 ≤ k) : umlautref1_Text.f (k + 2) a = some (ofL (Lib.itoa a)) := by
  unfold I64 at ha
  have hbig : ∀ n : Nat, n ≤ 9223372036854775807 → n < 10 ^ (18 + 1) := fun n h => by
    have : (10 : Nat) ^ (18 + 1) = 10000000000000000000 := by decide +kernel
    omega
  have hlen : ∀ n : Nat, n ≤ 9223372036854775807 → (Lib.decDigits n).length ≤ 100 := fun n h => by
    have := dec_len 18 n (hbig n h)
    omega
  have up : ∀ j, 30 ≤ j → ∀ n : Nat, n ≤ 9223372036854775807 → umlautref1_Text.f (j + 1) (n : Int) = some (ofL (Lib.decDigits n)) := by
    intro j hj n hn
    simp only [umlautref1_Text.f]
    rw [if_neg (by omega), if_neg (by omega)]
    have := rtext_loop 18 j n [] (hbig n hn) hn (by simp) (by omega)
    rw [List.append_nil] at this
    exact this
  unfold Lib.itoa
  split
  · rename_i hneg
    by_cases hl : a = -9223372036854775808
    · subst hl
      rw [show (-9223372036854775808 : Int).natAbs = 9223372036854775808 from rfl, least_digits]
      rfl
    · have e : wrap64 (-a) = (a.natAbs : Int) := by unfold wrap64; omega
      simp only [umlautref1_Text.f]
      rw [if_neg hl, if_pos hneg, e]
      have h1 := up k hk a.natAbs (by omega)
      simp only [umlautref1_Text.f] at h1
      rw [h1]
      simp only [Option.bind_some]
      have h2 := hlen a.natAbs (by omega)
      rw [if_pos (by rw [ofL_size]; omega)]
      exact congrArg some (ofL_append [45] _)
  · rename_i hneg
    obtain ⟨n, rfl⟩ := Int.eq_ofNat_of_zero_le (show 0 ≤ a by omega)
    exact up (k + 1) (by omega) n (by omega)
end Go.Proofs.YtmgoncnjagihgaaGreatDoor.PureC
