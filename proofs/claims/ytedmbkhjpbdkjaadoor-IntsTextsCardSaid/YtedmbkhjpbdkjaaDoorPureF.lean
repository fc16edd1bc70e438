/-
  What the program and the reference read of a text is one: the number that its digits tell, if it is one of 64 bits; and the law IntsTexts.
-/
import Derived.Test.YtedmbkhjpbdkjaaDoorPureD
import Derived.Test.YtedmbkhjpbdkjaaDoorXT
import Derived.Lib.ParseIntBCases
namespace Go.Proofs.YtedmbkhjpbdkjaaDoor.PureT
set_option linter.unusedSimpArgs false
set_option linter.unusedVariables false
open Go.RowKit Go.Proofs.YtedmbkhjpbdkjaaDoorW.PrintWords Go.Proofs.YtedmbkhjpbdkjaaDoorW.PrintLast Go.Proofs.YtedmbkhjpbdkjaaDoorW.PrintMore Go.Proofs.YtedmbkhjpbdkjaaDoor.GivenT Go.Proofs.YtedmbkhjpbdkjaaDoor.PureI Go.Proofs.YtedmbkhjpbdkjaaDoor.XT

/-! ### numbers by digits -/
def IsDig (c : UInt8) : Prop := 48 ≤ c.toNat ∧ c.toNat ≤ 57
instance (c : UInt8) : Decidable (IsDig c) := by unfold IsDig; infer_instance
def dstep (a : Nat) (c : UInt8) : Nat := a * 10 + (c.toNat - 48)
def dval (acc : Nat) (l : List UInt8) : Nat := l.foldl dstep acc
theorem dval_nil (acc : Nat) : dval acc [] = acc := by unfold dval; exact List.foldl_nil
theorem dval_cons (acc : Nat) (c : UInt8) (r : List UInt8) : dval acc (c :: r) = dval (acc * 10 + (c.toNat - 48)) r := by
  unfold dval
  rw [List.foldl_cons, dstep]
attribute [local irreducible] dval
theorem dval_ge (l : List UInt8) : ∀ acc, acc ≤ dval acc l := by
  induction l with
  | nil => intro acc; rw [dval_nil]; exact Nat.le_refl _
  | cons c r ih =>
    intro acc
    rw [dval_cons]
    exact Nat.le_trans (by omega) (ih (acc * 10 + (c.toNat - 48)))
theorem dval_append (l m : List UInt8) : ∀ acc, dval acc (l ++ m) = dval (dval acc l) m := by
  induction l with
  | nil => intro acc; rw [dval_nil]; rfl
  | cons c r ih => intro acc; rw [List.cons_append, dval_cons, dval_cons]; exact ih _
theorem dig_byte (d : Nat) (h : d < 10) : (UInt8.ofNat (48 + d)).toNat = 48 + d := by
  exact UInt8.toNat_ofNat_of_lt' (by show 48 + d < 256; omega)
theorem dec_val (n : Nat) : dval 0 (Lib.decDigits n) = n ∧ (∀ c ∈ Lib.decDigits n, IsDig c) ∧ Lib.decDigits n ≠ [] := by
  induction n using Nat.strongRecOn with
  | _ n ih =>
    rw [Lib.decDigits]
    split
    · rename_i h
      refine ⟨?_, ?_, by simp⟩
      · have e : dval 0 [UInt8.ofNat (48 + n)] = 0 * 10 + ((UInt8.ofNat (48 + n)).toNat - 48) := by rw [dval_cons, dval_nil]
        rw [e, dig_byte n h]
        omega
      · intro c hc
        rw [List.mem_singleton] at hc
        subst hc
        unfold IsDig
        rw [dig_byte n h]
        omega
    · rename_i h
      obtain ⟨h1, h2, h3⟩ := ih (n / 10) (by omega)
      have hm : n % 10 < 10 := Nat.mod_lt _ (by decide)
      refine ⟨?_, ?_, by simp⟩
      · rw [dval_append, h1]
        have e : dval (n / 10) [UInt8.ofNat (48 + n % 10)] = n / 10 * 10 + ((UInt8.ofNat (48 + n % 10)).toNat - 48) := by rw [dval_cons, dval_nil]
        rw [e, dig_byte _ hm]
        omega
      · intro c hc
        rcases List.mem_append.1 hc with hc | hc
        · exact h2 c hc
        · rw [List.mem_singleton] at hc
          subst hc
          unfold IsDig
          rw [dig_byte _ hm]
          omega

/-! ### the program's way -/
theorem contains_digs (c : UInt8) : digs.contains c = decide (IsDig c) := by
  unfold digs IsDig
  have : ∀ c : UInt8, ([48, 49, 50, 51, 52, 53, 54, 55, 56, 57] : List UInt8).contains c = decide (48 ≤ c.toNat ∧ c.toNat ≤ 57) := by
    intro c
    have h : ∀ n : Fin 256, ([48, 49, 50, 51, 52, 53, 54, 55, 56, 57] : List UInt8).contains (UInt8.ofNat n.val) = decide (48 ≤ (UInt8.ofNat n.val).toNat ∧ (UInt8.ofNat n.val).toNat ≤ 57) := by decide +kernel
    have := h ⟨c.toNat, c.toNat_lt⟩
    simpa using this
  exact this c
theorem drop_nil {p : UInt8 → Bool} (l : List UInt8) : l.dropWhile p = [] ↔ ∀ c ∈ l, p c = true := by
  induction l with
  | nil => simp
  | cons c r ih =>
    rw [List.dropWhile_cons]
    split
    · rename_i h
      rw [ih]
      simp [h]
    · rename_i h
      simp [h]
theorem drop_head {p : UInt8 → Bool} (l : List UInt8) : ∀ x r, l.dropWhile p = x :: r → p x = false := by
  induction l with
  | nil => intro x r h; simp at h
  | cons c l ih =>
    intro x r h
    rw [List.dropWhile_cons] at h
    split at h
    · exact ih x r h
    · rename_i hc
      cases h
      simpa using hc
theorem trim_nil (l : List UInt8) : Lib.trimS l digs = [] ↔ ∀ c ∈ l, IsDig c := by
  unfold Lib.trimS Lib.trimLeftS Lib.trimRightS
  rw [drop_nil]
  constructor
  · intro h
    cases hm : l.reverse.dropWhile (digs.contains ·) with
    | nil =>
      rw [drop_nil] at hm
      intro c hc
      have := hm c (by simpa using hc)
      rw [contains_digs] at this
      exact of_decide_eq_true this
    | cons x r =>
      rw [hm] at h
      have h1 := h x (by simp)
      have h2 := drop_head _ x r hm
      rw [h2] at h1
      cases h1
  · intro h
    have hm : l.reverse.dropWhile (digs.contains ·) = [] := by
      rw [drop_nil]
      intro c hc
      rw [contains_digs]
      exact decide_eq_true (h c (by simpa using hc))
    rw [hm]
    simp
theorem parseM_eq (l : List UInt8) (h : ∀ c ∈ l, IsDig c) : ∀ acc, acc ≤ 18446744073709551615 →
    Lib.parseUintM 18446744073709551615 acc l = if dval acc l ≤ 18446744073709551615 then .ok (dval acc l) else .range := by
  induction l with
  | nil =>
    intro acc ha
    rw [dval_nil, if_pos ha]
    rfl
  | cons c r ih =>
    intro acc ha
    have hc : IsDig c := h c (by simp)
    have hr := dval_ge r (acc * 10 + (c.toNat - 48))
    unfold IsDig at hc
    rw [dval_cons]
    simp only [Lib.parseUintM]
    rw [if_pos hc]
    split
    · rw [if_neg (by omega)]
    · split
      · rw [if_neg (by omega)]
      · rename_i h2
        have h3 := Nat.not_lt.1 h2
        exact ih (fun x hx => h x (List.mem_cons_of_mem _ hx)) _ h3
/-- A sign and digits. -/
def signed (neg : Bool) (n : Nat) : Int := if neg then -(n : Int) else n
theorem parse_minus (d : List UInt8) (h0 : d ≠ []) (h : ∀ c ∈ d, IsDig c) : parse (45 :: d) = fit (signed true (dval 0 d)) := by
  have hb : body (45 :: d) = d := by simp [body, Lib.trimPrefix, Lib.hasPrefix]
  unfold parse
  rw [hb, if_neg h0, if_neg (by rw [ne_eq, trim_nil]; exact fun hn => hn h), Lib.parseIntB_minus]
  unfold Lib.parseUintB
  rw [if_neg h0, show (2 : Nat) ^ 64 - 1 = 18446744073709551615 by decide +kernel, parseM_eq d h 0 (by omega)]
  generalize dval 0 d = n
  rw [show (2 : Nat) ^ (64 - 1) = 9223372036854775808 by decide +kernel]
  unfold signed fit I64
  simp only [if_true]
  by_cases h1 : n ≤ 18446744073709551615
  · rw [if_pos h1]
    simp only [Lib.signedC]
    by_cases h2 : 9223372036854775808 < n
    · rw [if_pos h2, if_neg (by omega)]
    · rw [if_neg h2, if_pos (by omega)]
  · rw [if_neg h1, if_neg (by omega)]
    rfl
theorem parse_plain (d : List UInt8) (h0 : d ≠ []) (h : ∀ c ∈ d, IsDig c) : parse d = fit (signed false (dval 0 d)) := by
  cases d with
  | nil => exact absurd rfl h0
  | cons c r =>
    have hc : IsDig c := h c (by simp)
    unfold IsDig at hc
    have hb : body (c :: r) = c :: r := by
      have hne : (c == 45) = false := by
        rw [beq_eq_false_iff_ne]
        rintro rfl
        exact absurd hc.1 (by decide)
      simp [body, Lib.trimPrefix, Lib.hasPrefix]
      rintro rfl
      exact absurd hc.1 (by decide)
    unfold parse
    rw [hb, if_neg h0, if_neg (by rw [ne_eq, trim_nil]; exact fun hn => hn h), Lib.parseIntB_plain _ _ _ (by omega) (by omega)]
    unfold Lib.parseUintB
    rw [if_neg h0, show (2 : Nat) ^ 64 - 1 = 18446744073709551615 by decide +kernel, parseM_eq _ h 0 (by omega)]
    generalize dval 0 (c :: r) = n
    rw [show (2 : Nat) ^ (64 - 1) = 9223372036854775808 by decide +kernel]
    unfold signed fit I64
    simp only [Bool.false_eq_true, if_false]
    by_cases h1 : n ≤ 18446744073709551615
    · rw [if_pos h1]
      simp only [Lib.signlessC]
      by_cases h2 : 9223372036854775808 ≤ n
      · rw [if_pos h2, if_neg (by omega)]
      · rw [if_neg h2, if_pos (by omega)]
    · rw [if_neg h1, if_neg (by omega)]
      rfl
theorem parse_bad (l : List UInt8) (h : body l = [] ∨ ∃ c ∈ body l, ¬ IsDig c) : parse l = (0, 3) := by
  unfold parse
  split
  · rfl
  · rename_i h0
    rw [if_pos]
    rw [ne_eq, trim_nil]
    rcases h with h | ⟨c, hc, hn⟩
    · exact absurd h h0
    · exact fun hall => hn (hall c hc)
theorem parse_itoa {a : Int} (ha : I64 a) : parse (Lib.itoa a) = (a, 0) := by
  unfold Lib.itoa
  split
  · rename_i hneg
    obtain ⟨h1, h2, h3⟩ := dec_val a.natAbs
    rw [parse_minus _ h3 h2, h1]
    unfold signed
    rw [if_pos rfl, show -(a.natAbs : Int) = a by omega, fit_in ha]
  · rename_i hneg
    obtain ⟨h1, h2, h3⟩ := dec_val a.toNat
    rw [parse_plain _ h3 h2, h1]
    unfold signed
    rw [if_neg (by simp), show (a.toNat : Int) = a by omega, fit_in ha]

/-! ### the reference's way -/
theorem bt_ofL (l : List UInt8) (i : Nat) (h : i < l.length) : bt (ofL l) (i : Int) = ((l[i]).toNat : Int) := by
  unfold bt
  rw [Int.toNat_natCast, dif_pos (by rw [ofL_size]; exact h)]
  rfl
theorem ofL_tail (c : UInt8) (l : List UInt8) : (ofL (c :: l)).extract 1 (ofL (c :: l)).size = ofL l := by
  apply ByteArray.ext
  rw [ByteArray.data_extract]
  simp [ofL, ByteArray.size]
theorem ofL_nil (l : List UInt8) : ((ofL l).toList = []) = (l = []) := by
  rw [show (ofL l).toList = l from ByteArray.toList_mk l]
theorem signed_out {neg : Bool} {a b : Nat} (h : ¬ I64 (signed neg a)) (hab : a ≤ b) : ¬ I64 (signed neg b) := by
  unfold signed I64 at *
  cases neg <;> simp only [Bool.false_eq_true, if_false, if_true] at * <;> omega
theorem rmul_at {a b : Int} (ha : I64 a) (hb : I64 b) (k : Nat) (hk : 0 < k) : XI.umlautref1_Mul.f k a b = some (fit (a * b)) := by
  obtain ⟨k, rfl⟩ : ∃ m, k = m + 1 := ⟨k - 1, by omega⟩
  exact rmul_eq ha hb k
theorem rsum_loop (l : List UInt8) (neg : Bool) (hall : ∀ c ∈ l, IsDig c) (hl : l.length ≤ 1000) (d : Nat) : ∀ (k i acc : Nat), i + d = l.length → I64 (signed neg acc) → d + 1 < k →
    umlautref1_Parse.l1 k (ofL l) neg (signed neg acc) (i : Int) = some (fit (signed neg (dval acc (l.drop i)))) := by
  induction d with
  | zero =>
    intro k i acc hd hI hk
    obtain ⟨k, rfl⟩ : ∃ m, k = m + 1 := ⟨k - 1, by omega⟩
    simp only [umlautref1_Parse.l1]
    rw [if_neg (by rw [ofL_size]; omega), List.drop_eq_nil_of_le (by omega), dval_nil, fit_in hI]
  | succ d ih =>
    intro k i acc hd hI hk
    obtain ⟨k, rfl⟩ : ∃ m, k = m + 1 := ⟨k - 1, by omega⟩
    have hi : i < l.length := by omega
    have hc := hall l[i] (List.getElem_mem hi)
    unfold IsDig at hc
    simp only [umlautref1_Parse.l1]
    have e10 : signed neg acc * 10 = signed neg (acc * 10) := by unfold signed; cases neg <;> simp <;> omega
    have ew : wrap64 ((i : Int) + 1) = ((i + 1 : Nat) : Int) := by
      rw [show (i : Int) + 1 = ((i + 1 : Nat) : Int) by omega]
      exact w64 (by omega)
    rw [if_pos (by rw [ofL_size]; omega), rmul_at hI (by decide) k (by omega), e10, bt_ofL l i hi, ew]
    simp only [Option.bind_some]
    rw [List.drop_eq_getElem_cons hi, dval_cons]
    have hge := dval_ge (l.drop (i + 1)) (acc * 10 + (l[i].toNat - 48))
    by_cases hm : I64 (signed neg (acc * 10))
    · rw [fit_in hm]
      simp only [if_true]
      rw [if_pos (by omega)]
      have ed : ((l[i].toNat : Int) - 48) % 256 = ((l[i].toNat - 48 : Nat) : Int) := by omega
      rw [ed]
      have hsum : ∀ x : Int, (if neg = true then -((l[i].toNat - 48 : Nat) : Int) else ((l[i].toNat - 48 : Nat) : Int)) = x → signed neg (acc * 10) + x = signed neg (acc * 10 + (l[i].toNat - 48)) := by
        intro x hx
        subst hx
        unfold signed
        cases neg <;> simp <;> omega
      have step : ∀ x : Int, (if neg = true then -((l[i].toNat - 48 : Nat) : Int) else ((l[i].toNat - 48 : Nat) : Int)) = x →
          ((XI.umlautref1_Add.f (signed neg (acc * 10)) x).bind fun bt103 => (if bt103.2 = 0 then (umlautref1_Parse.l1 k (ofL l) neg bt103.1 ((i + 1 : Nat) : Int)) else (some (0, bt103.2)))) = some (fit (signed neg (dval (acc * 10 + (l[i].toNat - 48)) (l.drop (i + 1))))) := by
        intro x hx
        rw [radd_eq hm (by subst hx; unfold I64; split <;> omega), hsum x hx]
        simp only [Option.bind_some]
        by_cases hs : I64 (signed neg (acc * 10 + (l[i].toNat - 48)))
        · rw [fit_in hs, if_pos rfl]
          exact ih k (i + 1) _ (by omega) hs (by omega)
        · rw [fit_out hs, if_neg (by decide), fit_out (signed_out hs hge)]
      cases neg
      · exact step _ rfl
      · exact step _ rfl
    · rw [fit_out hm, if_neg (by decide), fit_out (signed_out hm (by omega))]
theorem rdig_loop (l : List UInt8) (neg : Bool) (hl : l.length ≤ 1000) (R : Int × Int) (H : ∀ k, 1002 < k → (∀ c ∈ l, IsDig c) → l ≠ [] → umlautref1_Parse.l1 k (ofL l) neg 0 0 = some R) (d : Nat) : ∀ (k i : Nat), i + d = l.length → (∀ c ∈ l.take i, IsDig c) → d + 1004 < k →
    umlautref1_Parse.l0 k (ofL l) neg (i : Int) = some (if (∀ c ∈ l, IsDig c) ∧ l ≠ [] then R else (0, 3)) := by
  induction d with
  | zero =>
    intro k i hd ht hk
    obtain ⟨k, rfl⟩ : ∃ m, k = m + 1 := ⟨k - 1, by omega⟩
    rw [List.take_of_length_le (by omega)] at ht
    simp only [umlautref1_Parse.l0]
    rw [if_neg (by rw [ofL_size]; omega)]
    by_cases h0 : l = []
    · rw [if_pos (by rw [ofL_nil]; exact h0), if_neg (fun h => h.2 h0)]
    · rw [if_neg (by rw [ofL_nil]; exact h0), if_pos ⟨ht, h0⟩]
      exact H k (by omega) ht h0
  | succ d ih =>
    intro k i hd ht hk
    obtain ⟨k, rfl⟩ : ∃ m, k = m + 1 := ⟨k - 1, by omega⟩
    have hi : i < l.length := by omega
    simp only [umlautref1_Parse.l0]
    have ew : wrap64 ((i : Int) + 1) = ((i + 1 : Nat) : Int) := by
      rw [show (i : Int) + 1 = ((i + 1 : Nat) : Int) by omega]
      exact w64 (by omega)
    rw [if_pos (by rw [ofL_size]; omega), if_pos (by omega), bt_ofL l i hi, ew]
    by_cases hc : IsDig l[i]
    · have hc' := hc
      unfold IsDig at hc'
      rw [if_neg (by omega), if_neg (by omega)]
      refine ih k (i + 1) (by omega) (fun c hm => ?_) (by omega)
      rw [List.take_succ_eq_append_getElem hi] at hm
      rcases List.mem_append.1 hm with hm | hm
      · exact ht c hm
      · rw [List.mem_singleton] at hm
        rw [hm]
        exact hc
    · have hR : ¬ ((∀ c ∈ l, IsDig c) ∧ l ≠ []) := fun h => hc (h.1 _ (List.getElem_mem hi))
      rw [if_neg hR]
      unfold IsDig at hc
      split
      · rfl
      · rw [if_pos (by omega)]
theorem rdigs (l : List UInt8) (neg : Bool) (hl : l.length ≤ 1000) (k : Nat) (hk : 2100 < k) : umlautref1_Parse.j1 k (ofL l) neg = some (if (∀ c ∈ l, IsDig c) ∧ l ≠ [] then fit (signed neg (dval 0 l)) else (0, 3)) := by
  obtain ⟨k, rfl⟩ : ∃ m, k = m + 1 := ⟨k - 1, by omega⟩
  simp only [umlautref1_Parse.j1]
  refine rdig_loop l neg hl _ (fun k' hk' hall h0 => ?_) l.length k 0 (by omega) (by simp) (by omega)
  have h := rsum_loop l neg hall hl l.length k' 0 0 (by omega) (by unfold signed I64; cases neg <;> simp) (by omega)
  have e : signed neg 0 = 0 := by unfold signed; cases neg <;> simp
  rw [e, List.drop_zero] at h
  exact h
theorem rparse_eq (l : List UInt8) (hl : l.length ≤ 1000) (k : Nat) (hk : 2102 < k) : umlautref1_Parse.f k (ofL l) = some (parse l) := by
  unfold umlautref1_Parse.f
  obtain ⟨k, rfl⟩ : ∃ m, k = m + 1 := ⟨k - 1, by omega⟩
  cases l with
  | nil =>
    rw [if_neg (by rw [ofL_size]; simp)]
    simp only [umlautref1_Parse.j0, Bool.false_eq_true, if_false]
    rw [rdigs [] false (by simp) k (by omega), if_neg (by simp), parse_bad [] (.inl rfl)]
  | cons c r =>
    have h0 := bt_ofL (c :: r) 0 (by simp)
    have h0' : bt (ofL (c :: r)) 0 = (c.toNat : Int) := h0
    rw [if_pos (by rw [ofL_size, List.length_cons]; omega), if_pos (by rw [ofL_size, List.length_cons]; omega), h0']
    simp only [umlautref1_Parse.j0]
    by_cases hc : c = 45
    · subst hc
      rw [show (((45 : UInt8).toNat : Int) == 45) = true from rfl, if_pos rfl, if_pos (by rw [ofL_size, List.length_cons]; omega), ofL_tail, rdigs r true (by simp at hl; omega) k (by omega)]
      have hb : body (45 :: r) = r := by simp [body, Lib.trimPrefix, Lib.hasPrefix]
      by_cases h : (∀ c ∈ r, IsDig c) ∧ r ≠ []
      · rw [if_pos h, parse_minus r h.2 h.1]
      · rw [if_neg h, parse_bad]
        rw [hb]
        by_cases h1 : r = []
        · exact .inl h1
        · right
          by_cases h2 : ∃ c ∈ r, ¬ IsDig c
          · exact h2
          · exact absurd ⟨fun c hc => Decidable.byContradiction fun hn => h2 ⟨c, hc, hn⟩, h1⟩ h
    · have hcn : ((c.toNat : Int) == 45) = false := by
        rw [beq_eq_false_iff_ne]
        intro h
        apply hc
        apply UInt8.toNat_inj.1
        show c.toNat = 45
        omega
      rw [hcn]
      simp only [Bool.false_eq_true, if_false]
      rw [rdigs (c :: r) false hl k (by omega)]
      have hb : body (c :: r) = c :: r := by
        simp [body, Lib.trimPrefix, Lib.hasPrefix]
        exact fun h => hc h.symm
      by_cases h : ∀ c' ∈ c :: r, IsDig c'
      · rw [if_pos ⟨h, by simp⟩, parse_plain _ (by simp) h]
      · rw [if_neg (fun hh => h hh.1), parse_bad]
        rw [hb]
        right
        by_cases h2 : ∃ c' ∈ c :: r, ¬ IsDig c'
        · exact h2
        · exact absurd (fun c hc => Decidable.byContradiction fun hn => h2 ⟨c, hc, hn⟩) h
theorem IntsTexts : umlautlaw1_IntsTexts.Pure := by
  intro a s ha hs
  have ha := i64_of ha
  refine ⟨2200, ?_⟩
  have hA : umlautlaw1_awake.f 2200 = some true := awake 2199
  unfold umlautlaw1_IntsTexts.f
  split
  · rw [hA]; rfl
  · rename_i hlen
    have es : s = ofL s.data.toList := rfl
    have hsl : s.data.toList.length ≤ 100 := by
      rw [Array.length_toList]
      have : s.size = s.data.size := rfl
      omega
    have hT : ints_Text.f a = some (ofL (Lib.itoa a)) := by
      show Given.ints_Text.f a = _
      unfold Given.ints_Text.f
      unfold I64 at ha
      rw [if_pos (by omega)]
      rfl
    have hP1 : ints_Parse.f (ofL (Lib.itoa a)) = some (a, 0) := by
      unfold ints_Parse.f
      have hlen2 : (Lib.itoa a).length ≤ 100 := by
        have hb : ∀ n : Nat, n ≤ 9223372036854775808 → (Lib.decDigits n).length ≤ 19 := fun n h => dec_len 18 n (by
          have : (10 : Nat) ^ (18 + 1) = 10000000000000000000 := by decide +kernel
          omega)
        unfold I64 at ha
        unfold Lib.itoa
        split
        · have := hb a.natAbs (by omega)
          simp
          omega
        · have := hb a.toNat (by omega)
          omega
      rw [if_pos (by rw [ofL_size]; omega)]
      exact congrArg some (parse_itoa ha)
    have hP2 : ints_Parse.f s = some (parse s.data.toList) := by
      unfold ints_Parse.f
      rw [if_pos hs]
    have hR : umlautref1_Parse.f 2200 s = some (parse s.data.toList) := by
      have := rparse_eq s.data.toList (by omega) 2200 (by decide)
      rw [← es] at this
      exact this
    have hRT : XI.umlautref1_Text.f 2200 a = some (ofL (Lib.itoa a)) := rtext_eq ha 2198 (by decide)
    rw [hT]
    simp only [Option.bind_some]
    rw [hP1, hP2, hR, hRT]
    simp only [Option.bind_some, if_true, same_pair]
    rw [hA]
    rfl
end Go.Proofs.YtedmbkhjpbdkjaaDoor.PureT
