/-
  An element's own text is read as that element; the laws ElemWords and ElemReads.
-/
import Derived.Test.YtmgoncnjagihgaaDoorXT2
import Derived.Test.YtmgoncnjagihgaaDoorXT3
import Derived.Lib.SlTrimSet
import Derived.Lib.SplitLaws
import Derived.Lib.SmallJoins
import Derived.Laws.Strings
namespace Go.Proofs.YtmgoncnjagihgaaDoor.PureT
set_option linter.unusedSimpArgs false
open Go.RowKit Go.Proofs.YtmgoncnjagihgaaDoorW.PrintWords Go.Proofs.YtmgoncnjagihgaaDoorW.PrintLast Go.Proofs.YtmgoncnjagihgaaDoorW.PrintMore Go.Proofs.YtmgoncnjagihgaaDoor.Given Go.Proofs.YtmgoncnjagihgaaDoor.GivenT Go.Proofs.YtmgoncnjagihgaaDoor.PureW Go.Proofs.YtmgoncnjagihgaaDoor.PureN

/-- A digit's byte. -/
def D (d : Int) : UInt8 := UInt8.ofNat (hexd d).toNat

theorem D_facts (d : Int) (h0 : 0 ≤ d) (h1 : d < 16) : (D d == 91) = false ∧ (D d == 42) = false ∧ (D d == 93) = false ∧ (D d == 46) = false ∧ dig16 (D d).toNat = some d.toNat := by
  rcases (by omega : d = 0 ∨ d = 1 ∨ d = 2 ∨ d = 3 ∨ d = 4 ∨ d = 5 ∨ d = 6 ∨ d = 7 ∨ d = 8 ∨ d = 9 ∨ d = 10 ∨ d = 11 ∨ d = 12 ∨ d = 13 ∨ d = 14 ∨ d = 15) with rfl | rfl | rfl | rfl | rfl | rfl | rfl | rfl | rfl | rfl | rfl | rfl | rfl | rfl | rfl | rfl <;> decide +kernel

structure IsD (c : UInt8) (n : Nat) : Prop where
  q1 : (c == 91) = false
  q2 : (c == 42) = false
  q3 : (c == 93) = false
  q4 : (c == 46) = false
  q5 : dig16 c.toNat = some n
theorem isD (d : Int) (h0 : 0 ≤ d) (h1 : d < 16) : IsD (D d) d.toNat := ⟨(D_facts d h0 h1).1, (D_facts d h0 h1).2.1, (D_facts d h0 h1).2.2.1, (D_facts d h0 h1).2.2.2.1, (D_facts d h0 h1).2.2.2.2⟩
theorem ne' {c x : UInt8} (h : (c == x) = false) : (x == c) = false := by
  rw [Bool.beq_comm]
  exact h

theorem TX_list (p s t : Int) (v : Bool) : (TX p s t v).data.toList = (if v then [91, 42] else [91]) ++ [D (p / 4096), D (p / 256 % 16), D (p / 16 % 16), D (p % 16), 46, D (s / 16), D (s % 16), 46, D (t / 16), D (t % 16), 93] := by
  unfold TX H4 H2
  simp only [Joins.data_append, strOfNums_data]
  cases v <;> rfl

theorem dropWhile_hit {α : Type} (f : α → Bool) (a : α) (l : List α) (h : f a = true) : (a :: l).dropWhile f = l.dropWhile f := by rw [List.dropWhile_cons, if_pos h]
theorem dropWhile_end {α : Type} (f : α → Bool) (a : α) (l : List α) (h : f a = false) : (a :: l).dropWhile f = a :: l := by rw [List.dropWhile_cons, if_neg (by rw [h]; decide)]

theorem inSet {c : UInt8} {n : Nat} (h : IsD c n) : ([91, 42, 93] : List UInt8).contains c = false := by
  simp [List.contains, List.elem, h.q1, h.q2, h.q3]

/-- The brackets and the star are trimmed. -/
theorem trim_TX (v : Bool) (a b c d e f g h : UInt8) (na nb nc nd ne nf ng nh : Nat) (ha : IsD a na) (_hb : IsD b nb) (_hc : IsD c nc) (_hd : IsD d nd) (_he : IsD e ne) (_hf : IsD f nf) (_hg : IsD g ng) (hh : IsD h nh) :
    Lib.trimS ((if v then [91, 42] else [91]) ++ [a, b, c, d, 46, e, f, 46, g, h, 93]) [91, 42, 93] = [a, b, c, d, 46, e, f, 46, g, h] := by
  have h1 : ([91, 42, 93] : List UInt8).contains 93 = true := by decide
  have h2 : ([91, 42, 93] : List UInt8).contains 91 = true := by decide
  have h3 : ([91, 42, 93] : List UInt8).contains 42 = true := by decide
  unfold Lib.trimS Lib.trimLeftS Lib.trimRightS
  cases v
  · show ((([93, h, g, 46, f, e, 46, d, c, b, a, 91] : List UInt8).dropWhile _).reverse).dropWhile _ = _
    rw [dropWhile_hit _ _ _ h1, dropWhile_end _ _ _ (inSet hh)]
    show ([91, a, b, c, d, 46, e, f, 46, g, h] : List UInt8).dropWhile _ = _
    rw [dropWhile_hit _ _ _ h2, dropWhile_end _ _ _ (inSet ha)]
  · show ((([93, h, g, 46, f, e, 46, d, c, b, a, 42, 91] : List UInt8).dropWhile _).reverse).dropWhile _ = _
    rw [dropWhile_hit _ _ _ h1, dropWhile_end _ _ _ (inSet hh)]
    show ([91, 42, a, b, c, d, 46, e, f, 46, g, h] : List UInt8).dropWhile _ = _
    rw [dropWhile_hit _ _ _ h2, dropWhile_hit _ _ _ h3, dropWhile_end _ _ _ (inSet ha)]

theorem index_no (c : UInt8) (l : List UInt8) (h : (c == 46) = false) : Lib.index (c :: l) [46] = if Lib.index l [46] == -1 then -1 else Lib.index l [46] + 1 := by
  rw [Lib.index]
  have : ([46] : List UInt8).isPrefixOf (c :: l) = false := by simp [List.isPrefixOf, ne' h]
  rw [this]
  rfl
theorem index_yes (l : List UInt8) : Lib.index (46 :: l) [46] = 0 := by
  rw [Lib.index]
  rfl

theorem index4 (a b c d : UInt8) (l : List UInt8) (ha : (a == 46) = false) (hb : (b == 46) = false) (hc : (c == 46) = false) (hd : (d == 46) = false) : Lib.index (a :: b :: c :: d :: 46 :: l) [46] = 4 := by
  rw [index_no _ _ ha, index_no _ _ hb, index_no _ _ hc, index_no _ _ hd, index_yes]
  decide
theorem index2 (a b : UInt8) (l : List UInt8) (ha : (a == 46) = false) (hb : (b == 46) = false) : Lib.index (a :: b :: 46 :: l) [46] = 2 := by
  rw [index_no _ _ ha, index_no _ _ hb, index_yes]
  decide

theorem split_TX (a b c d e f g h : UInt8) (na nb nc nd ne nf ng nh : Nat) (ha : IsD a na) (hb : IsD b nb) (hc : IsD c nc) (hd : IsD d nd) (he : IsD e ne) (hf : IsD f nf) (hg : IsD g ng) (hh : IsD h nh) :
    Lib.splitK [46] 0 (Lib.count [a, b, c, d, 46, e, f, 46, g, h] [46]) [a, b, c, d, 46, e, f, 46, g, h] = [[a, b, c, d], [e, f], [g, h]] := by
  have hcnt : Lib.count [a, b, c, d, 46, e, f, 46, g, h] [46] = 2 := by
    rw [Lib.count_one]
    simp [List.count_cons, ha.q4, hb.q4, hc.q4, hd.q4, he.q4, hf.q4, hg.q4, hh.q4]
  rw [hcnt, Lib.splitK, index4 _ _ _ _ _ ha.q4 hb.q4 hc.q4 hd.q4]
  show _ :: Lib.splitK [46] 0 1 [e, f, 46, g, h] = _
  rw [Lib.splitK, index2 _ _ _ he.q4 hf.q4]
  rfl

theorem pu4 (a b c d : UInt8) (na nb nc nd : Nat) (ha : IsD a na) (hb : IsD b nb) (hc : IsD c nc) (hd : IsD d nd) (h1 : na < 16) (h2 : nb < 16) (h3 : nc < 16) (h4 : nd < 16) : puAll [a, b, c, d] = (0, na * 4096 + nb * 256 + nc * 16 + nd) := by
  unfold puAll
  rw [if_neg (by simp)]
  simp only [pu16, ha.q5, hb.q5, hc.q5, hd.q5]
  rw [if_neg (by omega), if_neg (by omega), if_neg (by omega), if_neg (by omega)]
  refine Prod.ext rfl ?_
  show ((((0 * 16 + na) * 16 + nb) * 16 + nc) * 16 + nd) = _
  omega
theorem pu2 (a b : UInt8) (na nb : Nat) (ha : IsD a na) (hb : IsD b nb) (h1 : na < 16) (h2 : nb < 16) : puAll [a, b] = (0, na * 16 + nb) := by
  unfold puAll
  rw [if_neg (by simp)]
  simp only [pu16, ha.q5, hb.q5]
  rw [if_neg (by omega), if_neg (by omega)]
  refine Prod.ext rfl ?_
  show ((0 * 16 + na) * 16 + nb) = _
  omega

theorem pre_TX (v : Bool) (a : UInt8) (na : Nat) (ha : IsD a na) (l : List UInt8) : Lib.hasPrefix ((if v then [91, 42] else [91]) ++ a :: l) [91, 42] = v := by
  unfold Lib.hasPrefix
  cases v
  · simp [List.isPrefixOf, ne' ha.q2]
  · simp [List.isPrefixOf]

theorem ba_ext {a b : ByteArray} (h : a.data.toList = b.data.toList) : a = b := by
  apply ByteArray.ext
  exact Array.toList_inj.1 h

/-- An element's own text is read as that element. -/
theorem parse_TX (p s t : Int) (v : Bool) (hf : fits p s t) : parse (TX p s t v) = (word p s t v, 0) := by
  have hf' := hf
  unfold fits at hf
  have i1 := isD (p / 4096) (by omega) (by omega)
  have i2 := isD (p / 256 % 16) (by omega) (by omega)
  have i3 := isD (p / 16 % 16) (by omega) (by omega)
  have i4 := isD (p % 16) (by omega) (by omega)
  have i5 := isD (s / 16) (by omega) (by omega)
  have i6 := isD (s % 16) (by omega) (by omega)
  have i7 := isD (t / 16) (by omega) (by omega)
  have i8 := isD (t % 16) (by omega) (by omega)
  have hL := TX_list p s t v
  have hT : (trimB (TX p s t v)).data.toList = [D (p / 4096), D (p / 256 % 16), D (p / 16 % 16), D (p % 16), 46, D (s / 16), D (s % 16), 46, D (t / 16), D (t % 16)] := by
    unfold trimB
    rw [hL]
    exact trim_TX v _ _ _ _ _ _ _ _ _ _ _ _ _ _ _ _ i1 i2 i3 i4 i5 i6 i7 i8
  have hS : (pieces (trimB (TX p s t v))).map (·.data.toList) = [[D (p / 4096), D (p / 256 % 16), D (p / 16 % 16), D (p % 16)], [D (s / 16), D (s % 16)], [D (t / 16), D (t % 16)]] := by
    unfold pieces
    rw [Lib.splitB_data]
    show Lib.splitK [46] 0 (Lib.count (trimB (TX p s t v)).data.toList [46]) (trimB (TX p s t v)).data.toList = _
    rw [hT]
    exact split_TX _ _ _ _ _ _ _ _ _ _ _ _ _ _ _ _ i1 i2 i3 i4 i5 i6 i7 i8
  unfold parse
  rw [hL, pre_TX v _ _ i1]
  generalize pieces (trimB (TX p s t v)) = l at hS
  have hl : l.length = 3 := by
    have := congrArg List.length hS
    simpa using this
  match l, hl with
  | [a, b, c], _ =>
    simp only [List.map_cons, List.map_nil, List.cons.injEq, and_true] at hS
    obtain ⟨ha, hb, hc⟩ := hS
    show parse3 _ _ _ _ _ = _
    rw [ha, hb, hc, pu4 _ _ _ _ _ _ _ _ i1 i2 i3 i4 (by omega) (by omega) (by omega) (by omega), pu2 _ _ _ _ i5 i6 (by omega) (by omega), pu2 _ _ _ _ i7 i8 (by omega) (by omega)]
    unfold parse3
    have e1 : (((p / 4096).toNat * 4096 + (p / 256 % 16).toNat * 256 + (p / 16 % 16).toNat * 16 + (p % 16).toNat : Nat) : Int) = p := by omega
    have e2 : (((s / 16).toNat * 16 + (s % 16).toNat : Nat) : Int) = s := by omega
    have e3 : (((t / 16).toNat * 16 + (t % 16).toNat : Nat) : Int) = t := by omega
    simp only [e1, e2, e3]
    rw [if_pos ⟨trivial, trivial, trivial, hf', trivial⟩]

/-- What Parse answers: an element whose text it is, or none. -/
theorem parse_ends (x : ByteArray) : (∃ p s t v, fits p s t ∧ parse x = (word p s t v, 0) ∧ (TX p s t v).toList = x.toList) ∨ parse x = (0, 3) := by
  unfold parse
  split
  · rename_i a b c _
    unfold parse3
    by_cases h : (puAll a.data.toList).1 = 0 ∧ (puAll b.data.toList).1 = 0 ∧ (puAll c.data.toList).1 = 0 ∧ fits (puAll a.data.toList).2 (puAll b.data.toList).2 (puAll c.data.toList).2 ∧ (TX (puAll a.data.toList).2 (puAll b.data.toList).2 (puAll c.data.toList).2 (Lib.hasPrefix x.data.toList [91, 42])).toList = x.toList
    · rw [if_pos h]
      exact .inl ⟨_, _, _, _, h.2.2.2.1, rfl, h.2.2.2.2⟩
    · rw [if_neg h]
      exact .inr rfl
  · exact .inr rfl


theorem TX_size (p s t : Int) (v : Bool) : (TX p s t v).size = if v then 13 else 12 := by
  rw [← data_length, TX_list]
  cases v <;> rfl

theorem wordN (p s t : Int) (v : Bool) (hf : fits p s t) : ∃ n : Nat, word p s t v = (n : Int) ∧ n < 4294967296 ∧ (n : Int) / 65536 = p ∧ (n : Int) / 256 % 256 = s ∧ (n : Int) / 2 % 128 = t ∧ decide (n % 2 = 1) = v := by
  unfold fits at hf
  unfold word
  refine ⟨(p * 65536 + s * 256 + t * 2 + (if v then 1 else 0)).toNat, ?_⟩
  cases v <;> simp <;> omega

/-- The element of a number, as the program and the document have it. -/
structure Elt (w : Nat) (p s t : Int) (v : Bool) : Prop where
  lt : w < 4294967296
  hp : (w : Int) / 65536 = p
  hs : (w : Int) / 256 % 256 = s
  ht : (w : Int) / 2 % 128 = t
  hv : decide (w % 2 = 1) = v
theorem Elt.fits {w : Nat} {p s t : Int} {v : Bool} (h : Elt w p s t v) : fits p s t := by
  obtain ⟨h1, h2, h3, h4, h5⟩ := h
  unfold PureW.fits
  omega
theorem Elt.word {w : Nat} {p s t : Int} {v : Bool} (h : Elt w p s t v) : word p s t v = w := by
  obtain ⟨h1, h2, h3, h4, h5⟩ := h
  unfold GivenT.word
  subst h2 h3 h4 h5
  rcases (by omega : w % 2 = 0 ∨ w % 2 = 1) with m | m <;> simp only [m] <;> simp <;> omega
theorem Elt.of {w : Nat} {p s t : Int} {v : Bool} (h : Elt w p s t v) : XA.umlautref5_Of.f (w : Int) = some (p, s, t, v) := by
  rw [of_eq w h.lt, ← h.hp, ← h.hs, ← h.ht, ← h.hv]
  refine congrArg some ?_
  refine Prod.ext ?_ (Prod.ext ?_ (Prod.ext ?_ rfl))
  · show ((w / 65536 : Nat) : Int) = _
    omega
  · show ((w / 256 % 256 : Nat) : Int) = (w : Int) / 256 % 256
    omega
  · show ((w / 2 % 128 : Nat) : Int) = (w : Int) / 2 % 128
    omega
theorem Elt.rtext {w : Nat} {p s t : Int} {v : Bool} (h : Elt w p s t v) (k : Nat) : XA.umlautref5_Elem_Text.f (k + 5) p s t v = some (TX p s t v) := by
  have hf := h.fits
  unfold PureW.fits at hf
  exact rtext_eq k p s t v (by omega) (by omega) (by omega)
theorem Elt.text {w : Nat} {p s t : Int} {v : Bool} (h : Elt w p s t v) (k : Nat) : elem_Elem_Text.f (k + 2) (w : Int) = some (TX p s t v) := by
  show XA.elem_Elem_Text.f (k + 2) (w : Int) = _
  rw [text_eq k w h.lt, h.hp, h.hs, h.ht, h.hv]
theorem Elt.parse {w : Nat} {p s t : Int} {v : Bool} (h : Elt w p s t v) : elem_Parse.f (TX p s t v) = some ((w : Int), 0) := by
  unfold elem_Parse.f
  rw [if_pos (by rw [TX_size]; cases v <;> decide), parse_TX p s t v h.fits, h.word]
theorem elt_of (w : Nat) (h : w < 4294967296) : ∃ p s t v, Elt w p s t v := ⟨_, _, _, _, h, rfl, rfl, rfl, rfl⟩
theorem awakeT (k : Nat) : umlautlaw3_awake.f (k + 5) = some true := awake_eq k

theorem ElemWords : XT.umlautlaw3_ElemWords.Pure := by
  intro w hw
  have hw := bounds_u32 hw
  obtain ⟨w, rfl, hw2⟩ := nat_of hw.1 (show w < 4294967296 by omega)
  obtain ⟨p, s, t, v, h⟩ := elt_of w (by omega)
  refine ⟨7, ?_⟩
  unfold XT.umlautlaw3_ElemWords.f
  have hf := h.fits
  unfold PureW.fits at hf
  have w0 : XA.elem_Elem_Weight.f 7 (w : Int) 0 = some 0 := (weight_eq 6 w 0 h.lt).trans rfl
  have w1 : XA.elem_Elem_Weight.f 7 (w : Int) 1 = some p := (weight_eq 6 w 1 h.lt).trans (congrArg some (by unfold weightN; rw [if_pos rfl, h.hp]))
  have w2 : XA.elem_Elem_Weight.f 7 (w : Int) 2 = some s := (weight_eq 6 w 2 h.lt).trans (congrArg some (by unfold weightN; rw [if_neg (by decide), if_pos rfl, h.hs]))
  have w3 : XA.elem_Elem_Weight.f 7 (w : Int) 3 = some t := (weight_eq 6 w 3 h.lt).trans (congrArg some (by unfold weightN; rw [if_neg (by decide), if_neg (by decide), if_pos rfl, h.ht]))
  have w4 : XA.elem_Elem_Weight.f 7 (w : Int) 4 = some 0 := (weight_eq 6 w 4 h.lt).trans rfl
  have ok : XA.elem_Elem_Ok.f 7 (w : Int) = some (okW p s t v) := by
    rw [show XA.elem_Elem_Ok.f 7 (w : Int) = _ from ok_eq 6 w h.lt, h.hp, h.hs, h.ht, h.hv]
  rw [h.of]
  simp only [Option.bind_some]
  rw [show elem_Elem_Text.f 7 (w : Int) = _ from h.text 5, show XA.umlautref5_Elem_Text.f 7 p s t v = _ from h.rtext 2, w0, w1, w2, w3, w4, var_eq w h.lt, h.hv, ok, rok_eq p s t v (by omega) (by omega) (by omega), show umlautlaw3_awake.f 7 = _ from awakeT 2]
  simp only [Option.bind_some]
  rw [h.parse]
  simp

/-- What the law asks of any text. -/
theorem reads_j0 (w : Nat) (p s t : Int) (v : Bool) (h : Elt w p s t v) (x : ByteArray) (hx : x.size ≤ 1000) : XT.umlautlaw3_ElemReads.j0 8 (TX p s t v) x = some true := by
  rw [XT.umlautlaw3_ElemReads.j0]
  unfold elem_Parse.f
  rw [if_pos hx]
  simp only [Option.bind_some]
  rcases parse_ends x with ⟨p', s', t', v', hf, he, hT⟩ | he
  · obtain ⟨n, hn, hl, n1, n2, n3, n4⟩ := wordN p' s' t' v' hf
    have hE : Elt n p' s' t' v' := ⟨hl, n1, n2, n3, n4⟩
    rw [he]
    simp only
    rw [if_pos trivial, hn, hE.of]
    simp only [Option.bind_some]
    rw [show XA.umlautref5_Elem_Text.f 7 p' s' t' v' = _ from hE.rtext 2, show umlautlaw3_awake.f 7 = _ from awakeT 2]
    simp only [Option.bind_some]
    rw [if_pos hT]
  · have hne : ¬ x.toList = (TX p s t v).toList := by
      intro e
      rw [ByteArray.toList_eq, ByteArray.toList_eq] at e
      have : x = TX p s t v := ba_ext e
      rw [this, parse_TX p s t v h.fits] at he
      have := (Prod.mk.inj he).2
      exact absurd this (by decide)
    rw [he]
    simp only
    rw [if_neg (by decide), if_pos trivial, if_pos trivial, if_neg hne, show umlautlaw3_awake.f 7 = _ from awakeT 2]
    rfl

theorem ElemReads : XT.umlautlaw3_ElemReads.Pure := by
  intro w at_ by_ how hw _ _ _
  have hw := bounds_u32 hw
  obtain ⟨w, rfl, hw2⟩ := nat_of hw.1 (show w < 4294967296 by omega)
  obtain ⟨p, s, t, v, h⟩ := elt_of w (by omega)
  refine ⟨8, ?_⟩
  unfold XT.umlautlaw3_ElemReads.f
  rw [h.of]
  simp only [Option.bind_some]
  rw [show XA.umlautref5_Elem_Text.f 8 p s t v = _ from h.rtext 3]
  simp only [Option.bind_some]
  have hz : (TX p s t v).size ≤ 13 ∧ 12 ≤ (TX p s t v).size := by
    rw [TX_size]
    cases v <;> decide
  have hj := fun x => reads_j0 w p s t v h x
  generalize TX p s t v = T at *
  have hb1 : (strOfNums [by_]).size = 1 := rfl
  generalize hJ : Int.tmod (wrap64 (Int.tmod at_ (T.size : Int) + (T.size : Int))) (T.size : Int) = J
  have j0 : 0 ≤ J ∧ J < (T.size : Int) := by
    have e1 := Int.tmod_lt_of_pos at_ (show (0 : Int) < (T.size : Int) by omega)
    have e2 : -(T.size : Int) < Int.tmod at_ (T.size : Int) := by
      have := Int.lt_tmod_of_pos at_ (show (0 : Int) < (T.size : Int) by omega)
      omega
    generalize Int.tmod at_ (T.size : Int) = u at *
    have e3 : wrap64 (u + (T.size : Int)) = u + (T.size : Int) := by unfold wrap64; omega
    rw [e3] at hJ
    rw [← hJ, Int.tmod_eq_emod_of_nonneg (by omega)]
    exact ⟨Int.emod_nonneg _ (by omega), Int.emod_lt_of_pos _ (by omega)⟩
  have e4 : wrap64 (J + 1) = J + 1 := by unfold wrap64; omega
  have x1 : (T.extract 0 J.toNat).size = J.toNat := by rw [ByteArray.size_extract]; omega
  have x2 : (T.extract (J + 1).toNat T.size).size = T.size - (J + 1).toNat := by rw [ByteArray.size_extract]; omega
  have x3 : (T.extract J.toNat T.size).size = T.size - J.toNat := by rw [ByteArray.size_extract]; omega
  rw [if_neg (by omega), if_pos j0.1, if_pos (by omega), e4, if_pos (by rw [x1, hb1]; omega), if_pos (by omega), if_pos (by omega), if_pos (by rw [ByteArray.size_append, x1, x2, hb1]; omega)]
  split
  · rw [if_pos (by rw [x1, x2]; omega)]
    exact hj _ (by rw [ByteArray.size_append, x1, x2]; omega)
  · split
    · rw [if_pos (by rw [x1, hb1]; omega), if_pos (by rw [ByteArray.size_append, x1, x3, hb1]; omega)]
      exact hj _ (by rw [ByteArray.size_append, ByteArray.size_append, x1, x3, hb1]; omega)
    · exact hj _ (by rw [ByteArray.size_append, ByteArray.size_append, x1, x2, hb1]; omega)

end Go.Proofs.YtmgoncnjagihgaaDoor.PureT
