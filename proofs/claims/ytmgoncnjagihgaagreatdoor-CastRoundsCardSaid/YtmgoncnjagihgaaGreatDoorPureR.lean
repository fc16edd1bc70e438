/-
  The law CastRounds: what becomes a text and comes back is what it was.
-/
import Derived.Test.YtmgoncnjagihgaaGreatDoorPureT
import Derived.Lib.SlTrimSet
import Derived.Lib.Space
import Derived.Lib.ItoaLen
import Derived.Laws.Strings
namespace Go.Proofs.YtmgoncnjagihgaaGreatDoor.PureC
set_option linter.unusedSimpArgs false
set_option linter.unusedVariables false
open Go.RowKit Go.Proofs.YtmgoncnjagihgaaGreatDoorW.PrintWords Go.Proofs.YtmgoncnjagihgaaGreatDoorW.PrintLast Go.Proofs.YtmgoncnjagihgaaGreatDoorW.PrintMore Go.Proofs.YtmgoncnjagihgaaGreatDoor.XC Go.Proofs.YtmgoncnjagihgaaGreatDoor.XG Go.Proofs.YtmgoncnjagihgaaGreatDoor.Given

theorem and7 (a : Int) : Go.bits .and .i64 a 7 = a % 8 := by
  show IntKind.i64.wrap ((BitVec.ofInt 64 a &&& BitVec.ofInt 64 7).toNat : Int) = _
  have e : (BitVec.ofInt 64 a &&& BitVec.ofInt 64 7).toNat = (a % 8).toNat := by
    rw [BitVec.toNat_and, BitVec.toNat_ofInt, show (BitVec.ofInt 64 7).toNat = 2 ^ 3 - 1 from rfl, Nat.and_two_pow_sub_one_eq_mod]
    omega
  rw [e, i64_w]
  unfold wrap64
  omega

theorem l0_steps (d : Nat) : ∀ (k i : Nat) (n a b c : Int) (s : ByteArray) (z : List UInt8), ((i + d : Nat) : Int) ≤ c % 8 → z.length + d ≤ 100 →
    umlautlaw13_CastRounds.l0 (k + d) n a b c s (ofL z) (i : Int) = umlautlaw13_CastRounds.l0 k n a b c s (ofL (z ++ List.replicate d 48)) ((i + d : Nat) : Int) := by
  induction d with
  | zero => intro k i n a b c s z _ _; simp
  | succ d ih =>
    intro k i n a b c s z hi hz
    rw [show k + (d + 1) = (k + d) + 1 by omega, umlautlaw13_CastRounds.l0, and7, if_pos (by omega), if_pos (by rw [ofL_size]; omega), show (⟨#[48]⟩ : ByteArray) = ofL [48] from rfl, ofL_append, show wrap64 ((i : Int) + 1) = ((i + 1 : Nat) : Int) by unfold wrap64; omega,
      ih k (i + 1) n a b c s (z ++ [48]) (by omega) (by rw [List.length_append]; simp; omega), List.append_assoc, List.singleton_append, ← List.replicate_succ, show i + 1 + d = i + (d + 1) by omega]
theorem l1_steps (d : Nat) : ∀ (k i : Nat) (n a b : Int) (s : ByteArray) (z : List UInt8), ((i + d : Nat) : Int) ≤ a % 8 → z.length + d ≤ 100 →
    umlautlaw13_CastRounds.l1 (k + d) n a b s (ofL z) (i : Int) = umlautlaw13_CastRounds.l1 k n a b s (ofL (List.replicate d 32 ++ z)) ((i + d : Nat) : Int) := by
  induction d with
  | zero => intro k i n a b s z _ _; simp
  | succ d ih =>
    intro k i n a b s z hi hz
    rw [show k + (d + 1) = (k + d) + 1 by omega, umlautlaw13_CastRounds.l1, and7, if_pos (by omega), if_pos (by rw [ofL_size]; omega), show (⟨#[32]⟩ : ByteArray) = ofL [32] from rfl, ofL_append, show wrap64 ((i : Int) + 1) = ((i + 1 : Nat) : Int) by unfold wrap64; omega,
      ih k (i + 1) n a b s ([32] ++ z) (by omega) (by rw [List.length_append]; simp; omega), ← List.append_assoc, ← List.replicate_succ', show i + 1 + d = i + (d + 1) by omega]
theorem l2_steps (d : Nat) : ∀ (k i : Nat) (n b : Int) (s : ByteArray) (z : List UInt8), ((i + d : Nat) : Int) ≤ b % 8 → z.length + d ≤ 100 →
    umlautlaw13_CastRounds.l2 (k + d) n b s (ofL z) (i : Int) = umlautlaw13_CastRounds.l2 k n b s (ofL (z ++ List.replicate d 32)) ((i + d : Nat) : Int) := by
  induction d with
  | zero => intro k i n b s z _ _; simp
  | succ d ih =>
    intro k i n b s z hi hz
    rw [show k + (d + 1) = (k + d) + 1 by omega, umlautlaw13_CastRounds.l2, and7, if_pos (by omega), if_pos (by rw [ofL_size]; omega), show (⟨#[32]⟩ : ByteArray) = ofL [32] from rfl, ofL_append, show wrap64 ((i : Int) + 1) = ((i + 1 : Nat) : Int) by unfold wrap64; omega,
      ih k (i + 1) n b s (z ++ [32]) (by omega) (by rw [List.length_append]; simp; omega), List.append_assoc, List.singleton_append, ← List.replicate_succ, show i + 1 + d = i + (d + 1) by omega]

theorem ba_list (s : ByteArray) : ofL s.data.toList = s := by
  apply ByteArray.ext
  simp [ofL]

theorem is_text (s : ByteArray) : val_Is.f 3 0 s = some (3, 0, s) := by
  unfold val_Is.f val_Ok.f
  rw [if_neg (by decide), if_neg (by decide), if_neg (by decide), if_pos rfl]
  rfl

theorem trimS_le (l cs : List UInt8) : (Lib.trimS l cs).length ≤ l.length := by
  unfold Lib.trimS Lib.trimLeftS Lib.trimRightS
  have h1 := (List.dropWhile_sublist (l := (l.reverse.dropWhile (cs.contains ·)).reverse) (cs.contains ·)).length_le
  have h2 := (List.dropWhile_sublist (l := l.reverse) (cs.contains ·)).length_le
  simp only [List.length_reverse] at h1 h2
  omega

theorem trim_call (l : List UInt8) (hl : l.length ≤ 1000) : strings_Trim.f (ofL l) (⟨#[32]⟩ : ByteArray) = some (ofL (Lib.trimS l [32])) := by
  unfold strings_Trim.f
  rw [if_pos ⟨by rw [ofL_size]; omega, by decide, by decide⟩]
  rfl
theorem parse_call (l : List UInt8) (hl : l.length ≤ 1000) : ints_Parse.f (ofL l) = some (parse l) := by
  unfold ints_Parse.f
  rw [if_pos (by rw [ofL_size]; omega)]
  rfl
/-- A text as a number. -/
theorem to_int (k : Nat) (l : List UInt8) (hl : l.length ≤ 1000) : cast_To.f (k + 2) 3 0 (ofL l) 2 = some (if (parse (Lib.trimS l [32])).2 = 0 then (2, (parse (Lib.trimS l [32])).1, E, 0) else (0, 0, E, 20)) := by
  have h2 := trimS_le l [32]
  unfold cast_To.f
  rw [is_text]
  simp only [Option.bind_some]
  rw [if_neg (by decide), if_neg (by decide), show decide ((2 : Int) > 3) = false from rfl, cast_To.j0, if_neg (by decide), if_neg (by decide), if_neg (by decide), if_neg (by decide), if_neg (by decide), show ((3 : Int) == 2 && ((2 : Int) == 3)) = false from rfl, cast_To.j1, if_neg (by decide)]
  unfold cast_read.f
  rw [if_pos rfl, trim_call l hl]
  simp only [Option.bind_some]
  rw [parse_call _ (by omega)]
  simp only [Option.bind_some]
  by_cases h : (parse (Lib.trimS l [32])).2 = 0
  · rw [if_pos h, if_pos h]
    rfl
  · rw [if_neg h, if_neg h]
    rfl

theorem to_text (k : Nat) (n : Int) (hn : I64 n) : cast_To.f (k + 2) 2 n E 3 = some (3, 0, ofL (Lib.itoa n), 0) := by
  have hi := is_int' n
  unfold cast_To.f
  rw [hi]
  simp only [Option.bind_some]
  rw [if_neg (by decide), if_neg (by decide), show decide ((3 : Int) > 3) = false from rfl, cast_To.j0, if_neg (by decide), if_neg (by decide), if_neg (by decide), if_neg (by decide), if_neg (by decide), show ((2 : Int) == 2 && ((3 : Int) == 3)) = true from rfl, cast_To.j1, if_pos rfl]
  unfold val_Show.f
  rw [hi]
  simp only [Option.bind_some]
  rw [if_neg (by decide)]
  unfold val_Print.f
  rw [hi]
  simp only [Option.bind_some]
  rw [if_neg (by decide), if_neg (by decide), if_pos trivial]
  unfold ints_Text.f
  unfold I64 at hn
  rw [if_pos hn]
  rfl

theorem to_bool (k : Nat) (n : Int) : cast_To.f (k + 2) 2 n E 1 = some (1, (if n ≠ 0 then 1 else 0), E, 0) := by
  have hi := is_int' n
  unfold cast_To.f
  rw [hi]
  simp only [Option.bind_some]
  rw [if_neg (by decide), if_neg (by decide), show decide ((1 : Int) > 3) = false from rfl, cast_To.j0, if_neg (by decide), if_neg (by decide), if_neg (by decide), if_pos (by decide)]
  unfold val_Bool.f
  by_cases h : n = 0
  · subst h
    rfl
  · rw [if_pos (by simpa using h), if_pos h]
    rfl

theorem dw_rep (d : Nat) (l : List UInt8) : (List.replicate d (32 : UInt8) ++ l).dropWhile (([32] : List UInt8).contains ·) = l.dropWhile (([32] : List UInt8).contains ·) := by
  induction d with
  | zero => rfl
  | succ d ih =>
    rw [List.replicate_succ, List.cons_append, List.dropWhile_cons, if_pos (by decide)]
    exact ih
theorem dw_stop (c : UInt8) (l : List UInt8) (h : c ≠ 32) : (c :: l).dropWhile (([32] : List UInt8).contains ·) = c :: l := by
  rw [List.dropWhile_cons, if_neg (by simpa using h)]

/-- Blanks about a text that has none at its ends are trimmed. -/
theorem trim_about (a b : Nat) (c e : UInt8) (m : List UInt8) (L : List UInt8) (hc : c ≠ 32) (he : e ≠ 32) (h1 : L = c :: m) (h2 : ∃ q, L = q ++ [e]) : Lib.trimS (List.replicate a 32 ++ L ++ List.replicate b 32) [32] = L := by
  obtain ⟨q, hq⟩ := h2
  unfold Lib.trimS Lib.trimLeftS Lib.trimRightS
  have e1 : (List.replicate a (32 : UInt8) ++ L ++ List.replicate b 32).reverse = List.replicate b 32 ++ (e :: (q.reverse ++ List.replicate a 32)) := by
    rw [List.reverse_append, List.reverse_replicate, List.reverse_append, List.reverse_replicate, hq]
    simp
  rw [e1, dw_rep, dw_stop e _ he]
  have e2 : (e :: (q.reverse ++ List.replicate a (32 : UInt8))).reverse = List.replicate a 32 ++ L := by
    rw [hq]
    simp
  rw [e2, dw_rep, h1, dw_stop c m hc]

theorem dig_ne {c : UInt8} (h : IsDig c) : c ≠ 32 := by
  rintro rfl
  exact absurd h (by decide)

theorem body_minus (l : List UInt8) : body (45 :: l) = l := by
  unfold body Lib.trimPrefix Lib.hasPrefix
  simp [List.isPrefixOf]
theorem mem_body (l : List UInt8) (c : UInt8) (h : c ∈ l) (hc : c ≠ 45) : c ∈ body l := by
  unfold body Lib.trimPrefix Lib.hasPrefix
  split
  · rename_i hp
    cases l with
    | nil => cases h
    | cons x r =>
      simp [List.isPrefixOf] at hp
      rcases List.mem_cons.1 h with e | e
      · subst e
        exact absurd hp.symm hc
      · simpa using e
  · exact h

/-- What the law's number is, told by signs. -/
structure Num (n : Int) (L : List UInt8) : Prop where
  val : parse L = (n, 0)
  len : L.length ≤ 40
  cons : ∃ c m, L = c :: m ∧ c ≠ 32
  last : ∃ q e, L = q ++ [e] ∧ e ≠ 32

theorem dval_zeros (z : Nat) (l : List UInt8) : dval 0 (List.replicate z 48 ++ l) = dval 0 l := by
  induction z with
  | zero => rfl
  | succ z ih =>
    rw [List.replicate_succ, List.cons_append, dval_cons]
    exact ih
theorem digs_all (z u : Nat) : ∀ c ∈ List.replicate z (48 : UInt8) ++ Lib.decDigits u, IsDig c := by
  intro c hc
  rcases List.mem_append.1 hc with h | h
  · rw [(List.mem_replicate.1 h).2]
    decide
  · exact (dec_val u).2.1 c h
theorem digs_last (z u : Nat) : ∃ q e, List.replicate z (48 : UInt8) ++ Lib.decDigits u = q ++ [e] ∧ e ≠ 32 := by
  have hne : List.replicate z (48 : UInt8) ++ Lib.decDigits u ≠ [] := by
    intro h
    exact (dec_val u).2.2 (List.append_eq_nil_iff.1 h).2
  exact ⟨_, _, (List.dropLast_concat_getLast hne).symm, dig_ne (digs_all z u _ (List.getLast_mem hne))⟩
theorem dec_len19 (u : Nat) (h : u ≤ 9223372036854775808) : (Lib.decDigits u).length ≤ 20 := dec_len 19 u (by omega)

theorem num_of (n : Int) (hn : I64 n) (z : Nat) (hz : z ≤ 7) : Num n (if n < 0 then 45 :: (List.replicate z 48 ++ Lib.decDigits n.natAbs) else List.replicate z 48 ++ Lib.decDigits n.natAbs) := by
  have hu : n.natAbs ≤ 9223372036854775808 := by unfold I64 at hn; omega
  have hl := dec_len19 _ hu
  have hd := digs_all z n.natAbs
  have hv : dval 0 (List.replicate z 48 ++ Lib.decDigits n.natAbs) = n.natAbs := by rw [dval_zeros, (dec_val _).1]
  have hne : List.replicate z (48 : UInt8) ++ Lib.decDigits n.natAbs ≠ [] := by
    intro h
    exact (dec_val n.natAbs).2.2 (List.append_eq_nil_iff.1 h).2
  obtain ⟨q, e, hq, he⟩ := digs_last z n.natAbs
  by_cases h : n < 0
  · rw [if_pos h]
    refine ⟨?_, ?_, ⟨45, _, rfl, by decide⟩, ⟨45 :: q, e, by rw [hq]; rfl, he⟩⟩
    · rw [parse_minus _ hne hd, hv]
      have : signed true n.natAbs = n := by
        show -(n.natAbs : Int) = n
        omega
      rw [this, fit_in hn]
    · simp
      omega
  · rw [if_neg h]
    refine ⟨?_, ?_, ?_, ⟨q, e, hq, he⟩⟩
    · rw [parse_plain _ hne hd, hv]
      have : signed false n.natAbs = n := by
        show (n.natAbs : Int) = n
        omega
      rw [this, fit_in hn]
    · simp
      omega
    · cases hc : List.replicate z (48 : UInt8) ++ Lib.decDigits n.natAbs with
      | nil => exact absurd hc hne
      | cons c m => exact ⟨c, m, rfl, dig_ne (hd c (by rw [hc]; exact List.mem_cons_self))⟩

theorem ofL_toList (l : List UInt8) : (ofL l).toList = l := ByteArray.toList_mk l

theorem rounds_end (k : Nat) (hk : 1000 < k) (n b : Int) (hn : I64 n) (L : List UInt8) (hN : Num n L) (a c : Nat) (ha : a ≤ 7) (hc : c ≤ 7) (hb : b % 8 = (c : Int)) :
    umlautlaw13_CastRounds.l2 (k + 1) n b (ofL (Lib.itoa n)) (ofL (List.replicate a 32 ++ L ++ List.replicate c 32)) (c : Int) = some true := by
  obtain ⟨k2, rfl⟩ : ∃ m, k = m + 2 := ⟨k - 2, by omega⟩
  obtain ⟨x, m, hx, hx2⟩ := hN.cons
  obtain ⟨q, e, hq, he⟩ := hN.last
  have hlen := hN.len
  have ht := trim_about a c x e m L hx2 he hx ⟨q, hq⟩
  have hll : (List.replicate a (32 : UInt8) ++ L ++ List.replicate c 32).length ≤ 60 := by simp; omega
  have v1 := to_int k2 (List.replicate a 32 ++ L ++ List.replicate c 32) (by omega)
  rw [ht, hN.val, if_pos rfl] at v1
  have hp2 : (parse (Lib.trimS (List.replicate a (32 : UInt8) ++ L ++ List.replicate c 32 ++ [120]) [32])).2 = 3 := by
    have e3 : Lib.trimS (List.replicate a (32 : UInt8) ++ L ++ List.replicate c 32 ++ [120]) [32] = L ++ List.replicate c 32 ++ [120] := by
      have := trim_about a 0 x 120 (m ++ List.replicate c 32 ++ [120]) (L ++ List.replicate c 32 ++ [120]) hx2 (by decide) (by rw [hx]; simp) ⟨L ++ List.replicate c 32, rfl⟩
      simpa using this
    rw [e3, parse_bad _ (.inr ⟨120, mem_body _ 120 (by simp) (by decide), by decide⟩)]
  have v2 := to_int k2 (List.replicate a 32 ++ L ++ List.replicate c 32 ++ [120]) (by simp; simp at hll; omega)
  rw [if_neg (by rw [hp2]; decide)] at v2
  rw [umlautlaw13_CastRounds.l2, and7, if_neg (by omega)]
  unfold umlautref11_Text.f
  simp only [Option.bind_some]
  rw [v1]
  simp only [Option.bind_some]
  rw [to_text k2 n hn, to_bool k2 n]
  simp only [Option.bind_some]
  rw [if_pos (by rw [ofL_size]; omega), show (⟨#[120]⟩ : ByteArray) = ofL [120] from rfl, ofL_append, v2]
  simp only [Option.bind_some]
  rw [if_pos trivial, if_pos trivial, if_pos trivial, if_pos trivial, if_pos trivial, if_pos (by by_cases h : n = 0 <;> simp [h]), if_pos trivial, if_pos trivial, awake_all (k2 + 2) (by omega)]
  rfl

theorem ofL_tail (c : UInt8) (l : List UInt8) : (ofL (c :: l)).extract 1 (ofL (c :: l)).size = ofL l := by
  apply ByteArray.ext
  rw [ByteArray.data_extract]
  simp [ofL, ByteArray.size]

theorem rounds_mid (kk : Nat) (hk : 1000 < kk) (n a b : Int) (hn : I64 n) (L : List UInt8) (hN : Num n L) (p r : Nat) (hp : a % 8 = (p : Int)) (hr : b % 8 = (r : Int)) :
    umlautlaw13_CastRounds.j1 (((kk + 1 + r) + 1 + p) + 1) n a b (ofL (Lib.itoa n)) (ofL L) = some true := by
  have hlen := hN.len
  rw [umlautlaw13_CastRounds.j1]
  have e1 := l1_steps p ((kk + 1 + r) + 1) 0 n a b (ofL (Lib.itoa n)) L (by omega) (by omega)
  rw [show ((0 : Nat) : Int) = 0 from rfl] at e1
  rw [e1, umlautlaw13_CastRounds.l1, and7, if_neg (by omega)]
  have e2 := l2_steps r (kk + 1) 0 n b (ofL (Lib.itoa n)) (List.replicate p 32 ++ L) (by omega) (by simp; omega)
  rw [show ((0 : Nat) : Int) = 0 from rfl] at e2
  rw [e2, Nat.zero_add]
  exact rounds_end kk hk n b hn L hN p r (by omega) (by omega) hr

theorem rounds_all (kk : Nat) (hk : 1000 < kk) (n a b c : Int) (hn : I64 n) (z p r : Nat) (hz : c % 8 = (z : Int)) (hp : a % 8 = (p : Int)) (hr : b % 8 = (r : Int)) :
    umlautlaw13_CastRounds.l0 (((((kk + 1 + r) + 1 + p) + 1) + 1) + z) n a b c (ofL (Lib.itoa n)) (ofL []) 0 = some true := by
  have hN := num_of n hn z (by omega)
  have hit : (Lib.itoa n).length ≤ 21 := by
    unfold I64 at hn
    exact Lib.itoa_length_le n hn.1 hn.2
  have e1 := l0_steps z ((((kk + 1 + r) + 1 + p) + 1) + 1) 0 n a b c (ofL (Lib.itoa n)) [] (by omega) (by simp; omega)
  rw [show ((0 : Nat) : Int) = 0 from rfl] at e1
  rw [e1, List.nil_append, umlautlaw13_CastRounds.l0, and7, if_neg (by omega), if_pos (by rw [ofL_size, ofL_size]; simp; omega)]
  by_cases h : n < 0
  · rw [if_pos h] at hN
    obtain ⟨u, hu, hu1⟩ : ∃ u : Nat, n = -(u : Int) ∧ 1 ≤ u := ⟨n.natAbs, by omega, by omega⟩
    have hi : Lib.itoa n = 45 :: Lib.decDigits n.natAbs := by
      rw [hu, Lib.itoa_neg u hu1]
      congr 2
      omega
    rw [if_pos h, if_pos (by rw [ofL_size]; simp; omega), if_pos (by rw [ofL_size, hi]; simp; omega), if_pos]
    · have et : ((⟨#[45]⟩ : ByteArray) ++ ofL (List.replicate z 48)) ++ (ofL (Lib.itoa n)).extract 1 (ofL (Lib.itoa n)).size = ofL (45 :: (List.replicate z 48 ++ Lib.decDigits n.natAbs)) := by
        rw [hi, ofL_tail, show (⟨#[45]⟩ : ByteArray) = ofL [45] from rfl, ofL_append, ofL_append]
        simp
      rw [et]
      exact rounds_mid kk hk n a b hn _ hN p r hp hr
    · rw [hi, ofL_tail, ByteArray.size_append, ofL_size, ofL_size]
      rw [hi] at hit
      simp at hit ⊢
      show 1 + z + _ ≤ _
      omega
  · rw [if_neg h] at hN
    obtain ⟨u, hu⟩ : ∃ u : Nat, n = (u : Int) := ⟨n.natAbs, by omega⟩
    have hi : Lib.itoa n = Lib.decDigits n.natAbs := by
      rw [hu, Lib.itoa_nonneg u]
      congr 1
    rw [if_neg h, ofL_append]
    have := rounds_mid kk hk n a b hn _ hN p r hp hr
    rw [← hi] at this
    exact this

theorem CastRounds : umlautlaw13_CastRounds.Pure := by
  intro n a b c hn _ _ _
  have hn := i64_of hn
  obtain ⟨z, hz⟩ : ∃ z : Nat, c % 8 = z := ⟨(c % 8).toNat, by omega⟩
  obtain ⟨p, hp⟩ : ∃ p : Nat, a % 8 = p := ⟨(a % 8).toNat, by omega⟩
  obtain ⟨r, hr⟩ : ∃ r : Nat, b % 8 = r := ⟨(b % 8).toNat, by omega⟩
  obtain ⟨K, hK⟩ : ∃ K, K = ((((1001 + 1 + r) + 1 + p) + 1) + 1) + z := ⟨_, rfl⟩
  have hA := rounds_all 1001 (by decide) n a b c hn z p r hz hp hr
  rw [← hK] at hA
  refine ⟨K, ?_⟩
  obtain ⟨K2, hK2⟩ : ∃ m, K = m + 2 := ⟨K - 2, by omega⟩
  have hT := rtext_eq hn K2 (by omega)
  rw [← hK2] at hT
  unfold umlautlaw13_CastRounds.f
  rw [hT]
  exact hA

end Go.Proofs.YtmgoncnjagihgaaGreatDoor.PureC
