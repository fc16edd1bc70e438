/-
  What the printed functions of whole numbers answer, told by plain arithmetic; and the laws IntsSums, IntsTurns, IntsEnds, IntsShifts, IntsWidths over them.
-/
import Derived.Test.YtedmbkhjpbdkjaaDoorXI
namespace Go.Proofs.YtedmbkhjpbdkjaaDoor.PureI
set_option linter.unusedSimpArgs false
set_option linter.unusedVariables false
open Go.RowKit Go.Proofs.YtedmbkhjpbdkjaaDoorW.PrintWords Go.Proofs.YtedmbkhjpbdkjaaDoorW.PrintLast Go.Proofs.YtedmbkhjpbdkjaaDoor.XI Go.Proofs.YtedmbkhjpbdkjaaDoor.Given

def I64 (x : Int) : Prop := -9223372036854775808 ≤ x ∧ x ≤ 9223372036854775807
instance (x : Int) : Decidable (I64 x) := by unfold I64; infer_instance
def U64 (x : Int) : Prop := 0 ≤ x ∧ x ≤ 18446744073709551615
theorem i64_of {x : Int} (h : (Lit.int .i64 x).wf = true) : I64 x := by
  have := bounds_i64 h
  unfold I64
  omega
theorem u64_of {x : Int} (h : (Lit.int .u64 x).wf = true) : U64 x := by
  have := bounds_u64 h
  unfold U64
  omega
theorem wrap64_in {x : Int} (h : I64 x) : wrap64 x = x := by unfold I64 at h; unfold wrap64; omega
theorem wrap64_I (x : Int) : I64 (wrap64 x) := by unfold I64 wrap64; omega
theorem u64_wrap (x : Int) : IntKind.u64.wrap x = x % 18446744073709551616 := by simp [IntKind.wrap, IntKind.bits, IntKind.signed]

/-- A number, or 'too great'. -/
def fit (x : Int) : Int × Int := if I64 x then (x, 0) else (0, 17)
theorem fit_in {x : Int} (h : I64 x) : fit x = (x, 0) := if_pos h
theorem fit_out {x : Int} (h : ¬ I64 x) : fit x = (0, 17) := if_neg h

theorem beq_dec (p q : Prop) [Decidable p] [Decidable q] : ((decide p == decide q) = true) = (p ↔ q) := by
  by_cases hp : p <;> by_cases hq : q <;> simp [hp, hq]
theorem bne_dec (p q : Prop) [Decidable p] [Decidable q] : ((decide p != decide q) = true) = ¬ (p ↔ q) := by
  by_cases hp : p <;> by_cases hq : q <;> simp [hp, hq]
theorem fit_eq_in {x y : Int} (h : I64 x) (e : y = x) : some (y, (0 : Int)) = some (fit x) := by rw [fit_in h, e]
theorem fit_eq_out {x : Int} (h : ¬ I64 x) : some ((0 : Int), (17 : Int)) = some (fit x) := by rw [fit_out h]

theorem add_eq {a b : Int} (ha : I64 a) (hb : I64 b) : ints_Add.f a b = some (fit (a + b)) := by
  unfold ints_Add.f
  simp only [beq_dec, bne_dec]
  unfold I64 at ha hb
  repeat' split
  all_goals first
    | (refine fit_eq_out ?_; (try unfold I64 at *); (try unfold wrap64 at *); omega)
    | (refine fit_eq_in ?_ ?_ <;> (try unfold I64 at *) <;> (try unfold wrap64 at *) <;> omega)
theorem sub_eq {a b : Int} (ha : I64 a) (hb : I64 b) : ints_Sub.f a b = some (fit (a - b)) := by
  unfold ints_Sub.f
  simp only [beq_dec, bne_dec]
  unfold I64 at ha hb
  repeat' split
  all_goals first
    | (refine fit_eq_out ?_; (try unfold I64 at *); (try unfold wrap64 at *); omega)
    | (refine fit_eq_in ?_ ?_ <;> (try unfold I64 at *) <;> (try unfold wrap64 at *) <;> omega)
theorem neg_eq {a : Int} (ha : I64 a) : ints_Neg.f a = some (fit (-a)) := by
  unfold ints_Neg.f
  rw [sub_eq (by decide) ha]
  simp
theorem radd_eq {a b : Int} (ha : I64 a) (hb : I64 b) : umlautref1_Add.f a b = some (fit (a + b)) := by
  unfold umlautref1_Add.f
  unfold I64 at ha hb
  repeat' split
  all_goals first
    | (refine fit_eq_out ?_; (try unfold I64 at *); (try unfold wrap64 at *); omega)
    | (refine fit_eq_in ?_ ?_ <;> (try unfold I64 at *) <;> (try unfold wrap64 at *) <;> omega)
theorem rsub_eq {a b : Int} (ha : I64 a) (hb : I64 b) : umlautref1_Sub.f a b = some (fit (a - b)) := by
  unfold umlautref1_Sub.f
  unfold I64 at ha hb
  repeat' split
  all_goals first
    | (refine fit_eq_out ?_; (try unfold I64 at *); (try unfold wrap64 at *); omega)
    | (refine fit_eq_in ?_ ?_ <;> (try unfold I64 at *) <;> (try unfold wrap64 at *) <;> omega)
theorem rneg_eq {a : Int} (ha : I64 a) : umlautref1_Neg.f a = some (fit (-a)) := by
  unfold umlautref1_Neg.f
  rw [rsub_eq (by decide) ha]
  simp
theorem same_eq (a b : Int) : umlautlaw1_same.f a b a b = some true := by simp [umlautlaw1_same.f]


/-! ### shifts -/
theorem pow_pos' (m : Nat) : (0 : Int) < 2 ^ m := Int.pow_pos (by decide)
theorem shl_i64 (a : Int) {n : Int} (h1 : n ≤ 64) : shl .i64 a n = wrap64 (a * 2 ^ n.toNat) := by
  unfold shl
  rw [Nat.min_eq_left (by simp [IntKind.bits]; omega), i64_w]
theorem shr_i64 (a : Int) {n : Int} (h1 : n ≤ 64) : shr .i64 a n = a / 2 ^ n.toNat := by
  unfold shr
  rw [Nat.min_eq_left (by simp [IntKind.bits]; omega)]
theorem split64 {m : Nat} (hm : m ≤ 64) : (18446744073709551616 : Int) = 2 ^ m * 2 ^ (64 - m) := by
  rw [← Int.pow_add, show m + (64 - m) = 64 by omega]
  decide +kernel
theorem back_shl {a : Int} {m : Nat} (hm : m ≤ 64) : wrap64 (a * 2 ^ m) / 2 ^ m = a ↔ I64 (a * 2 ^ m) := by
  obtain ⟨q, hq⟩ : ∃ q, wrap64 (a * 2 ^ m) = a * 2 ^ m - 18446744073709551616 * q := ⟨(a * 2 ^ m + 9223372036854775808) / 18446744073709551616, by unfold wrap64; omega⟩
  have hP := pow_pos' m
  have hR := pow_pos' (64 - m)
  have e : wrap64 (a * 2 ^ m) / 2 ^ m = a - 2 ^ (64 - m) * q := by
    rw [hq, split64 hm, show a * 2 ^ m - 2 ^ m * 2 ^ (64 - m) * q = 2 ^ m * (a - 2 ^ (64 - m) * q) by rw [Int.mul_sub, Int.mul_comm a, Int.mul_assoc]]
    exact Int.mul_ediv_cancel_left _ (by omega)
  rw [e]
  constructor
  · intro h
    have h0 : 2 ^ (64 - m) * q = 0 := by omega
    rcases Int.mul_eq_zero.1 h0 with h2 | h2
    · omega
    · subst h2
      rw [Int.mul_zero, Int.sub_zero] at hq
      rw [← hq]
      exact wrap64_I _
  · intro h
    rw [wrap64_in h] at hq
    have : q = 0 := by omega
    rw [this]
    omega
theorem shl_bad {a n : Int} (h : n < 0 ∨ 64 ≤ n) (k : Nat) : ints_Shl.f (k + 1) a n = some (0, 19) := by
  unfold ints_Shl.f
  split
  · simp [ints_Shl.j0]
  · rename_i h0
    have : 64 ≤ n := by omega
    simp [ints_Shl.j0, this]
theorem shl_eq {a n : Int} (h0 : 0 ≤ n) (h1 : n < 64) (k : Nat) : ints_Shl.f (k + 1) a n = some (fit (a * 2 ^ n.toNat)) := by
  have hd : decide (n ≥ 64) = false := decide_eq_false (by omega)
  unfold ints_Shl.f
  rw [if_neg (by omega), hd]
  simp only [ints_Shl.j0]
  rw [if_neg (by decide), if_pos h0, shl_i64 a (by omega), shr_i64 _ (by omega)]
  have hb := back_shl (a := a) (m := n.toNat) (by omega)
  split
  · rename_i h
    have hi := hb.1 h
    rw [fit_in hi, wrap64_in hi]
  · rename_i h
    rw [fit_out (fun hi => h (hb.2 hi))]
theorem rshl_bad {a n : Int} (h : n < 0 ∨ 64 ≤ n) (k : Nat) : umlautref1_Shl.f (k + 1) a n = some (0, 19) := by
  unfold umlautref1_Shl.f
  split
  · simp [umlautref1_Shl.j0]
  · rename_i h0
    have : n > 63 := by omega
    simp [umlautref1_Shl.j0, this]
theorem far_out {y P : Int} (hy : ¬ I64 y) (hP : 1 ≤ P) : ¬ I64 (y * P) := by
  unfold I64 at *
  rw [show y * P = y + y * (P - 1) by rw [Int.mul_sub, Int.mul_one]; omega]
  rcases Int.lt_or_le y 0 with h | h
  · have := Int.mul_nonneg (a := -y) (b := P - 1) (by omega) (by omega)
    rw [Int.neg_mul] at this
    omega
  · have := Int.mul_nonneg (a := y) (b := P - 1) (by omega) (by omega)
    omega
theorem rshl_loop (n : Int) (h1 : n < 64) (d : Nat) : ∀ (k : Nat) (x i : Int), I64 x → 0 ≤ i → i ≤ n → n - i = d → d < k → umlautref1_Shl.l0 k x n i = some (fit (x * 2 ^ d)) := by
  induction d with
  | zero =>
    intro k x i hx h0 hi hd hk
    obtain ⟨k, rfl⟩ : ∃ m, k = m + 1 := ⟨k - 1, by omega⟩
    simp only [umlautref1_Shl.l0]
    rw [if_neg (by omega), Int.pow_zero, Int.mul_one, fit_in hx]
  | succ d ih =>
    intro k x i hx h0 hi hd hk
    obtain ⟨k, rfl⟩ : ∃ m, k = m + 1 := ⟨k - 1, by omega⟩
    simp only [umlautref1_Shl.l0]
    rw [if_pos (by omega), radd_eq hx hx]
    simp only [Option.bind_some]
    have e : x * 2 ^ (d + 1) = (x + x) * 2 ^ d := by rw [Int.pow_succ]; rw [← Int.two_mul, Int.mul_comm (2 ^ d) 2, ← Int.mul_assoc, Int.mul_comm x 2]
    by_cases hI : I64 (x + x)
    · rw [fit_in hI, if_pos rfl, wrap64_in (by unfold I64; omega), ih k _ _ hI (by omega) (by omega) (by omega) (by omega), e]
    · rw [fit_out hI, if_neg (by decide), e, fit_out (far_out hI (by have := pow_pos' d; omega))]
theorem rshl_eq {a n : Int} (ha : I64 a) (h0 : 0 ≤ n) (h1 : n < 64) (k : Nat) (hk : 65 ≤ k) : umlautref1_Shl.f (k + 1) a n = some (fit (a * 2 ^ n.toNat)) := by
  have hd : decide (n > 63) = false := decide_eq_false (by omega)
  unfold umlautref1_Shl.f
  rw [if_neg (by omega), hd]
  simp only [umlautref1_Shl.j0]
  rw [if_neg (by decide)]
  exact rshl_loop n h1 n.toNat k a 0 ha (by omega) h0 (by omega) (by omega)
theorem shr_bad {a n : Int} (h : n < 0 ∨ 64 ≤ n) : ints_Shr.f a n = some (0, 19) := by
  unfold ints_Shr.f
  split
  · rfl
  · rw [if_pos (by omega)]
theorem shr_eq {a n : Int} (h0 : 0 ≤ n) (h1 : n < 64) : ints_Shr.f a n = some (a / 2 ^ n.toNat, 0) := by
  unfold ints_Shr.f
  rw [if_neg (by omega), if_neg (by omega), if_pos h0, shr_i64 a (by omega)]
theorem rshr_bad {a n : Int} (h : n < 0 ∨ 64 ≤ n) (k : Nat) : umlautref1_Shr.f (k + 1) a n = some (0, 19) := by
  unfold umlautref1_Shr.f
  split
  · simp [umlautref1_Shr.j0]
  · rename_i h0
    have : n > 63 := by omega
    simp [umlautref1_Shr.j0, this]
theorem tdiv_pos (y : Int) {c : Int} (hc : 0 < c) : Int.tdiv y c = if 0 ≤ y then y / c else -(-y / c) := by
  split
  · exact Int.tdiv_eq_ediv_of_nonneg ‹_›
  · rw [show Int.tdiv y c = Int.tdiv (-(-y)) c by rw [Int.neg_neg], Int.neg_tdiv, Int.tdiv_eq_ediv_of_nonneg (by omega)]
theorem tmod_pos (y : Int) {c : Int} (hc : 0 < c) : Int.tmod y c = if 0 ≤ y then y % c else -(-y % c) := by
  split
  · exact Int.tmod_eq_emod_of_nonneg ‹_›
  · rw [show Int.tmod y c = Int.tmod (-(-y)) c by rw [Int.neg_neg], Int.neg_tmod, Int.tmod_eq_emod_of_nonneg (by omega)]
theorem rshr_loop (n : Int) (h1 : n < 64) (d : Nat) : ∀ (k : Nat) (x i : Int), I64 x → 0 ≤ i → i ≤ n → n - i = d → d < k → umlautref1_Shr.l0 k x n i = some (x / 2 ^ d, 0) := by
  induction d with
  | zero =>
    intro k x i hx h0 hi hd hk
    obtain ⟨k, rfl⟩ : ∃ m, k = m + 1 := ⟨k - 1, by omega⟩
    simp only [umlautref1_Shr.l0]
    rw [if_neg (by omega), Int.pow_zero, Int.ediv_one]
  | succ d ih =>
    intro k x i hx h0 hi hd hk
    obtain ⟨k, rfl⟩ : ∃ m, k = m + 1 := ⟨k - 1, by omega⟩
    simp only [umlautref1_Shr.l0]
    have e : x / 2 ^ (d + 1) = x / 2 / 2 ^ d := by rw [Int.pow_succ, Int.mul_comm, Int.ediv_ediv_of_nonneg (by decide)]
    have hI : I64 (x / 2) := by unfold I64 at *; omega
    have hw : wrap64 (i + 1) = i + 1 := wrap64_in (by unfold I64; omega)
    rw [if_pos (by omega), hw, e, ← ih k (x / 2) (i + 1) hI (by omega) (by omega) (by omega) (by omega)]
    have h2 : ∀ y : Int, Int.tdiv y 2 = x / 2 → wrap64 (Int.tdiv y 2) = x / 2 := fun y h => by rw [h]; exact wrap64_in hI
    have hm := tmod_pos x (c := 2) (by decide)
    have hd0 := tdiv_pos x (c := 2) (by decide)
    have hd1 := tdiv_pos (x - 1) (c := 2) (by decide)
    unfold I64 at hx
    split
    · rename_i h
      rw [if_neg (by omega)] at hm hd0 hd1
      split
      · rw [h2 x (by omega)]
      · rw [wrap64_in (x := x - 1) (by unfold I64; omega), h2 (x - 1) (by omega)]
    · rename_i h
      rw [if_pos (by omega)] at hd0
      rw [h2 x (by omega)]
theorem rshr_eq {a n : Int} (ha : I64 a) (h0 : 0 ≤ n) (h1 : n < 64) (k : Nat) (hk : 65 ≤ k) : umlautref1_Shr.f (k + 1) a n = some (a / 2 ^ n.toNat, 0) := by
  have hd : decide (n > 63) = false := decide_eq_false (by omega)
  unfold umlautref1_Shr.f
  rw [if_neg (by omega), hd]
  simp only [umlautref1_Shr.j0]
  rw [if_neg (by decide)]
  exact rshr_loop n h1 n.toNat k a 0 ha (by omega) h0 (by omega) (by omega)

/-! ### widths -/
def wr (x size : Int) (s : Bool) : Int :=
  if size = 1 then (if s then (x + 128) % 256 - 128 else x % 256)
  else if size = 2 then (if s then (x + 32768) % 65536 - 32768 else x % 65536)
  else if size = 4 then (if s then (x + 2147483648) % 4294967296 - 2147483648 else x % 4294967296) else x
theorem wrap_i8 (n : Int) : IntKind.i8.wrap n = (n + 128) % 256 - 128 := by
  simp [IntKind.wrap, IntKind.bits, IntKind.signed]
  split <;> omega
theorem wrap_i16 (n : Int) : IntKind.i16.wrap n = (n + 32768) % 65536 - 32768 := by
  simp [IntKind.wrap, IntKind.bits, IntKind.signed]
  split <;> omega
theorem wrap_u16 (n : Int) : IntKind.u16.wrap n = n % 65536 := by simp [IntKind.wrap, IntKind.bits, IntKind.signed]
theorem wrapf_eq (x size : Int) (s : Bool) : ints_Wrap.f x size s = some (wr x size s) := by
  unfold ints_Wrap.f wr
  cases s <;> simp only [wrap_i8, wrap_i16, wrap_u16, wrap32] <;> repeat' split
  all_goals first
    | rfl
    | (rename_i h; cases h; done)
    | (congr 1; unfold wrap64; omega)
    | contradiction
theorem fitf_eq (x size : Int) (s : Bool) : ints_Fit.f x size s = some (if wr x size s = x then (x, 0) else (0, 17)) := by
  unfold ints_Fit.f
  rw [wrapf_eq]
  simp only [Option.bind_some]
  split <;> rfl
theorem shl_1_8 : shl .i64 1 8 = 256 := by decide +kernel
theorem shl_1_16 : shl .i64 1 16 = 65536 := by decide +kernel
theorem shl_1_32 : shl .i64 1 32 = 4294967296 := by decide +kernel
theorem rwrap_eq (x size : Int) (hx : I64 x) (s : Bool) (k : Nat) : umlautref1_Wrap.f (k + 1) x size s = some (wr x size s) := by
  unfold umlautref1_Wrap.f wr
  unfold I64 at hx
  by_cases h1 : size = 1
  · subst h1
    simp only [umlautref1_Wrap.j0, if_true]
    rw [show wrap64 (8 * 1) = 8 by decide +kernel, shl_1_8]
    have hm := tmod_pos x (c := 256) (by decide)
    rw [show wrap64 (Int.tdiv 256 2) = 128 by decide +kernel]
    generalize Int.tmod x 256 = t at *
    by_cases hx0 : 0 ≤ x
    all_goals (first | rw [if_pos hx0] at hm | rw [if_neg hx0] at hm)
    all_goals (cases s <;> simp only [Bool.false_eq_true, if_false, if_true] <;> repeat' split)
    all_goals first | contradiction | omega | rfl | ((try unfold wrap64 at *); congr 1 <;> omega)
  · rw [if_neg h1, if_neg h1]
    by_cases h2 : size = 2
    · subst h2
      simp only [umlautref1_Wrap.j0, if_true]
      rw [show wrap64 (8 * 2) = 16 by decide +kernel, shl_1_16]
      have hm := tmod_pos x (c := 65536) (by decide)
      rw [show wrap64 (Int.tdiv 65536 2) = 32768 by decide +kernel]
      generalize Int.tmod x 65536 = t at *
      by_cases hx0 : 0 ≤ x
      all_goals (first | rw [if_pos hx0] at hm | rw [if_neg hx0] at hm)
      all_goals (cases s <;> simp only [Bool.false_eq_true, if_false, if_true] <;> repeat' split)
      all_goals first | contradiction | omega | rfl | ((try unfold wrap64 at *); congr 1 <;> omega)
    · rw [if_neg h2, if_neg h2]
      by_cases h4 : size = 4
      · subst h4
        simp only [umlautref1_Wrap.j0, if_true]
        rw [show wrap64 (8 * 4) = 32 by decide +kernel, shl_1_32]
        have hm := tmod_pos x (c := 4294967296) (by decide)
        rw [show wrap64 (Int.tdiv 4294967296 2) = 2147483648 by decide +kernel]
        generalize Int.tmod x 4294967296 = t at *
        by_cases hx0 : 0 ≤ x
        all_goals (first | rw [if_pos hx0] at hm | rw [if_neg hx0] at hm)
        all_goals (cases s <;> simp only [Bool.false_eq_true, if_false, if_true] <;> repeat' split)
        all_goals first | contradiction | omega | rfl | ((try unfold wrap64 at *); congr 1 <;> omega)
      · rw [if_neg h4]
        simp [umlautref1_Wrap.j0, h4]
theorem rfit_eq (x size : Int) (hx : I64 x) (s : Bool) (k : Nat) : umlautref1_Fit.f (k + 1) x size s = some (if wr x size s = x then (x, 0) else (0, 17)) := by
  unfold umlautref1_Fit.f
  rw [rwrap_eq x size hx]
  simp only [Option.bind_some]
  split <;> rfl
theorem wr_twice (x size : Int) (s t : Bool) : wr (wr x size t) size s = wr x size s := by
  unfold wr
  cases s <;> cases t <;> simp only [Bool.false_eq_true, if_false, if_true] <;> repeat' split
  all_goals omega

/-! ### turns -/
theorem xor_top {w : Nat} (h : w < 18446744073709551616) : w ^^^ 9223372036854775808 = (w + 9223372036854775808) % 18446744073709551616 := by
  apply Nat.eq_of_testBit_eq
  intro i
  rw [show (9223372036854775808 : Nat) = 2 ^ 63 by decide +kernel, show (18446744073709551616 : Nat) = 2 ^ 64 by decide +kernel] at *
  rw [Nat.testBit_xor, Nat.testBit_two_pow, Nat.add_comm w, Nat.testBit_mod_two_pow]
  rcases Nat.lt_trichotomy i 63 with h1 | h1 | h1
  · rw [Nat.testBit_two_pow_add_gt h1, decide_eq_false (show ¬ 63 = i by omega), decide_eq_true (show i < 64 by omega)]
    simp
  · subst h1
    rw [Nat.testBit_two_pow_add_eq]
    simp
  · rw [decide_eq_false (show ¬ 63 = i by omega), decide_eq_false (show ¬ i < 64 by omega), Nat.testBit_lt_two_pow (Nat.lt_of_lt_of_le h (Nat.pow_le_pow_right (by decide) (by omega)))]
    simp
theorem turn_eq (a : Int) : ints_Turn.f a = some ((a + 9223372036854775808) % 18446744073709551616) := by
  unfold ints_Turn.f
  rw [u64_wrap]
  obtain ⟨m, hm⟩ := Int.eq_ofNat_of_zero_le (Int.emod_nonneg a (b := 18446744073709551616) (by decide))
  have hlt : m < 18446744073709551616 := by omega
  rw [hm, show (9223372036854775808 : Int) = ((9223372036854775808 : Nat) : Int) from rfl, bits_xor_u64_nat m 9223372036854775808 hlt (by decide), xor_top hlt]
  congr 1
  omega
theorem back_eq {a : Int} (ha : U64 a) : ints_Back.f a = some (a - 9223372036854775808) := by
  unfold ints_Back.f
  unfold U64 at ha
  obtain ⟨m, rfl⟩ := Int.eq_ofNat_of_zero_le ha.1
  have hlt : m < 18446744073709551616 := by omega
  rw [show (9223372036854775808 : Int) = ((9223372036854775808 : Nat) : Int) from rfl, bits_xor_u64_nat m 9223372036854775808 hlt (by decide), xor_top hlt]
  congr 1
  unfold wrap64
  omega
theorem rturn_eq (a : Int) : umlautref1_Turn.f a = some ((a + 9223372036854775808) % 18446744073709551616) := by
  unfold umlautref1_Turn.f
  simp only [u64_wrap]
  congr 1
  omega

/-! ### awake -/
theorem text_m5 : ints_Text.f (-5) = some ⟨#[45, 53]⟩ := by
  unfold ints_Text.f
  rw [if_pos (by decide)]
  simp [Lib.itoa, Lib.decDigits]
theorem awake (k : Nat) : umlautlaw1_awake.f (k + 1) = some true := by
  unfold umlautlaw1_awake.f
  rw [shl_eq (by decide) (by decide), shl_eq (by decide) (by decide), shl_eq (by decide) (by decide), fitf_eq, wrapf_eq, text_m5]
  decide +kernel

/-! ### laws -/
theorem IntsSums : umlautlaw1_IntsSums.Pure := by
  intro a b ha hb
  have ha := i64_of ha
  have hb := i64_of hb
  refine ⟨1, ?_⟩
  unfold umlautlaw1_IntsSums.f
  rw [add_eq ha hb, radd_eq ha hb, sub_eq ha hb, rsub_eq ha hb, neg_eq ha, rneg_eq ha]
  simp only [Option.bind_some, same_eq, if_true, awake]
theorem IntsWidths : umlautlaw1_IntsWidths.Pure := by
  intro a b s ha hb
  have ha := i64_of ha
  refine ⟨1, ?_⟩
  unfold umlautlaw1_IntsWidths.f
  rw [rfit_eq _ _ ha, rwrap_eq _ _ ha]
  simp only [wrapf_eq, fitf_eq, Option.bind_some, same_eq, if_true, awake, wr_twice]
theorem IntsTurns : umlautlaw1_IntsTurns.Pure := by
  intro a b w ha hb hw
  have ha := i64_of ha
  have hb := i64_of hb
  have hw := u64_of hw
  refine ⟨1, ?_⟩
  unfold umlautlaw1_IntsTurns.f
  rw [back_eq hw]
  simp only [turn_eq, rturn_eq, Option.bind_some, if_true, beq_dec]
  rw [back_eq (by unfold U64; omega)]
  unfold I64 at ha hb
  unfold U64 at hw
  rw [if_pos (by omega)]
  simp only [Option.bind_some, awake]
  rw [if_pos (by omega), if_pos (by omega)]
theorem IntsShifts : umlautlaw1_IntsShifts.Pure := by
  intro a n ha hn
  have ha := i64_of ha
  refine ⟨67, ?_⟩
  unfold umlautlaw1_IntsShifts.f
  by_cases h : 0 ≤ n ∧ n < 64
  · obtain ⟨h0, h1⟩ := h
    rw [shl_eq h0 h1, rshl_eq ha h0 h1 66 (by decide), shr_eq h0 h1, rshr_eq ha h0 h1 66 (by decide)]
    simp only [Option.bind_some, same_eq, if_true, umlautlaw1_IntsShifts.j0, Bool.not_true, Bool.false_eq_true, if_false, awake]
    by_cases hI : I64 (a * 2 ^ n.toNat)
    · rw [fit_in hI, if_pos rfl, shr_eq h0 h1]
      simp only [Option.bind_some, if_true]
      rw [if_pos (Int.mul_ediv_cancel _ (by have := pow_pos' n.toNat; omega))]
    · rw [fit_out hI, if_neg (by decide)]
  · have h' : n < 0 ∨ 64 ≤ n := by omega
    rw [shl_bad h', rshl_bad h', shr_bad h', rshr_bad h']
    simp only [Option.bind_some, same_eq, if_true, umlautlaw1_IntsShifts.j0, Bool.not_true, Bool.false_eq_true, if_false, awake]
    rfl
theorem div_eq {a b : Int} (ha : I64 a) (hb : I64 b) : ints_Div.f a b = some (if b = 0 then (0, 18) else fit (Int.tdiv a b)) := by
  unfold ints_Div.f
  split
  · rfl
  · split
    · rename_i h
      subst h
      rw [neg_eq ha, Int.tdiv_neg, Int.tdiv_one]
      rfl
    · rename_i h0 h1
      have hI : I64 (Int.tdiv a b) := by
        have e : (Int.tdiv a b).natAbs ≤ a.natAbs := by rw [Int.natAbs_tdiv]; exact Nat.div_le_self _ _
        unfold I64 at *
        by_cases hx : a = -9223372036854775808
        · subst hx
          by_cases hq : (Int.tdiv (-9223372036854775808) b).natAbs = 9223372036854775808
          · rw [Int.natAbs_tdiv] at hq
            have h3 : b.natAbs = 1 := by
              have h4 : (9223372036854775808 : Nat) / b.natAbs = 9223372036854775808 := hq
              rcases Nat.lt_or_ge 1 b.natAbs with h5 | h5
              · have := Nat.div_lt_self (n := 9223372036854775808) (by decide) h5
                omega
              · omega
            have : b = 1 := by omega
            subst this
            decide
          · omega
        · omega
      rw [wrap64_in hI, fit_in hI]
theorem mod_eq {a b : Int} : ints_Mod.f a b = some (if b = 0 then (0, 18) else (Int.tmod a b, 0)) := by
  unfold ints_Mod.f
  split
  · rfl
  · split
    · rename_i h
      subst h
      rw [Int.tmod_neg, Int.tmod_one]
    · rfl
theorem IntsEnds : umlautlaw1_IntsEnds.Pure := by
  intro a ha
  have ha := i64_of ha
  refine ⟨2, ?_⟩
  have main : ∀ k : Int, 0 ≤ k → k ≤ 9223372036854775807 → umlautlaw1_IntsEnds.j0 2 k = some true := by
    intro k h0 h1
    have e1 : wrap64 (9223372036854775807 - k) = 9223372036854775807 - k := by unfold wrap64; omega
    have e2 : wrap64 (-9223372036854775808 + k) = -9223372036854775808 + k := by unfold wrap64; omega
    have hm : 0 ≤ Int.tmod k 3 ∧ Int.tmod k 3 < 3 := by rw [Int.tmod_eq_emod_of_nonneg h0]; omega
    have e3 : wrap64 (1 + Int.tmod k 3) = 1 + Int.tmod k 3 := by unfold wrap64; omega
    have b0 : I64 k := by unfold I64; omega
    have b1 : I64 (9223372036854775807 - k) := by unfold I64; omega
    have b2 : I64 (-9223372036854775808 + k) := by unfold I64; omega
    have b3 : I64 (1 + Int.tmod k 3) := by unfold I64; omega
    have bl : I64 (-9223372036854775808) := by decide
    simp only [umlautlaw1_IntsEnds.j0]
    rw [e1, e2, e3, add_eq b1 b0, add_eq b1 (wrap64_I _), sub_eq b2 b0, sub_eq bl b3, neg_eq bl, div_eq bl (by decide), mod_eq]
    simp only [Option.bind_some]
    rw [show 9223372036854775807 - k + k = 9223372036854775807 by omega, show -9223372036854775808 + k - k = -9223372036854775808 by omega,
      fit_out (x := -9223372036854775808 - (1 + Int.tmod k 3)) (by unfold I64; omega), fit_in (x := 9223372036854775807) (by decide), fit_in (x := -9223372036854775808) (by decide),
      fit_out (x := - -9223372036854775808) (by decide), if_pos rfl, if_pos rfl, if_pos rfl, if_pos rfl, if_pos rfl, if_pos rfl, if_pos (by decide +kernel), if_pos (by decide +kernel), if_pos (by decide +kernel)]
    split
    · rw [awake]; rfl
    · rename_i h
      rw [fit_out, if_pos rfl, awake]
      · rfl
      · unfold mn
        rw [if_neg (by omega)]
        unfold I64 wrap64
        omega
  unfold umlautlaw1_IntsEnds.f
  unfold I64 at ha
  split
  · exact main _ (by unfold wrap64; omega) (by unfold wrap64; omega)
  · exact main _ (by omega) (by omega)
end Go.Proofs.YtedmbkhjpbdkjaaDoor.PureI
