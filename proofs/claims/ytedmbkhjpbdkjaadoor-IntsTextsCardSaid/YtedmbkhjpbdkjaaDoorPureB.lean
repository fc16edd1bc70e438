/-
  Products, quotients and rests of the printed functions, told by plain arithmetic; and the laws IntsProducts and IntsLaws over them.
-/
import Derived.Test.YtedmbkhjpbdkjaaDoorPureA
import Derived.Shelf.Bits.Mul64
namespace Go.Proofs.YtedmbkhjpbdkjaaDoor.PureI
set_option linter.unusedSimpArgs false
set_option linter.unusedVariables false
open Go.RowKit Go.Proofs.YtedmbkhjpbdkjaaDoorW.PrintWords Go.Proofs.YtedmbkhjpbdkjaaDoorW.PrintLast Go.Proofs.YtedmbkhjpbdkjaaDoor.XI Go.Proofs.YtedmbkhjpbdkjaaDoor.Given

theorem mul64_eq (x y : Nat) (hx : x < 18446744073709551616) (hy : y < 18446744073709551616) :
    bits_Mul64.f x y = some (((x * y / 18446744073709551616 : Nat) : Int), ((x * y % 18446744073709551616 : Nat) : Int)) := by
  obtain ⟨bd, bt, bw, hhi⟩ := Lib.mul64_hi x y hx hy
  have ba := Lib.half_mul_le (a := x / 4294967296) (b := y / 4294967296) (by omega) (by omega)
  have bb := Lib.half_mul_le (a := x / 4294967296) (b := y % 4294967296) (by omega) (by omega)
  have bc := Lib.half_mul_le (a := x % 4294967296) (b := y / 4294967296) (by omega) (by omega)
  have ba' : x / 4294967296 * (y / 4294967296) < 18446744073709551616 := by omega
  have bb' : x / 4294967296 * (y % 4294967296) < 18446744073709551616 := by omega
  have bc' : x % 4294967296 * (y / 4294967296) < 18446744073709551616 := by omega
  have bh1 : x / 4294967296 * (y / 4294967296) + (x / 4294967296 * (y % 4294967296) + x % 4294967296 * (y % 4294967296) / 4294967296) / 4294967296 < 18446744073709551616 := by omega
  have bh : x / 4294967296 * (y / 4294967296) + (x / 4294967296 * (y % 4294967296) + x % 4294967296 * (y % 4294967296) / 4294967296) / 4294967296 + ((x / 4294967296 * (y % 4294967296) + x % 4294967296 * (y % 4294967296) / 4294967296) % 4294967296 + x % 4294967296 * (y / 4294967296)) / 4294967296 < 18446744073709551616 := by omega
  unfold bits_Mul64.f
  simp only [Mul64.maskN x hx, Mul64.maskN y hy, Mul64.divN, Mul64.mulN, Mul64.addN, Mul64.wrapN _ bd, Mul64.wrapN _ bb', Mul64.wrapN _ bt, Mul64.maskN _ bt, Mul64.wrapN _ bc', Mul64.wrapN _ bw, Mul64.wrapN _ ba', Mul64.wrapN _ bh1, Mul64.wrapN _ bh, Mul64.wrapM (x * y)]
  rw [hhi]
theorem size_eq {a : Int} (ha : I64 a) : ints_size.f a = some (a.natAbs : Int) := by
  unfold ints_size.f
  unfold I64 at ha
  simp only [u64_wrap]
  split <;> (congr 1; omega)
theorem sign_ne {a b : Int} (h : ¬ (a < 0 ↔ b < 0)) : a * b ≤ 0 := by
  by_cases h1 : a < 0
  · exact Int.mul_nonpos_of_nonpos_of_nonneg (by omega) (by omega)
  · exact Int.mul_nonpos_of_nonneg_of_nonpos (by omega) (by omega)
theorem sign_eq {a b : Int} (h : a < 0 ↔ b < 0) : 0 ≤ a * b := by
  by_cases h1 : a < 0
  · exact Int.mul_nonneg_of_nonpos_of_nonpos (by omega) (by omega)
  · exact Int.mul_nonneg (by omega) (by omega)
theorem mul_eq {a b : Int} (ha : I64 a) (hb : I64 b) : ints_Mul.f a b = some (fit (a * b)) := by
  have na : a.natAbs < 18446744073709551616 := by unfold I64 at ha; omega
  have nb : b.natAbs < 18446744073709551616 := by unfold I64 at hb; omega
  unfold ints_Mul.f
  rw [size_eq ha, size_eq hb]
  simp only [Option.bind_some]
  rw [mul64_eq _ _ na nb]
  simp only [Option.bind_some, bne_dec]
  have hn := Int.natAbs_mul a b
  have hs := sign_ne (a := a) (b := b)
  have hs' := sign_eq (a := a) (b := b)
  generalize a * b = p at *
  generalize a.natAbs * b.natAbs = q at *
  by_cases hc : (a < 0 ↔ b < 0)
  · have := hs' hc
    rw [if_neg (by simpa using hc)]
    repeat' split
    all_goals first
      | (refine fit_eq_out ?_; (try unfold I64 at *); omega)
      | (refine fit_eq_in ?_ ?_ <;> (try unfold I64 at *) <;> (try unfold wrap64 at *) <;> omega)
  · have := hs hc
    rw [if_pos hc]
    repeat' split
    all_goals first
      | (refine fit_eq_out ?_; (try unfold I64 at *); omega)
      | (refine fit_eq_in ?_ ?_ <;> (try unfold I64 at *) <;> (try unfold wrap64 at *) <;> omega)
theorem tdiv_wrapped {a b : Int} (ha : I64 a) (hb : I64 b) (h0 : b ≠ 0) (hI : ¬ I64 (a * b)) : Int.tdiv (wrap64 (a * b)) b ≠ a := by
  intro h
  obtain ⟨q, hq⟩ : ∃ q, wrap64 (a * b) = a * b - 18446744073709551616 * q := ⟨(a * b + 9223372036854775808) / 18446744073709551616, by unfold wrap64; omega⟩
  have hI' := wrap64_I (a * b)
  have hdm := Int.mul_tdiv_add_tmod (wrap64 (a * b)) b
  rw [h] at hdm
  have hr : (Int.tmod (wrap64 (a * b)) b).natAbs < b.natAbs := by
    rw [Int.natAbs_tmod]
    exact Nat.mod_lt _ (by omega)
  rw [Int.mul_comm b a] at hdm
  unfold I64 at *
  have hq0 : q = 0 := by omega
  subst hq0
  omega
theorem tdiv_I {a b : Int} (ha : I64 a) (hb : I64 b) (h0 : b ≠ 0) (h1 : b ≠ -1) : I64 (Int.tdiv a b) := by
  have h := div_eq ha hb
  unfold ints_Div.f at h
  rw [if_neg h0, if_neg h1, if_neg h0] at h
  unfold fit at h
  split at h
  · assumption
  · simp at h
theorem fit_wrap {a : Int} (h : I64 a) : fit a = (wrap64 a, 0) := by rw [fit_in h, wrap64_in h]
theorem rmul_eq {a b : Int} (ha : I64 a) (hb : I64 b) (k : Nat) : umlautref1_Mul.f (k + 1) a b = some (fit (a * b)) := by
  unfold umlautref1_Mul.f
  split
  · rename_i h
    subst h
    simp [umlautref1_Mul.j0]
    decide
  · rename_i h0
    simp only [umlautref1_Mul.j0, beq_iff_eq]
    split
    · rename_i h
      subst h
      rw [Int.mul_zero]
      decide
    · rename_i h1
      split
      · rename_i h
        subst h
        rw [rneg_eq hb, show -1 * b = -b by omega]
        rfl
      · rename_i h2
        split
        · rename_i h
          subst h
          rw [rneg_eq ha, show a * -1 = -a by omega]
          rfl
        · rename_i h3
          by_cases hI : I64 (a * b)
          · rw [wrap64_in hI, Int.mul_tdiv_cancel _ h1, wrap64_in ha, if_pos rfl, fit_in hI]
          · have hw : wrap64 (Int.tdiv (wrap64 (a * b)) b) = Int.tdiv (wrap64 (a * b)) b := by
              exact wrap64_in (tdiv_I (wrap64_I _) hb h1 h3)
            rw [hw, if_neg (tdiv_wrapped ha hb h1 hI), fit_out hI]
theorem rdiv_eq {a b : Int} (ha : I64 a) (hb : I64 b) : umlautref1_Div.f a b = some (if b = 0 then (0, 18) else fit (Int.tdiv a b)) := by
  rw [← div_eq ha hb]
  unfold umlautref1_Div.f ints_Div.f
  rw [neg_eq ha, rneg_eq ha]
theorem rmod_eq {a b : Int} : umlautref1_Mod.f a b = some (if b = 0 then (0, 18) else (Int.tmod a b, 0)) := by
  rw [← mod_eq]
  rfl
theorem same_pair (p : Int × Int) : umlautlaw1_same.f p.1 p.2 p.1 p.2 = some true := same_eq _ _
theorem IntsProducts : umlautlaw1_IntsProducts.Pure := by
  intro a b ha hb
  have ha := i64_of ha
  have hb := i64_of hb
  refine ⟨1, ?_⟩
  unfold umlautlaw1_IntsProducts.f
  rw [mul_eq ha hb, rmul_eq ha hb, div_eq ha hb, rdiv_eq ha hb, mod_eq, rmod_eq]
  simp only [Option.bind_some, same_pair, if_true, awake]
  by_cases h0 : b = 0
  · simp [h0]
  · rw [if_neg h0, if_neg h0]
    by_cases hI : I64 (Int.tdiv a b)
    · rw [fit_in hI]
      simp only [if_true]
      have e := Int.mul_tdiv_add_tmod a b
      rw [Int.mul_comm] at e
      have : wrap64 (wrap64 (Int.tdiv a b * b) + Int.tmod a b) = a := by
        generalize Int.tdiv a b * b = p at *
        generalize Int.tmod a b = r at *
        unfold I64 at ha
        unfold wrap64
        omega
      rw [if_pos this]
    · rw [fit_out hI]
      simp
theorem IntsLaws : umlautlaw1_IntsLaws.Pure := by
  intro a b c ha hb hc
  have ha := i64_of ha
  have hb := i64_of hb
  have hc := i64_of hc
  refine ⟨7, ?_⟩
  have last : umlautlaw1_IntsLaws.j3 4 a c = some true := by
    simp only [umlautlaw1_IntsLaws.j3]
    rw [mod_eq]
    by_cases h0 : c = 0
    · simp [h0, awake]
    · simp only [Option.bind_some, if_neg h0, if_true]
      have hr : (Int.tmod a c).natAbs < c.natAbs := by
        rw [Int.natAbs_tmod]
        exact Nat.mod_lt _ (by omega)
      have hs : (0 ≤ a → 0 ≤ Int.tmod a c) ∧ (a < 0 → Int.tmod a c ≤ 0) := by
        constructor
        · intro h
          exact Int.tmod_nonneg _ h
        · intro h
          have := Int.tmod_nonneg (a := -a) c (by omega)
          rw [Int.neg_tmod] at this
          omega
      generalize Int.tmod a c = m at *
      have fin : umlautlaw1_IntsLaws.j4 3 c m false = some true := by
        simp only [umlautlaw1_IntsLaws.j4, Bool.false_eq_true, if_false, awake, Option.bind_some]
        unfold I64 at hc
        have e1 : ∀ x : Int, -9223372036854775808 < x → x ≤ 9223372036854775807 → wrap64 (-x) = -x := fun x h1 h2 => wrap64_in (by unfold I64; omega)
        repeat' split
        all_goals first
          | rfl
          | (exfalso; rename_i h; unfold wrap64 at h; omega)
          | (exfalso; rename_i h; omega)
      repeat' split
      all_goals first
        | exact fin
        | (exfalso; omega)
        | (rw [decide_eq_false (by omega)]; exact fin)
  have mid : umlautlaw1_IntsLaws.j0 7 a b c = some true := by
    simp only [umlautlaw1_IntsLaws.j0]
    rw [mul_eq ha hb, mul_eq hb ha, Int.mul_comm b a]
    simp only [Option.bind_some, if_true, bne_self_eq_false]
    simp only [umlautlaw1_IntsLaws.j1, Bool.false_eq_true, if_false]
    by_cases hI : I64 (a * b)
    · rw [fit_in hI]
      simp only [if_true, umlautlaw1_IntsLaws.j2, bne_iff_ne]
      split
      · rename_i h0
        rw [div_eq hI hb, if_neg h0, Int.mul_tdiv_cancel _ h0, fit_in ha]
        simp only [Option.bind_some, if_true]
        exact last
      · exact last
    · rw [fit_out hI, if_neg (by decide)]
      simp only [umlautlaw1_IntsLaws.j2, Bool.false_eq_true, if_false]
      exact last
  unfold umlautlaw1_IntsLaws.f
  rw [add_eq ha hb, add_eq hb ha, Int.add_comm b a]
  simp only [Option.bind_some]
  by_cases hI : I64 (a + b)
  · rw [fit_in hI, sub_eq hI hb, show a + b - b = a by omega, fit_in ha]
    simp only [Option.bind_some, if_true]
    exact mid
  · rw [fit_out hI, if_neg (by decide)]
    exact mid
end Go.Proofs.YtedmbkhjpbdkjaaDoor.PureI
