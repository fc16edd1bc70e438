/-
  The plain law of true, false, neither: what the printed functions compute, told by three numbers 0, 1, 2.
-/
import Derived.Test.YtedmbkhjpbdkjaaXA3
import Derived.Test.YtedmbkhjpbdkjaaXA4
import Derived.KernelRfl
namespace Go.Proofs.Ytedmbkhjpbdkjaa.PureL
open Go.RowKit Go.Proofs.Ytedmbkhjpbdkjaa.XA Go.Proofs.YtedmbkhjpbdkjaaW.PrintWords

/-- The value of a truth. -/
def tv (x : Int) : Int × Int × ByteArray := if x = 0 then (1, 0, ⟨#[]⟩) else if x = 1 then (1, 1, ⟨#[]⟩) else (0, 0, ⟨#[]⟩)

def Is3 (x : Int) : Prop := x = 0 ∨ x = 1 ∨ x = 2

theorem truth_is (a b : Int) (c : ByteArray) : ∃ x, logic_truth.f a b c = some x ∧ Is3 x := by
  unfold logic_truth.f
  by_cases h : a = 1
  · subst h
    unfold val_Ok.f
    by_cases h0 : b = 0
    · subst h0
      cases hc : (c.toList == ([] : List UInt8)) <;> simp [Is3]
    · by_cases h1 : b = 1
      · subst h1
        cases hc : (c.toList == ([] : List UInt8)) <;> simp [Is3]
      · simp [h0, h1, Is3]
  · simp [h, Is3]

theorem truth_tv (x : Int) (h : Is3 x) : logic_truth.f (tv x).1 (tv x).2.1 (tv x).2.2 = some x := by
  rcases h with rfl | rfl | rfl <;> decide +kernel

theorem value_tv (x : Int) (h : Is3 x) : logic_value.f x = some (tv x) := by
  rcases h with rfl | rfl | rfl <;> decide +kernel

def andv (x y : Int) : Int := if x = 1 ∧ y = 1 then 1 else if (x = 1 ∧ y = 2) ∨ (x = 2 ∧ y = 1) ∨ (x = 2 ∧ y = 2) then 2 else 0
def notv (x : Int) : Int := pick3 x 1 0 2
def orv (x y : Int) : Int := notv (andv (notv x) (notv y))

theorem is_and {x y : Int} (hx : Is3 x) (hy : Is3 y) : Is3 (andv x y) := by
  rcases hx with rfl | rfl | rfl <;> rcases hy with rfl | rfl | rfl <;> unfold Is3 <;> decide
theorem is_not {x : Int} (hx : Is3 x) : Is3 (notv x) := by
  rcases hx with rfl | rfl | rfl <;> unfold Is3 <;> decide
theorem is_or {x y : Int} (hx : Is3 x) (hy : Is3 y) : Is3 (orv x y) := is_not (is_and (is_not hx) (is_not hy))

theorem not_eq {a b : Int} {c : ByteArray} {x : Int} (h : logic_truth.f a b c = some x) (hx : Is3 x) : logic_Not.f a b c = some (tv (notv x)) := by
  unfold logic_Not.f
  rw [h]
  have h0 : 0 ≤ x := by rcases hx with rfl | rfl | rfl <;> decide
  have h1 : x < 3 := by rcases hx with rfl | rfl | rfl <;> decide
  simp only [Option.bind_some, if_pos h0, if_pos h1]
  rw [show pick3 x 1 0 2 = notv x from rfl, value_tv _ (is_not hx)]
  rfl

theorem and_eq (k : Nat) {a b a' b' : Int} {c c' : ByteArray} {x y : Int} (h : logic_truth.f a b c = some x) (hx : Is3 x) (h' : logic_truth.f a' b' c' = some y) (hy : Is3 y) :
    logic_And.f (k + 1) a b c a' b' c' = some (tv (andv x y)) := by
  unfold logic_And.f
  rw [h, h']
  simp only [Option.bind_some]
  clear h h'
  rcases hx with rfl | rfl | rfl <;> rcases hy with rfl | rfl | rfl <;> kernel_rfl

theorem or_eq (k : Nat) {a b a' b' : Int} {c c' : ByteArray} {x y : Int} (h : logic_truth.f a b c = some x) (hx : Is3 x) (h' : logic_truth.f a' b' c' = some y) (hy : Is3 y) :
    logic_Or.f (k + 1) a b c a' b' c' = some (tv (orv x y)) := by
  unfold logic_Or.f
  rw [not_eq h hx, not_eq h' hy]
  simp only [Option.bind_some]
  rw [and_eq k (truth_tv _ (is_not hx)) (is_not hx) (truth_tv _ (is_not hy)) (is_not hy)]
  simp only [Option.bind_some]
  rw [not_eq (truth_tv _ (is_and (is_not hx) (is_not hy))) (is_and (is_not hx) (is_not hy))]
  rfl

theorem same_tv (x : Int) : umlautref11_Same.f (tv x).1 (tv x).2.1 (tv x).2.2 (tv x).1 (tv x).2.1 (tv x).2.2 = some true := by
  unfold umlautref11_Same.f
  simp

theorem awake_eq (k : Nat) : umlautlaw12_awake.f (k + 3) = some true := by
  unfold umlautlaw12_awake.f
  have hb : umlautref11_Bool.f true = some (tv 1) := by decide +kernel
  have i1 : Is3 1 := by unfold Is3; decide
  have i2 : Is3 2 := by unfold Is3; decide
  have hn : logic_truth.f 0 0 (⟨#[]⟩ : ByteArray) = some 2 := by decide +kernel
  rw [hb]
  simp only [Option.bind_some]
  rw [or_eq (k + 2) hn i2 (truth_tv 1 i1) i1]
  simp only [Option.bind_some]
  have hi : ∀ x, Is3 x → logic_Is.f (tv x).1 (tv x).2.1 (tv x).2.2 = some (x == 1) := fun x hx => by
    unfold logic_Is.f
    rw [truth_tv x hx]
    rfl
  rw [hi _ (is_or i2 i1)]
  simp only [Option.bind_some]
  rw [if_pos (by decide), and_eq (k + 2) hn i2 (truth_tv 1 i1) i1]
  simp only [Option.bind_some]
  rw [if_pos (by decide), not_eq (truth_tv 1 i1) i1]
  simp only [Option.bind_some]
  rw [if_pos (by decide)]
  have ha : logic_All.f (k + 3) ([] : List S23) = some (tv 1) := by
    unfold logic_All.f
    rw [show val_Bool.f true = some (tv 1) by decide +kernel]
    simp only [Option.bind_some]
    rw [logic_All.l0]
    simp
  rw [ha]
  simp only [Option.bind_some]
  rw [hi _ i1]
  rfl

theorem LogicTests : umlautlaw12_LogicTests.Pure := by
  intro a0 a1 a2 h0 h1
  refine ⟨3, ?_⟩
  unfold umlautlaw12_LogicTests.f
  generalize wrap64 ((Int.tmod (Go.bits .and .i64 a1 65535) 3) - 1) = c
  have hv : ∀ b, val_Bool.f b = umlautref11_Bool.f b := fun b => by cases b <;> rfl
  have hN : val_Null.f = some (0, 0, (⟨#[]⟩ : ByteArray)) := rfl
  have hT : logic_Test.f a0 c a2 = umlautref11_Test.f a0 c a2 := by
    unfold logic_Test.f umlautref11_Test.f
    simp only [hv, hN, Option.bind_some]
  have hS : ∃ t, umlautref11_Test.f a0 c a2 = some t := by
    have hB : ∀ b, ∃ t, umlautref11_Bool.f b = some t := fun b => by cases b <;> exact ⟨_, rfl⟩
    unfold umlautref11_Test.f
    cases a2
    · exact ⟨_, rfl⟩
    · simp only [if_true]
      repeat (first | (split; · (obtain ⟨t, ht⟩ := hB _; rw [ht]; exact ⟨_, rfl⟩)) | exact ⟨_, rfl⟩)
  obtain ⟨t, ht⟩ := hS
  rw [hT, ht]
  simp only [Option.bind_some]
  rw [show umlautref11_Same.f t.1 t.2.1 t.2.2 t.1 t.2.1 t.2.2 = some true by unfold umlautref11_Same.f; simp]
  simp only [Option.bind_some, if_true]
  rw [awake_eq 0]
  rfl

theorem andv_comm {x y : Int} (hx : Is3 x) (hy : Is3 y) : andv x y = andv y x := by
  rcases hx with rfl | rfl | rfl <;> rcases hy with rfl | rfl | rfl <;> decide
theorem orv_comm {x y : Int} (hx : Is3 x) (hy : Is3 y) : orv x y = orv y x := by unfold orv; rw [andv_comm (is_not hx) (is_not hy)]
theorem notv_and {x y : Int} (hx : Is3 x) (hy : Is3 y) : notv (andv x y) = orv (notv x) (notv y) := by
  rcases hx with rfl | rfl | rfl <;> rcases hy with rfl | rfl | rfl <;> decide
theorem andv_assoc {x y z : Int} (hx : Is3 x) (hy : Is3 y) (hz : Is3 z) : andv x (andv y z) = andv (andv x y) z := by
  rcases hx with rfl | rfl | rfl <;> rcases hy with rfl | rfl | rfl <;> rcases hz with rfl | rfl | rfl <;> decide
theorem andv_or {x y z : Int} (hx : Is3 x) (hy : Is3 y) (hz : Is3 z) : andv x (orv y z) = orv (andv x y) (andv x z) := by
  rcases hx with rfl | rfl | rfl <;> rcases hy with rfl | rfl | rfl <;> rcases hz with rfl | rfl | rfl <;> decide
theorem notv3 {x : Int} (hx : Is3 x) : notv (notv (notv x)) = notv x := by
  rcases hx with rfl | rfl | rfl <;> decide

theorem LogicLaws (a0 a1 : Int) (a2 : ByteArray) (b0 b1 : Int) (b2 : ByteArray) (c0 c1 : Int) (c2 : ByteArray) : umlautlaw12_LogicLaws.f 6 a0 a1 a2 b0 b1 b2 c0 c1 c2 = some true := by
  obtain ⟨x, hx, ix⟩ := truth_is a0 a1 a2
  obtain ⟨y, hy, iy⟩ := truth_is b0 b1 b2
  obtain ⟨z, hz, iz⟩ := truth_is c0 c1 c2
  have A := fun k => @and_eq k
  unfold umlautlaw12_LogicLaws.f
  rw [and_eq 5 hx ix hy iy, and_eq 5 hy iy hx ix, andv_comm iy ix]
  simp only [Option.bind_some]
  rw [same_tv]
  simp only [Option.bind_some, if_true]
  rw [or_eq 5 hx ix hy iy, or_eq 5 hy iy hx ix, orv_comm iy ix]
  simp only [Option.bind_some]
  rw [same_tv]
  simp only [Option.bind_some, if_true]
  rw [not_eq (truth_tv _ (is_and ix iy)) (is_and ix iy), not_eq hx ix, not_eq hy iy]
  simp only [Option.bind_some]
  rw [or_eq 5 (truth_tv _ (is_not ix)) (is_not ix) (truth_tv _ (is_not iy)) (is_not iy), notv_and ix iy]
  simp only [Option.bind_some]
  rw [same_tv]
  simp only [Option.bind_some, Bool.not_true]
  rw [umlautlaw12_LogicLaws.j0]
  rw [if_neg (by decide), and_eq 4 hy iy hz iz]
  simp only [Option.bind_some]
  rw [and_eq 4 hx ix (truth_tv _ (is_and iy iz)) (is_and iy iz)]
  simp only [Option.bind_some]
  rw [and_eq 4 hx ix hy iy]
  simp only [Option.bind_some]
  rw [and_eq 4 (truth_tv _ (is_and ix iy)) (is_and ix iy) hz iz, andv_assoc ix iy iz]
  simp only [Option.bind_some]
  rw [same_tv]
  simp only [Option.bind_some, if_true]
  rw [or_eq 4 hy iy hz iz]
  simp only [Option.bind_some]
  rw [and_eq 4 hx ix (truth_tv _ (is_or iy iz)) (is_or iy iz)]
  simp only [Option.bind_some]
  rw [and_eq 4 hx ix hz iz]
  simp only [Option.bind_some]
  rw [or_eq 4 (truth_tv _ (is_and ix iy)) (is_and ix iy) (truth_tv _ (is_and ix iz)) (is_and ix iz), andv_or ix iy iz]
  simp only [Option.bind_some]
  rw [same_tv]
  simp only [Option.bind_some, Bool.not_true]
  rw [umlautlaw12_LogicLaws.j1]
  rw [if_neg (by decide), not_eq hx ix]
  simp only [Option.bind_some]
  rw [not_eq (truth_tv _ (is_not ix)) (is_not ix)]
  simp only [Option.bind_some]
  rw [not_eq (truth_tv _ (is_not (is_not ix))) (is_not (is_not ix)), notv3 ix]
  simp only [Option.bind_some]
  rw [same_tv]
  simp only [Option.bind_some, if_true]
  rw [awake_eq 1]
  rfl

end Go.Proofs.Ytedmbkhjpbdkjaa.PureL
