/-
  The law LogicLaws: for every three values the call returns true and leaves its arguments as they were.
-/
import Derived.Test.YtedmbkhjpbdkjaaRows
import Derived.Test.YtedmbkhjpbdkjaaPureL
import Derived.Test.YtedmbkhjpbdkjaaValue
import Derived.WalkKit
import Derived.ProofKit
import Derived.OpenShut
import Derived.ShutString
import Derived.ChangeOld
import Derived.Below
import Derived.SizedLaws
namespace Go.Proofs.Ytedmbkhjpbdkjaa.logicLaws
open Go.ChangeShapes Go.WideShapes Go.ChangeAt Go.RowKit
open Go.ChangeMaps (open_string shut_string)
set_option linter.unusedVariables false
theorem own : ownKnob Try.prog.godebug = none := by kernel_rfl
set_option maxRecDepth 100000 in
theorem lifted (os : Os) (started : os.Started) (H : Type) (enc : TypeId × Value → H) :
    ReturnsInHanded {} Try.checked os 3 .any (Rows.logicLawsSpec.pre6 enc Try.prog Try.f3 Rows.logicLawsRow.domain false) (Rows.logicLawsSpec.post enc Try.prog Try.f3 false true false false) := by
  refine returnsInHanded_of_change_sized (C := Try.checked) own started (by kernel_rfl) Try.func3
    (ChangeSpec.witness6 (enc := enc) (C := Try.checked) false ⟨#[], #[.agg #[.int .i64 0, .int .i64 0, .string ⟨#[]⟩], .agg #[.int .i64 0, .int .i64 0, .string ⟨#[]⟩], .agg #[.int .i64 0, .int .i64 0, .string ⟨#[]⟩]], []⟩ 8 (by kernel_rfl) (by kernel_rfl) (by kernel_rfl) (by kernel_rfl)) ?_
  intro W base args ds gs before hval0 hW hcnd hsz0 _
  have hval : ∀ (j : Nat) t v, Try.f3.params[j]? = some t → args[j]? = some v → Value.okWide Try.prog W .any base t v := hval0
  have hW' := hW
  obtain ⟨p, q, hA0, hV, rfl, hfz, hnd⟩ := hW
  have hA : DataW.TrodAll enc Try.prog W 0 (fun _ => true) true Try.f3.params.toList args.toList ds p := hA0
  rw [Try.params3] at hA hval
  obtain ⟨v0, vs0, d0, ds0, p0, q0, hargs, rfl, rfl, h0, r0⟩ := trodAll_cons hA
  obtain ⟨v1, vs1, d1, ds1, p1, q1, rfl, rfl, rfl, h1, r1⟩ := trodAll_cons r0
  obtain ⟨v2, vs2, d2, ds2, p2, q2, rfl, rfl, rfl, h2, r2⟩ := trodAll_cons r1
  obtain ⟨rfl, rfl, rfl⟩ := trodAll_nil r2
  obtain rfl : args = #[v0, v1, v2] := by cases args; simp_all
  obtain ⟨rfl, rfl⟩ := trodVars_none hV
  obtain ⟨a0, a1, a2, rfl, rfl, rfl, wa0, wa1, wa2⟩ := Val.open_value (hval 0 23 v0 rfl rfl) h0
  obtain ⟨b0, b1, b2, rfl, rfl, rfl, wb0, wb1, wb2⟩ := Val.open_value (hval 1 23 v1 rfl rfl) h1
  obtain ⟨c0, c1, c2, rfl, rfl, rfl, wc0, wc1, wc2⟩ := Val.open_value (hval 2 23 v2 rfl rfl) h2
  clear hA0 hval0 hsz0
  refine (XA.umlautlaw12_LogicLaws.calls 6 a0 a1 a2 b0 b1 b2 c0 c1 c2 true W (PureL.LogicLaws a0 a1 a2 b0 b1 b2 c0 c1 c2)).mono fun e W' ⟨he, bel⟩ => ?_
  subst he
  exact ⟨_, rfl, _, _, _, [], _, [], hW', trodAll_mk1 (shut_bool Try.underlying4 _), (trodAll_cons_mk (Val.shut_value wa0 wa1 wa2) (trodAll_cons_mk (Val.shut_value wb0 wb1 wb2) (trodAll_cons_mk (Val.shut_value wc0 wc1 wc2) trodAll_mk0))), rfl, bel.frame _, fun h => by cases h⟩
theorem over : Rows.logicLawsRow.holds Try.pinned (OpenSpec.ofChange Rows.logicLawsSpec) :=
  OpenClaim.holds_of_wide 3 Try.f3 rfl rfl rfl rfl rfl rfl rfl ⟨rfl, rfl, rfl, rfl, rfl⟩ rfl rfl rfl rfl rfl (by kernel_rfl) Try.func3 (by kernel_rfl)
    (of_decide_eq_true (by kernel_rfl)) (by unfold Func.isWrapper; first | (rw [if_pos (by decide +kernel)]; kernel_rfl) | (rw [if_neg (by decide +kernel)]; exact ⟨rfl, rfl⟩))
    (fun os started H enc _ => lifted os started H enc)
theorem proved : Rows.LogicLawsSaid := over
#print axioms proved
end Go.Proofs.Ytedmbkhjpbdkjaa.logicLaws
namespace Go.Proofs.Ytedmbkhjpbdkjaa
/-- The row, under a short name, for the claim. -/
theorem logicLaws_holds : Rows.LogicLawsSaid := logicLaws.proved
end Go.Proofs.Ytedmbkhjpbdkjaa
