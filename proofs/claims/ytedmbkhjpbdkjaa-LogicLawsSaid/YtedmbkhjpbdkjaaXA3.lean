-- laid by a program of this session (its print of the translation over its own contracts)
import Derived.Test.YtedmbkhjpbdkjaaXA0
import Derived.Test.YtedmbkhjpbdkjaaXA1
import Derived.Test.YtedmbkhjpbdkjaaXA2
namespace Go.Proofs.Ytedmbkhjpbdkjaa.XA
open Go.Proofs.Ytedmbkhjpbdkjaa.Lem
open Go.RowKit Go.Proofs.YtedmbkhjpbdkjaaW.PrintWords Go.Proofs.YtedmbkhjpbdkjaaW.PrintLast Go.Proofs.YtedmbkhjpbdkjaaW.PrintMore
attribute [local go_sem] max2_int min2_int max_two min_two max_three min_three max_four min_four   -- for this text's walks alone
set_option linter.unusedVariables false
set_option linter.unusedSimpArgs false

/-! ### umlautlaw12_LogicTests: function 4 -/
def umlautlaw12_LogicTests.f (k : Nat) (a0 : Int) (a1 : Int) (a2 : Bool) : Option (Bool) := (logic_Test.f a0 (wrap64 ((Int.tmod (Go.bits .and .i64 a1 65535) 3) - 1)) a2).bind fun bt226 => ((umlautref11_Test.f a0 (wrap64 ((Int.tmod (Go.bits .and .i64 a1 65535) 3) - 1)) a2).bind fun bt229 => ((umlautref11_Same.f bt226.1 bt226.2.1 bt226.2.2 bt229.1 bt229.2.1 bt229.2.2).bind fun t232 => (if t232 = true then ((umlautlaw12_awake.f k).bind fun t233 => (some t233)) else (some false))))
theorem umlautlaw12_LogicTests.mono : ∀ a0 a1 a2 k, LeO (umlautlaw12_LogicTests.f k a0 a1 a2) (umlautlaw12_LogicTests.f (k + 1) a0 a1 a2) := by
  intro a0 a1 a2 k
  unfold umlautlaw12_LogicTests.f
  repeat' first
      | (with_reducible exact umlautlaw12_awake.mono _)
      | (with_reducible exact LeO.refl _)
      | (with_reducible exact LeO.none _)
      | (with_reducible refine LeO.ite ?_ ?_)
      | (with_reducible refine LeO.bind ?_ (fun _ => ?_))
      | exact umlautlaw12_awake.mono _
      | exact LeO.none _
      | refine LeO.ite ?_ ?_
      | refine LeO.bind ?_ (fun _ => ?_)
set_option maxHeartbeats 8000000 in
set_option maxRecDepth 100000 in
theorem umlautlaw12_LogicTests.calls (k : Nat) (a0 : Int) (a1 : Int) (a2 : Bool) (r : Bool) (w : World) (h : umlautlaw12_LogicTests.f k a0 a1 a2 = some r) :
    Calls Try.prog 4 #[.int .i64 a0, .int .i64 a1, .bool a2] w fun e w' => e = .returned (.bool r) ∧ Below w.heap.size w w' := by
  have HB := Aside0.mk (Below.refl w.heap.size w)
  have H : ((logic_Test.f a0 (wrap64 ((Int.tmod (Go.bits .and .i64 a1 65535) 3) - 1)) a2).bind fun bt226 => ((umlautref11_Test.f a0 (wrap64 ((Int.tmod (Go.bits .and .i64 a1 65535) 3) - 1)) a2).bind fun bt229 => ((umlautref11_Same.f bt226.1 bt226.2.1 bt226.2.2 bt229.1 bt229.2.1 bt229.2.2).bind fun t232 => (if t232 = true then ((umlautlaw12_awake.f k).bind fun t233 => (some t233)) else (some false))))) = some r := h
  clear h
  replace H := Option.bind_eq_some_iff.mp H
  obtain ⟨⟨t226, t227, t228⟩, A40, H⟩ := H
  replace H : ((umlautref11_Test.f a0 (wrap64 ((Int.tmod (Go.bits .and .i64 a1 65535) 3) - 1)) a2).bind fun bt229 => ((umlautref11_Same.f t226 t227 t228 bt229.1 bt229.2.1 bt229.2.2).bind fun t232 => (if t232 = true then ((umlautlaw12_awake.f k).bind fun t233 => (some t233)) else (some false)))) = some r := H
  have A4 := Aside0.mk A40
  clear A40
  replace H := Option.bind_eq_some_iff.mp H
  obtain ⟨⟨t229, t230, t231⟩, A50, H⟩ := H
  replace H : ((umlautref11_Same.f t226 t227 t228 t229 t230 t231).bind fun t232 => (if t232 = true then ((umlautlaw12_awake.f k).bind fun t233 => (some t233)) else (some false))) = some r := H
  have A5 := Aside0.mk A50
  clear A50
  replace H := Option.bind_eq_some_iff.mp H
  obtain ⟨t232, A60, H⟩ := H
  replace H : (if t232 = true then ((umlautlaw12_awake.f k).bind fun t233 => (some t233)) else (some false)) = some r := H
  have A6 := Aside0.mk A60
  clear A60
  by_cases c7 : t232 = true
  · subst c7
    have H1 : ((umlautlaw12_awake.f k).bind fun t233 => (some t233)) = some r := by rw [if_pos rfl] at H; exact H
    clear H
    have H := H1
    clear H1
    replace H := Option.bind_eq_some_iff.mp H
    obtain ⟨t233, A80, H⟩ := H
    replace H : (some t233) = some r := H
    have A8 := Aside0.mk A80
    clear A80
    obtain rfl := Option.some.inj H
    go_enter Try.func4, Try.ntmps4
    go_wp2_with (first | ((with_reducible refine gate_callee (f := 10) rfl ?_); refine goesL_ (some 15) rfl rfl Try.func10 (by kernel_rfl) rfl #[.int .i64 a0, .int .i64 (wrap64 ((Int.tmod (Go.bits .and .i64 a1 65535) 3) - 1)), .bool a2] rfl (by (try simp only [List.map_toArray, List.map_cons, List.map_nil]); first | done | rfl | (simp only [List.length_drop, List.length_take]; rfl)) ?_; (with_reducible refine (logic_Test.calls a0 (wrap64 ((Int.tmod (Go.bits .and .i64 a1 65535) 3) - 1)) a2 t226 t227 t228 _ A4.out).mono ?_); rintro e w9 ⟨rfl, hb⟩; refine ⟨_, rfl, ?_⟩; have n0_ := Aside0.mk (below_step (by repeat (first | (with_reducible first | exact HB.out | apply below_alloc | apply pw_below_drewN | apply below_drew1) | exact HB.out)) hb); clear HB; have HB := n0_; clear n0_; (try clear hb); (try clear hb2); (try clear hk); (try clear hi)) | ((with_reducible refine gate_callee (f := 11) rfl ?_); refine goesL_ (some 19) rfl rfl Try.func11 (by kernel_rfl) rfl #[.int .i64 a0, .int .i64 (wrap64 ((Int.tmod (Go.bits .and .i64 a1 65535) 3) - 1)), .bool a2] rfl (by (try simp only [List.map_toArray, List.map_cons, List.map_nil]); first | done | rfl | (simp only [List.length_drop, List.length_take]; rfl)) ?_; (with_reducible refine (umlautref11_Test.calls a0 (wrap64 ((Int.tmod (Go.bits .and .i64 a1 65535) 3) - 1)) a2 t229 t230 t231 _ A5.out).mono ?_); rintro e w10 ⟨rfl, hb⟩; refine ⟨_, rfl, ?_⟩; have n0_ := Aside0.mk (below_step (by repeat (first | (with_reducible first | exact HB.out | apply below_alloc | apply pw_below_drewN | apply below_drew1) | exact HB.out)) hb); clear HB; have HB := n0_; clear n0_; (try clear hb); (try clear hb2); (try clear hk); (try clear hi)) | ((with_reducible refine gate_callee (f := 5) rfl ?_); refine goesL_ (some 20) rfl rfl Try.func5 (by kernel_rfl) rfl #[.agg #[.int .i64 t226, .int .i64 t227, .string t228], .agg #[.int .i64 t229, .int .i64 t230, .string t231]] rfl (by (try simp only [List.map_toArray, List.map_cons, List.map_nil]); first | done | rfl | (simp only [List.length_drop, List.length_take]; rfl)) ?_; (with_reducible refine (umlautref11_Same.calls t226 t227 t228 t229 t230 t231 true _ A6.out).mono ?_); rintro e w11 ⟨rfl, hb⟩; refine ⟨_, rfl, ?_⟩; have n0_ := Aside0.mk (below_step (by repeat (first | (with_reducible first | exact HB.out | apply below_alloc | apply pw_below_drewN | apply below_drew1) | exact HB.out)) hb); clear HB; have HB := n0_; clear n0_; (try clear hb); (try clear hb2); (try clear hk); (try clear hi)) | (go_at_call 9; (with_reducible refine (umlautlaw12_awake.calls k  t233 _ A8.out).mono ?_); rintro e w12 ⟨rfl, hb⟩; have n0_ := Aside0.mk (below_step (by repeat (first | (with_reducible first | exact HB.out | apply below_alloc | apply pw_below_drewN | apply below_drew1) | exact HB.out)) hb); clear HB; have HB := n0_; clear n0_; (try clear hb); (try clear hb2); (try clear hk); (try clear hi)))
    go_ret
    exact ⟨by first | rfl | (simp [errW_none, errW_some] <;> rfl) | (simp [*, errW_none, errW_some] <;> rfl), by repeat (first | (with_reducible first | exact HB.out | apply below_alloc | apply pw_below_drewN | apply below_drew1) | exact HB.out)⟩
  · replace c7 := Bool.eq_false_iff.mpr c7
    subst c7
    have H1 : (some false) = some r := by rw [if_neg (show ¬ (false = true) by decide)] at H; exact H
    clear H
    have H := H1
    clear H1
    obtain rfl := Option.some.inj H
    go_enter Try.func4, Try.ntmps4
    go_wp2_with (first | ((with_reducible refine gate_callee (f := 10) rfl ?_); refine goesL_ (some 15) rfl rfl Try.func10 (by kernel_rfl) rfl #[.int .i64 a0, .int .i64 (wrap64 ((Int.tmod (Go.bits .and .i64 a1 65535) 3) - 1)), .bool a2] rfl (by (try simp only [List.map_toArray, List.map_cons, List.map_nil]); first | done | rfl | (simp only [List.length_drop, List.length_take]; rfl)) ?_; (with_reducible refine (logic_Test.calls a0 (wrap64 ((Int.tmod (Go.bits .and .i64 a1 65535) 3) - 1)) a2 t226 t227 t228 _ A4.out).mono ?_); rintro e w13 ⟨rfl, hb⟩; refine ⟨_, rfl, ?_⟩; have n0_ := Aside0.mk (below_step (by repeat (first | (with_reducible first | exact HB.out | apply below_alloc | apply pw_below_drewN | apply below_drew1) | exact HB.out)) hb); clear HB; have HB := n0_; clear n0_; (try clear hb); (try clear hb2); (try clear hk); (try clear hi)) | ((with_reducible refine gate_callee (f := 11) rfl ?_); refine goesL_ (some 19) rfl rfl Try.func11 (by kernel_rfl) rfl #[.int .i64 a0, .int .i64 (wrap64 ((Int.tmod (Go.bits .and .i64 a1 65535) 3) - 1)), .bool a2] rfl (by (try simp only [List.map_toArray, List.map_cons, List.map_nil]); first | done | rfl | (simp only [List.length_drop, List.length_take]; rfl)) ?_; (with_reducible refine (umlautref11_Test.calls a0 (wrap64 ((Int.tmod (Go.bits .and .i64 a1 65535) 3) - 1)) a2 t229 t230 t231 _ A5.out).mono ?_); rintro e w14 ⟨rfl, hb⟩; refine ⟨_, rfl, ?_⟩; have n0_ := Aside0.mk (below_step (by repeat (first | (with_reducible first | exact HB.out | apply below_alloc | apply pw_below_drewN | apply below_drew1) | exact HB.out)) hb); clear HB; have HB := n0_; clear n0_; (try clear hb); (try clear hb2); (try clear hk); (try clear hi)) | ((with_reducible refine gate_callee (f := 5) rfl ?_); refine goesL_ (some 20) rfl rfl Try.func5 (by kernel_rfl) rfl #[.agg #[.int .i64 t226, .int .i64 t227, .string t228], .agg #[.int .i64 t229, .int .i64 t230, .string t231]] rfl (by (try simp only [List.map_toArray, List.map_cons, List.map_nil]); first | done | rfl | (simp only [List.length_drop, List.length_take]; rfl)) ?_; (with_reducible refine (umlautref11_Same.calls t226 t227 t228 t229 t230 t231 false _ A6.out).mono ?_); rintro e w15 ⟨rfl, hb⟩; refine ⟨_, rfl, ?_⟩; have n0_ := Aside0.mk (below_step (by repeat (first | (with_reducible first | exact HB.out | apply below_alloc | apply pw_below_drewN | apply below_drew1) | exact HB.out)) hb); clear HB; have HB := n0_; clear n0_; (try clear hb); (try clear hb2); (try clear hk); (try clear hi)))
    go_ret
    exact ⟨by first | rfl | (simp [errW_none, errW_some] <;> rfl) | (simp [*, errW_none, errW_some] <;> rfl), by repeat (first | (with_reducible first | exact HB.out | apply below_alloc | apply pw_below_drewN | apply below_drew1) | exact HB.out)⟩

/-- THE ONE PURE STATEMENT of umlautlaw12_LogicTests: yours. -/
def umlautlaw12_LogicTests.Pure : Prop := ∀ (a0 : Int) (a1 : Int) (a2 : Bool), (Lit.int .i64 a0).wf = true → (Lit.int .i64 a1).wf = true → ∃ k, umlautlaw12_LogicTests.f k a0 a1 a2 = some true
theorem umlautlaw12_LogicTests.walk (P : umlautlaw12_LogicTests.Pure) (a0 : Int) (a1 : Int) (a2 : Bool) (w : World) (w0 : (Lit.int .i64 a0).wf = true) (w1 : (Lit.int .i64 a1).wf = true) :
    Calls Try.prog 4 #[.int .i64 a0, .int .i64 a1, .bool a2] w fun e w' => e = .returned (.bool true) ∧ Below w.heap.size w w' := by
  obtain ⟨k, h⟩ := P a0 a1 a2 w0 w1
  refine (umlautlaw12_LogicTests.calls k a0 a1 a2 true w h).mono ?_
  rintro e w' ⟨rfl, hd⟩
  exact ⟨rfl, hd⟩

end Go.Proofs.Ytedmbkhjpbdkjaa.XA
