-- laid by a program of this session (its print of the translation over its own contracts)
import Derived.Test.YtedmbkhjpbdkjaaDoorXI0
import Derived.Test.YtedmbkhjpbdkjaaDoorXI1
import Derived.Test.YtedmbkhjpbdkjaaDoorXI2
import Derived.Test.YtedmbkhjpbdkjaaDoorXI3
namespace Go.Proofs.YtedmbkhjpbdkjaaDoor.XI
open Go.Proofs.YtedmbkhjpbdkjaaDoor.Given
open Go.RowKit Go.Proofs.YtedmbkhjpbdkjaaDoorW.PrintWords Go.Proofs.YtedmbkhjpbdkjaaDoorW.PrintLast Go.Proofs.YtedmbkhjpbdkjaaDoorW.PrintMore
attribute [local go_sem] max2_int min2_int max_two min_two max_three min_three max_four min_four   -- for this text's walks alone
set_option linter.unusedVariables false
set_option linter.unusedSimpArgs false

/-! ### umlautlaw1_IntsSums: function 7 -/
def umlautlaw1_IntsSums.f (k : Nat) (a0 : Int) (a1 : Int) : Option (Bool) := (ints_Add.f a0 a1).bind fun bt158 => ((umlautref1_Add.f a0 a1).bind fun bt160 => ((ints_Sub.f a0 a1).bind fun bt162 => ((umlautref1_Sub.f a0 a1).bind fun bt164 => ((ints_Neg.f a0).bind fun bt166 => ((umlautref1_Neg.f a0).bind fun bt168 => ((umlautlaw1_same.f bt158.1 bt158.2 bt160.1 bt160.2).bind fun t170 => (if t170 = true then ((umlautlaw1_same.f bt162.1 bt162.2 bt164.1 bt164.2).bind fun t171 => (if t171 = true then ((umlautlaw1_same.f bt166.1 bt166.2 bt168.1 bt168.2).bind fun t172 => (if t172 = true then ((umlautlaw1_awake.f k).bind fun t173 => (some t173)) else (some false))) else (some false))) else (some false))))))))
theorem umlautlaw1_IntsSums.mono : ∀ a0 a1 k, LeO (umlautlaw1_IntsSums.f k a0 a1) (umlautlaw1_IntsSums.f (k + 1) a0 a1) := by
  intro a0 a1 k
  unfold umlautlaw1_IntsSums.f
  repeat' first
      | (with_reducible exact umlautlaw1_awake.mono _)
      | (with_reducible exact LeO.refl _)
      | (with_reducible exact LeO.none _)
      | (with_reducible refine LeO.ite ?_ ?_)
      | (with_reducible refine LeO.bind ?_ (fun _ => ?_))
      | exact umlautlaw1_awake.mono _
      | exact LeO.none _
      | refine LeO.ite ?_ ?_
      | refine LeO.bind ?_ (fun _ => ?_)
set_option maxHeartbeats 8000000 in
set_option maxRecDepth 100000 in
theorem umlautlaw1_IntsSums.calls (k : Nat) (a0 : Int) (a1 : Int) (r : Bool) (w : World) (hG0 : GW w) (h : umlautlaw1_IntsSums.f k a0 a1 = some r) :
    Calls Tryd.prog 7 #[.int .i64 a0, .int .i64 a1] w fun e w' => e = .returned (.bool r) ∧ Below w.heap.size w w' := by
  have HG := Aside0.mk hG0
  clear hG0
  have HB := Aside0.mk (Below.refl w.heap.size w)
  have H : ((ints_Add.f a0 a1).bind fun bt158 => ((umlautref1_Add.f a0 a1).bind fun bt160 => ((ints_Sub.f a0 a1).bind fun bt162 => ((umlautref1_Sub.f a0 a1).bind fun bt164 => ((ints_Neg.f a0).bind fun bt166 => ((umlautref1_Neg.f a0).bind fun bt168 => ((umlautlaw1_same.f bt158.1 bt158.2 bt160.1 bt160.2).bind fun t170 => (if t170 = true then ((umlautlaw1_same.f bt162.1 bt162.2 bt164.1 bt164.2).bind fun t171 => (if t171 = true then ((umlautlaw1_same.f bt166.1 bt166.2 bt168.1 bt168.2).bind fun t172 => (if t172 = true then ((umlautlaw1_awake.f k).bind fun t173 => (some t173)) else (some false))) else (some false))) else (some false))))))))) = some r := h
  clear h
  replace H := Option.bind_eq_some_iff.mp H
  obtain ⟨⟨t158, t159⟩, A30, H⟩ := H
  replace H : ((umlautref1_Add.f a0 a1).bind fun bt160 => ((ints_Sub.f a0 a1).bind fun bt162 => ((umlautref1_Sub.f a0 a1).bind fun bt164 => ((ints_Neg.f a0).bind fun bt166 => ((umlautref1_Neg.f a0).bind fun bt168 => ((umlautlaw1_same.f t158 t159 bt160.1 bt160.2).bind fun t170 => (if t170 = true then ((umlautlaw1_same.f bt162.1 bt162.2 bt164.1 bt164.2).bind fun t171 => (if t171 = true then ((umlautlaw1_same.f bt166.1 bt166.2 bt168.1 bt168.2).bind fun t172 => (if t172 = true then ((umlautlaw1_awake.f k).bind fun t173 => (some t173)) else (some false))) else (some false))) else (some false)))))))) = some r := H
  have A3 := Aside0.mk A30
  clear A30
  replace H := Option.bind_eq_some_iff.mp H
  obtain ⟨⟨t160, t161⟩, A40, H⟩ := H
  replace H : ((ints_Sub.f a0 a1).bind fun bt162 => ((umlautref1_Sub.f a0 a1).bind fun bt164 => ((ints_Neg.f a0).bind fun bt166 => ((umlautref1_Neg.f a0).bind fun bt168 => ((umlautlaw1_same.f t158 t159 t160 t161).bind fun t170 => (if t170 = true then ((umlautlaw1_same.f bt162.1 bt162.2 bt164.1 bt164.2).bind fun t171 => (if t171 = true then ((umlautlaw1_same.f bt166.1 bt166.2 bt168.1 bt168.2).bind fun t172 => (if t172 = true then ((umlautlaw1_awake.f k).bind fun t173 => (some t173)) else (some false))) else (some false))) else (some false))))))) = some r := H
  have A4 := Aside0.mk A40
  clear A40
  replace H := Option.bind_eq_some_iff.mp H
  obtain ⟨⟨t162, t163⟩, A50, H⟩ := H
  replace H : ((umlautref1_Sub.f a0 a1).bind fun bt164 => ((ints_Neg.f a0).bind fun bt166 => ((umlautref1_Neg.f a0).bind fun bt168 => ((umlautlaw1_same.f t158 t159 t160 t161).bind fun t170 => (if t170 = true then ((umlautlaw1_same.f t162 t163 bt164.1 bt164.2).bind fun t171 => (if t171 = true then ((umlautlaw1_same.f bt166.1 bt166.2 bt168.1 bt168.2).bind fun t172 => (if t172 = true then ((umlautlaw1_awake.f k).bind fun t173 => (some t173)) else (some false))) else (some false))) else (some false)))))) = some r := H
  have A5 := Aside0.mk A50
  clear A50
  replace H := Option.bind_eq_some_iff.mp H
  obtain ⟨⟨t164, t165⟩, A60, H⟩ := H
  replace H : ((ints_Neg.f a0).bind fun bt166 => ((umlautref1_Neg.f a0).bind fun bt168 => ((umlautlaw1_same.f t158 t159 t160 t161).bind fun t170 => (if t170 = true then ((umlautlaw1_same.f t162 t163 t164 t165).bind fun t171 => (if t171 = true then ((umlautlaw1_same.f bt166.1 bt166.2 bt168.1 bt168.2).bind fun t172 => (if t172 = true then ((umlautlaw1_awake.f k).bind fun t173 => (some t173)) else (some false))) else (some false))) else (some false))))) = some r := H
  have A6 := Aside0.mk A60
  clear A60
  replace H := Option.bind_eq_some_iff.mp H
  obtain ⟨⟨t166, t167⟩, A70, H⟩ := H
  replace H : ((umlautref1_Neg.f a0).bind fun bt168 => ((umlautlaw1_same.f t158 t159 t160 t161).bind fun t170 => (if t170 = true then ((umlautlaw1_same.f t162 t163 t164 t165).bind fun t171 => (if t171 = true then ((umlautlaw1_same.f t166 t167 bt168.1 bt168.2).bind fun t172 => (if t172 = true then ((umlautlaw1_awake.f k).bind fun t173 => (some t173)) else (some false))) else (some false))) else (some false)))) = some r := H
  have A7 := Aside0.mk A70
  clear A70
  replace H := Option.bind_eq_some_iff.mp H
  obtain ⟨⟨t168, t169⟩, A80, H⟩ := H
  replace H : ((umlautlaw1_same.f t158 t159 t160 t161).bind fun t170 => (if t170 = true then ((umlautlaw1_same.f t162 t163 t164 t165).bind fun t171 => (if t171 = true then ((umlautlaw1_same.f t166 t167 t168 t169).bind fun t172 => (if t172 = true then ((umlautlaw1_awake.f k).bind fun t173 => (some t173)) else (some false))) else (some false))) else (some false))) = some r := H
  have A8 := Aside0.mk A80
  clear A80
  replace H := Option.bind_eq_some_iff.mp H
  obtain ⟨t170, A90, H⟩ := H
  replace H : (if t170 = true then ((umlautlaw1_same.f t162 t163 t164 t165).bind fun t171 => (if t171 = true then ((umlautlaw1_same.f t166 t167 t168 t169).bind fun t172 => (if t172 = true then ((umlautlaw1_awake.f k).bind fun t173 => (some t173)) else (some false))) else (some false))) else (some false)) = some r := H
  have A9 := Aside0.mk A90
  clear A90
  by_cases c10 : t170 = true
  · subst c10
    have H1 : ((umlautlaw1_same.f t162 t163 t164 t165).bind fun t171 => (if t171 = true then ((umlautlaw1_same.f t166 t167 t168 t169).bind fun t172 => (if t172 = true then ((umlautlaw1_awake.f k).bind fun t173 => (some t173)) else (some false))) else (some false))) = some r := by rw [if_pos rfl] at H; exact H
    clear H
    have H := H1
    clear H1
    replace H := Option.bind_eq_some_iff.mp H
    obtain ⟨t171, A110, H⟩ := H
    replace H : (if t171 = true then ((umlautlaw1_same.f t166 t167 t168 t169).bind fun t172 => (if t172 = true then ((umlautlaw1_awake.f k).bind fun t173 => (some t173)) else (some false))) else (some false)) = some r := H
    have A11 := Aside0.mk A110
    clear A110
    by_cases c12 : t171 = true
    · subst c12
      have H1 : ((umlautlaw1_same.f t166 t167 t168 t169).bind fun t172 => (if t172 = true then ((umlautlaw1_awake.f k).bind fun t173 => (some t173)) else (some false))) = some r := by rw [if_pos rfl] at H; exact H
      clear H
      have H := H1
      clear H1
      replace H := Option.bind_eq_some_iff.mp H
      obtain ⟨t172, A130, H⟩ := H
      replace H : (if t172 = true then ((umlautlaw1_awake.f k).bind fun t173 => (some t173)) else (some false)) = some r := H
      have A13 := Aside0.mk A130
      clear A130
      by_cases c14 : t172 = true
      · subst c14
        have H1 : ((umlautlaw1_awake.f k).bind fun t173 => (some t173)) = some r := by rw [if_pos rfl] at H; exact H
        clear H
        have H := H1
        clear H1
        replace H := Option.bind_eq_some_iff.mp H
        obtain ⟨t173, A150, H⟩ := H
        replace H : (some t173) = some r := H
        have A15 := Aside0.mk A150
        clear A150
        obtain rfl := Option.some.inj H
        go_enter Tryd.func7, Tryd.ntmps7
        go_wp2_with (first | ((with_reducible refine gate_callee (f := 29) rfl ?_); refine goesL_ (some 20) rfl rfl Tryd.func29 (by kernel_rfl) rfl #[.int .i64 a0, .int .i64 a1] rfl (by (try simp only [List.map_toArray, List.map_cons, List.map_nil]); first | done | rfl | (simp only [List.length_drop, List.length_take]; rfl)) ?_; (with_reducible refine (ints_Add.calls a0 a1 t158 t159 _ A3.out).mono ?_); rintro e w' ⟨rfl, ⟨nd, rfl⟩⟩; refine ⟨_, rfl, ?_⟩) | ((with_reducible refine gate_callee (f := 30) rfl ?_); refine goesL_ (some 26) rfl rfl Tryd.func30 (by kernel_rfl) rfl #[.int .i64 a0, .int .i64 a1] rfl (by (try simp only [List.map_toArray, List.map_cons, List.map_nil]); first | done | rfl | (simp only [List.length_drop, List.length_take]; rfl)) ?_; (with_reducible refine (umlautref1_Add.calls a0 a1 t160 t161 _ A4.out).mono ?_); rintro e w' ⟨rfl, ⟨nd, rfl⟩⟩; refine ⟨_, rfl, ?_⟩) | ((with_reducible refine gate_callee (f := 31) rfl ?_); refine goesL_ (some 32) rfl rfl Tryd.func31 (by kernel_rfl) rfl #[.int .i64 a0, .int .i64 a1] rfl (by (try simp only [List.map_toArray, List.map_cons, List.map_nil]); first | done | rfl | (simp only [List.length_drop, List.length_take]; rfl)) ?_; (with_reducible refine (ints_Sub.calls a0 a1 t162 t163 _ A5.out).mono ?_); rintro e w' ⟨rfl, ⟨nd, rfl⟩⟩; refine ⟨_, rfl, ?_⟩) | ((with_reducible refine gate_callee (f := 32) rfl ?_); refine goesL_ (some 38) rfl rfl Tryd.func32 (by kernel_rfl) rfl #[.int .i64 a0, .int .i64 a1] rfl (by (try simp only [List.map_toArray, List.map_cons, List.map_nil]); first | done | rfl | (simp only [List.length_drop, List.length_take]; rfl)) ?_; (with_reducible refine (umlautref1_Sub.calls a0 a1 t164 t165 _ A6.out).mono ?_); rintro e w' ⟨rfl, ⟨nd, rfl⟩⟩; refine ⟨_, rfl, ?_⟩) | ((with_reducible refine gate_callee (f := 33) rfl ?_); refine goesL_ (some 43) rfl rfl Tryd.func33 (by kernel_rfl) rfl #[.int .i64 a0] rfl (by (try simp only [List.map_toArray, List.map_cons, List.map_nil]); first | done | rfl | (simp only [List.length_drop, List.length_take]; rfl)) ?_; (with_reducible refine (ints_Neg.calls a0 t166 t167 _ A7.out).mono ?_); rintro e w' ⟨rfl, ⟨nd, rfl⟩⟩; refine ⟨_, rfl, ?_⟩) | ((with_reducible refine gate_callee (f := 34) rfl ?_); refine goesL_ (some 48) rfl rfl Tryd.func34 (by kernel_rfl) rfl #[.int .i64 a0] rfl (by (try simp only [List.map_toArray, List.map_cons, List.map_nil]); first | done | rfl | (simp only [List.length_drop, List.length_take]; rfl)) ?_; (with_reducible refine (umlautref1_Neg.calls a0 t168 t169 _ A8.out).mono ?_); rintro e w' ⟨rfl, ⟨nd, rfl⟩⟩; refine ⟨_, rfl, ?_⟩) | ((with_reducible refine gate_callee (f := 18) rfl ?_); refine goesL_ (some 55) rfl rfl Tryd.func18 (by kernel_rfl) rfl #[.int .i64 t158, .int .i64 t159, .int .i64 t160, .int .i64 t161] rfl (by (try simp only [List.map_toArray, List.map_cons, List.map_nil]); first | done | rfl | (simp only [List.length_drop, List.length_take]; rfl)) ?_; (with_reducible refine (umlautlaw1_same.calls t158 t159 t160 t161 true _ A9.out).mono ?_); rintro e w' ⟨rfl, ⟨nd, rfl⟩⟩; refine ⟨_, rfl, ?_⟩) | (go_at_call 18; (with_reducible refine (umlautlaw1_same.calls t162 t163 t164 t165 true _ A11.out).mono ?_); rintro e w' ⟨rfl, ⟨nd, rfl⟩⟩) | (go_at_call 18; (with_reducible refine (umlautlaw1_same.calls t166 t167 t168 t169 true _ A13.out).mono ?_); rintro e w' ⟨rfl, ⟨nd, rfl⟩⟩) | (go_at_call 19; (with_reducible refine (umlautlaw1_awake.calls k  t173 _ ?side1 A15.out).mono ?_); (case side1 => exact GW.below HG.out (by repeat (first | (with_reducible first | exact HB.out | apply below_alloc | apply pw_below_drewN | apply below_drew1) | exact HB.out))); rintro e w16 ⟨rfl, hb⟩; have n0_ := Aside0.mk (below_step (by repeat (first | (with_reducible first | exact HB.out | apply below_alloc | apply pw_below_drewN | apply below_drew1) | exact HB.out)) hb); clear HB; have HB := n0_; clear n0_; (try clear hb); (try clear hb2); (try clear hk); (try clear hi)))
        go_ret
        exact ⟨by first | rfl | (simp [errW_none, errW_some] <;> rfl) | (simp [*, errW_none, errW_some] <;> rfl), by repeat (first | (with_reducible first | exact HB.out | apply below_alloc | apply pw_below_drewN | apply below_drew1) | exact HB.out)⟩
      · replace c14 := Bool.eq_false_iff.mpr c14
        subst c14
        have H1 : (some false) = some r := by rw [if_neg (show ¬ (false = true) by decide)] at H; exact H
        clear H
        have H := H1
        clear H1
        obtain rfl := Option.some.inj H
        go_enter Tryd.func7, Tryd.ntmps7
        go_wp2_with (first | ((with_reducible refine gate_callee (f := 29) rfl ?_); refine goesL_ (some 20) rfl rfl Tryd.func29 (by kernel_rfl) rfl #[.int .i64 a0, .int .i64 a1] rfl (by (try simp only [List.map_toArray, List.map_cons, List.map_nil]); first | done | rfl | (simp only [List.length_drop, List.length_take]; rfl)) ?_; (with_reducible refine (ints_Add.calls a0 a1 t158 t159 _ A3.out).mono ?_); rintro e w' ⟨rfl, ⟨nd, rfl⟩⟩; refine ⟨_, rfl, ?_⟩) | ((with_reducible refine gate_callee (f := 30) rfl ?_); refine goesL_ (some 26) rfl rfl Tryd.func30 (by kernel_rfl) rfl #[.int .i64 a0, .int .i64 a1] rfl (by (try simp only [List.map_toArray, List.map_cons, List.map_nil]); first | done | rfl | (simp only [List.length_drop, List.length_take]; rfl)) ?_; (with_reducible refine (umlautref1_Add.calls a0 a1 t160 t161 _ A4.out).mono ?_); rintro e w' ⟨rfl, ⟨nd, rfl⟩⟩; refine ⟨_, rfl, ?_⟩) | ((with_reducible refine gate_callee (f := 31) rfl ?_); refine goesL_ (some 32) rfl rfl Tryd.func31 (by kernel_rfl) rfl #[.int .i64 a0, .int .i64 a1] rfl (by (try simp only [List.map_toArray, List.map_cons, List.map_nil]); first | done | rfl | (simp only [List.length_drop, List.length_take]; rfl)) ?_; (with_reducible refine (ints_Sub.calls a0 a1 t162 t163 _ A5.out).mono ?_); rintro e w' ⟨rfl, ⟨nd, rfl⟩⟩; refine ⟨_, rfl, ?_⟩) | ((with_reducible refine gate_callee (f := 32) rfl ?_); refine goesL_ (some 38) rfl rfl Tryd.func32 (by kernel_rfl) rfl #[.int .i64 a0, .int .i64 a1] rfl (by (try simp only [List.map_toArray, List.map_cons, List.map_nil]); first | done | rfl | (simp only [List.length_drop, List.length_take]; rfl)) ?_; (with_reducible refine (umlautref1_Sub.calls a0 a1 t164 t165 _ A6.out).mono ?_); rintro e w' ⟨rfl, ⟨nd, rfl⟩⟩; refine ⟨_, rfl, ?_⟩) | ((with_reducible refine gate_callee (f := 33) rfl ?_); refine goesL_ (some 43) rfl rfl Tryd.func33 (by kernel_rfl) rfl #[.int .i64 a0] rfl (by (try simp only [List.map_toArray, List.map_cons, List.map_nil]); first | done | rfl | (simp only [List.length_drop, List.length_take]; rfl)) ?_; (with_reducible refine (ints_Neg.calls a0 t166 t167 _ A7.out).mono ?_); rintro e w' ⟨rfl, ⟨nd, rfl⟩⟩; refine ⟨_, rfl, ?_⟩) | ((with_reducible refine gate_callee (f := 34) rfl ?_); refine goesL_ (some 48) rfl rfl Tryd.func34 (by kernel_rfl) rfl #[.int .i64 a0] rfl (by (try simp only [List.map_toArray, List.map_cons, List.map_nil]); first | done | rfl | (simp only [List.length_drop, List.length_take]; rfl)) ?_; (with_reducible refine (umlautref1_Neg.calls a0 t168 t169 _ A8.out).mono ?_); rintro e w' ⟨rfl, ⟨nd, rfl⟩⟩; refine ⟨_, rfl, ?_⟩) | ((with_reducible refine gate_callee (f := 18) rfl ?_); refine goesL_ (some 55) rfl rfl Tryd.func18 (by kernel_rfl) rfl #[.int .i64 t158, .int .i64 t159, .int .i64 t160, .int .i64 t161] rfl (by (try simp only [List.map_toArray, List.map_cons, List.map_nil]); first | done | rfl | (simp only [List.length_drop, List.length_take]; rfl)) ?_; (with_reducible refine (umlautlaw1_same.calls t158 t159 t160 t161 true _ A9.out).mono ?_); rintro e w' ⟨rfl, ⟨nd, rfl⟩⟩; refine ⟨_, rfl, ?_⟩) | (go_at_call 18; (with_reducible refine (umlautlaw1_same.calls t162 t163 t164 t165 true _ A11.out).mono ?_); rintro e w' ⟨rfl, ⟨nd, rfl⟩⟩) | (go_at_call 18; (with_reducible refine (umlautlaw1_same.calls t166 t167 t168 t169 false _ A13.out).mono ?_); rintro e w' ⟨rfl, ⟨nd, rfl⟩⟩))
        go_ret
        exact ⟨by first | rfl | (simp [errW_none, errW_some] <;> rfl) | (simp [*, errW_none, errW_some] <;> rfl), by repeat (first | (with_reducible first | exact HB.out | apply below_alloc | apply pw_below_drewN | apply below_drew1) | exact HB.out)⟩
    · replace c12 := Bool.eq_false_iff.mpr c12
      subst c12
      have H1 : (some false) = some r := by rw [if_neg (show ¬ (false = true) by decide)] at H; exact H
      clear H
      have H := H1
      clear H1
      obtain rfl := Option.some.inj H
      go_enter Tryd.func7, Tryd.ntmps7
      go_wp2_with (first | ((with_reducible refine gate_callee (f := 29) rfl ?_); refine goesL_ (some 20) rfl rfl Tryd.func29 (by kernel_rfl) rfl #[.int .i64 a0, .int .i64 a1] rfl (by (try simp only [List.map_toArray, List.map_cons, List.map_nil]); first | done | rfl | (simp only [List.length_drop, List.length_take]; rfl)) ?_; (with_reducible refine (ints_Add.calls a0 a1 t158 t159 _ A3.out).mono ?_); rintro e w' ⟨rfl, ⟨nd, rfl⟩⟩; refine ⟨_, rfl, ?_⟩) | ((with_reducible refine gate_callee (f := 30) rfl ?_); refine goesL_ (some 26) rfl rfl Tryd.func30 (by kernel_rfl) rfl #[.int .i64 a0, .int .i64 a1] rfl (by (try simp only [List.map_toArray, List.map_cons, List.map_nil]); first | done | rfl | (simp only [List.length_drop, List.length_take]; rfl)) ?_; (with_reducible refine (umlautref1_Add.calls a0 a1 t160 t161 _ A4.out).mono ?_); rintro e w' ⟨rfl, ⟨nd, rfl⟩⟩; refine ⟨_, rfl, ?_⟩) | ((with_reducible refine gate_callee (f := 31) rfl ?_); refine goesL_ (some 32) rfl rfl Tryd.func31 (by kernel_rfl) rfl #[.int .i64 a0, .int .i64 a1] rfl (by (try simp only [List.map_toArray, List.map_cons, List.map_nil]); first | done | rfl | (simp only [List.length_drop, List.length_take]; rfl)) ?_; (with_reducible refine (ints_Sub.calls a0 a1 t162 t163 _ A5.out).mono ?_); rintro e w' ⟨rfl, ⟨nd, rfl⟩⟩; refine ⟨_, rfl, ?_⟩) | ((with_reducible refine gate_callee (f := 32) rfl ?_); refine goesL_ (some 38) rfl rfl Tryd.func32 (by kernel_rfl) rfl #[.int .i64 a0, .int .i64 a1] rfl (by (try simp only [List.map_toArray, List.map_cons, List.map_nil]); first | done | rfl | (simp only [List.length_drop, List.length_take]; rfl)) ?_; (with_reducible refine (umlautref1_Sub.calls a0 a1 t164 t165 _ A6.out).mono ?_); rintro e w' ⟨rfl, ⟨nd, rfl⟩⟩; refine ⟨_, rfl, ?_⟩) | ((with_reducible refine gate_callee (f := 33) rfl ?_); refine goesL_ (some 43) rfl rfl Tryd.func33 (by kernel_rfl) rfl #[.int .i64 a0] rfl (by (try simp only [List.map_toArray, List.map_cons, List.map_nil]); first | done | rfl | (simp only [List.length_drop, List.length_take]; rfl)) ?_; (with_reducible refine (ints_Neg.calls a0 t166 t167 _ A7.out).mono ?_); rintro e w' ⟨rfl, ⟨nd, rfl⟩⟩; refine ⟨_, rfl, ?_⟩) | ((with_reducible refine gate_callee (f := 34) rfl ?_); refine goesL_ (some 48) rfl rfl Tryd.func34 (by kernel_rfl) rfl #[.int .i64 a0] rfl (by (try simp only [List.map_toArray, List.map_cons, List.map_nil]); first | done | rfl | (simp only [List.length_drop, List.length_take]; rfl)) ?_; (with_reducible refine (umlautref1_Neg.calls a0 t168 t169 _ A8.out).mono ?_); rintro e w' ⟨rfl, ⟨nd, rfl⟩⟩; refine ⟨_, rfl, ?_⟩) | ((with_reducible refine gate_callee (f := 18) rfl ?_); refine goesL_ (some 55) rfl rfl Tryd.func18 (by kernel_rfl) rfl #[.int .i64 t158, .int .i64 t159, .int .i64 t160, .int .i64 t161] rfl (by (try simp only [List.map_toArray, List.map_cons, List.map_nil]); first | done | rfl | (simp only [List.length_drop, List.length_take]; rfl)) ?_; (with_reducible refine (umlautlaw1_same.calls t158 t159 t160 t161 true _ A9.out).mono ?_); rintro e w' ⟨rfl, ⟨nd, rfl⟩⟩; refine ⟨_, rfl, ?_⟩) | (go_at_call 18; (with_reducible refine (umlautlaw1_same.calls t162 t163 t164 t165 false _ A11.out).mono ?_); rintro e w' ⟨rfl, ⟨nd, rfl⟩⟩))
      go_ret
      exact ⟨by first | rfl | (simp [errW_none, errW_some] <;> rfl) | (simp [*, errW_none, errW_some] <;> rfl), by repeat (first | (with_reducible first | exact HB.out | apply below_alloc | apply pw_below_drewN | apply below_drew1) | exact HB.out)⟩
  · replace c10 := Bool.eq_false_iff.mpr c10
    subst c10
    have H1 : (some false) = some r := by rw [if_neg (show ¬ (false = true) by decide)] at H; exact H
    clear H
    have H := H1
    clear H1
    obtain rfl := Option.some.inj H
    go_enter Tryd.func7, Tryd.ntmps7
    go_wp2_with (first | ((with_reducible refine gate_callee (f := 29) rfl ?_); refine goesL_ (some 20) rfl rfl Tryd.func29 (by kernel_rfl) rfl #[.int .i64 a0, .int .i64 a1] rfl (by (try simp only [List.map_toArray, List.map_cons, List.map_nil]); first | done | rfl | (simp only [List.length_drop, List.length_take]; rfl)) ?_; (with_reducible refine (ints_Add.calls a0 a1 t158 t159 _ A3.out).mono ?_); rintro e w' ⟨rfl, ⟨nd, rfl⟩⟩; refine ⟨_, rfl, ?_⟩) | ((with_reducible refine gate_callee (f := 30) rfl ?_); refine goesL_ (some 26) rfl rfl Tryd.func30 (by kernel_rfl) rfl #[.int .i64 a0, .int .i64 a1] rfl (by (try simp only [List.map_toArray, List.map_cons, List.map_nil]); first | done | rfl | (simp only [List.length_drop, List.length_take]; rfl)) ?_; (with_reducible refine (umlautref1_Add.calls a0 a1 t160 t161 _ A4.out).mono ?_); rintro e w' ⟨rfl, ⟨nd, rfl⟩⟩; refine ⟨_, rfl, ?_⟩) | ((with_reducible refine gate_callee (f := 31) rfl ?_); refine goesL_ (some 32) rfl rfl Tryd.func31 (by kernel_rfl) rfl #[.int .i64 a0, .int .i64 a1] rfl (by (try simp only [List.map_toArray, List.map_cons, List.map_nil]); first | done | rfl | (simp only [List.length_drop, List.length_take]; rfl)) ?_; (with_reducible refine (ints_Sub.calls a0 a1 t162 t163 _ A5.out).mono ?_); rintro e w' ⟨rfl, ⟨nd, rfl⟩⟩; refine ⟨_, rfl, ?_⟩) | ((with_reducible refine gate_callee (f := 32) rfl ?_); refine goesL_ (some 38) rfl rfl Tryd.func32 (by kernel_rfl) rfl #[.int .i64 a0, .int .i64 a1] rfl (by (try simp only [List.map_toArray, List.map_cons, List.map_nil]); first | done | rfl | (simp only [List.length_drop, List.length_take]; rfl)) ?_; (with_reducible refine (umlautref1_Sub.calls a0 a1 t164 t165 _ A6.out).mono ?_); rintro e w' ⟨rfl, ⟨nd, rfl⟩⟩; refine ⟨_, rfl, ?_⟩) | ((with_reducible refine gate_callee (f := 33) rfl ?_); refine goesL_ (some 43) rfl rfl Tryd.func33 (by kernel_rfl) rfl #[.int .i64 a0] rfl (by (try simp only [List.map_toArray, List.map_cons, List.map_nil]); first | done | rfl | (simp only [List.length_drop, List.length_take]; rfl)) ?_; (with_reducible refine (ints_Neg.calls a0 t166 t167 _ A7.out).mono ?_); rintro e w' ⟨rfl, ⟨nd, rfl⟩⟩; refine ⟨_, rfl, ?_⟩) | ((with_reducible refine gate_callee (f := 34) rfl ?_); refine goesL_ (some 48) rfl rfl Tryd.func34 (by kernel_rfl) rfl #[.int .i64 a0] rfl (by (try simp only [List.map_toArray, List.map_cons, List.map_nil]); first | done | rfl | (simp only [List.length_drop, List.length_take]; rfl)) ?_; (with_reducible refine (umlautref1_Neg.calls a0 t168 t169 _ A8.out).mono ?_); rintro e w' ⟨rfl, ⟨nd, rfl⟩⟩; refine ⟨_, rfl, ?_⟩) | ((with_reducible refine gate_callee (f := 18) rfl ?_); refine goesL_ (some 55) rfl rfl Tryd.func18 (by kernel_rfl) rfl #[.int .i64 t158, .int .i64 t159, .int .i64 t160, .int .i64 t161] rfl (by (try simp only [List.map_toArray, List.map_cons, List.map_nil]); first | done | rfl | (simp only [List.length_drop, List.length_take]; rfl)) ?_; (with_reducible refine (umlautlaw1_same.calls t158 t159 t160 t161 false _ A9.out).mono ?_); rintro e w' ⟨rfl, ⟨nd, rfl⟩⟩; refine ⟨_, rfl, ?_⟩))
    go_ret
    exact ⟨by first | rfl | (simp [errW_none, errW_some] <;> rfl) | (simp [*, errW_none, errW_some] <;> rfl), by repeat (first | (with_reducible first | exact HB.out | apply below_alloc | apply pw_below_drewN | apply below_drew1) | exact HB.out)⟩

/-- THE ONE PURE STATEMENT of umlautlaw1_IntsSums: yours. -/
def umlautlaw1_IntsSums.Pure : Prop := ∀ (a0 : Int) (a1 : Int), (Lit.int .i64 a0).wf = true → (Lit.int .i64 a1).wf = true → ∃ k, umlautlaw1_IntsSums.f k a0 a1 = some true
theorem umlautlaw1_IntsSums.walk (P : umlautlaw1_IntsSums.Pure) (a0 : Int) (a1 : Int) (w : World) (hG0 : GW w) (w0 : (Lit.int .i64 a0).wf = true) (w1 : (Lit.int .i64 a1).wf = true) :
    Calls Tryd.prog 7 #[.int .i64 a0, .int .i64 a1] w fun e w' => e = .returned (.bool true) ∧ Below w.heap.size w w' := by
  obtain ⟨k, h⟩ := P a0 a1 w0 w1
  refine (umlautlaw1_IntsSums.calls k a0 a1 true w hG0 h).mono ?_
  rintro e w' ⟨rfl, hd⟩
  exact ⟨rfl, hd⟩

/-! ### umlautref1_Get: function 35 -/
mutual
def umlautref1_Get.j0 : Nat → Int → Int → Int → Bool → Option (Int)
  | 0, _, _, _, _ => none
  | k + 1, x0, x1, x2, x18 => if x18 = true then (some 0) else (umlautref1_Get.l0 k x0 x1 x2 0 0)
def umlautref1_Get.l0 : Nat → Int → Int → Int → Int → Int → Option (Int)
  | 0, _, _, _, _, _ => none
  | k + 1, x0, x1, x2, x7, x8 => if x8 < x2 then (umlautref1_Get.j2 k x0 x1 x2 x7 x8 (decide ((wrap64 (x1 + x8)) < 64))) else (umlautref1_Get.j2 k x0 x1 x2 x7 x8 false)
def umlautref1_Get.j2 : Nat → Int → Int → Int → Int → Int → Bool → Option (Int)
  | 0, _, _, _, _, _, _ => none
  | k + 1, x0, x1, x2, x7, x8, x27 => if x27 = true then (if 0 ≤ (wrap64 (x1 + x8)) then (if (Go.bits .and .u64 (shr .u64 x0 (wrap64 (x1 + x8))) 1) = 1 then (if 0 ≤ x8 then (umlautref1_Get.l0 k x0 x1 x2 (Go.bits .or .u64 x7 (shl .u64 1 x8)) (wrap64 (x8 + 1))) else (none)) else (umlautref1_Get.l0 k x0 x1 x2 x7 (wrap64 (x8 + 1)))) else (none)) else (some x7)
end
def umlautref1_Get.f (k : Nat) (a0 : Int) (a1 : Int) (a2 : Int) : Option (Int) := if a1 < 0 then (umlautref1_Get.j0 k a0 a1 a2 true) else (if a1 > 63 then (umlautref1_Get.j0 k a0 a1 a2 true) else (umlautref1_Get.j0 k a0 a1 a2 (decide (a2 < 1))))
theorem umlautref1_Get.mono_l : ∀ k, (∀ y0 y1 y2 y3, LeO (umlautref1_Get.j0 k y0 y1 y2 y3) (umlautref1_Get.j0 (k + 1) y0 y1 y2 y3)) ∧ (∀ y0 y1 y2 y3 y4, LeO (umlautref1_Get.l0 k y0 y1 y2 y3 y4) (umlautref1_Get.l0 (k + 1) y0 y1 y2 y3 y4)) ∧ (∀ y0 y1 y2 y3 y4 y5, LeO (umlautref1_Get.j2 k y0 y1 y2 y3 y4 y5) (umlautref1_Get.j2 (k + 1) y0 y1 y2 y3 y4 y5))
  | 0 => ⟨fun _ _ _ _ r h => by simp [umlautref1_Get.j0] at h, fun _ _ _ _ _ r h => by simp [umlautref1_Get.l0] at h, fun _ _ _ _ _ _ r h => by simp [umlautref1_Get.j2] at h⟩
  | k + 1 => by
    obtain ⟨ih0, ih1, ih2⟩ := umlautref1_Get.mono_l k
    refine ⟨?_, ?_, ?_⟩
    · intro y0 y1 y2 y3
      unfold umlautref1_Get.j0
      repeat' first
      | (with_reducible exact ih0 _ _ _ _)
      | (with_reducible exact ih1 _ _ _ _ _)
      | (with_reducible exact ih2 _ _ _ _ _ _)
      | (with_reducible exact LeO.refl _)
      | (with_reducible exact LeO.none _)
      | (with_reducible refine LeO.ite ?_ ?_)
      | (with_reducible refine LeO.bind ?_ (fun _ => ?_))
      | exact ih0 _ _ _ _
      | exact ih1 _ _ _ _ _
      | exact ih2 _ _ _ _ _ _
      | exact LeO.none _
      | refine LeO.ite ?_ ?_
      | refine LeO.bind ?_ (fun _ => ?_)
    · intro y0 y1 y2 y3 y4
      unfold umlautref1_Get.l0
      repeat' first
      | (with_reducible exact ih0 _ _ _ _)
      | (with_reducible exact ih1 _ _ _ _ _)
      | (with_reducible exact ih2 _ _ _ _ _ _)
      | (with_reducible exact LeO.refl _)
      | (with_reducible exact LeO.none _)
      | (with_reducible refine LeO.ite ?_ ?_)
      | (with_reducible refine LeO.bind ?_ (fun _ => ?_))
      | exact ih0 _ _ _ _
      | exact ih1 _ _ _ _ _
      | exact ih2 _ _ _ _ _ _
      | exact LeO.none _
      | refine LeO.ite ?_ ?_
      | refine LeO.bind ?_ (fun _ => ?_)
    · intro y0 y1 y2 y3 y4 y5
      unfold umlautref1_Get.j2
      repeat' first
      | (with_reducible exact ih0 _ _ _ _)
      | (with_reducible exact ih1 _ _ _ _ _)
      | (with_reducible exact ih2 _ _ _ _ _ _)
      | (with_reducible exact LeO.refl _)
      | (with_reducible exact LeO.none _)
      | (with_reducible refine LeO.ite ?_ ?_)
      | (with_reducible refine LeO.bind ?_ (fun _ => ?_))
      | exact ih0 _ _ _ _
      | exact ih1 _ _ _ _ _
      | exact ih2 _ _ _ _ _ _
      | exact LeO.none _
      | refine LeO.ite ?_ ?_
      | refine LeO.bind ?_ (fun _ => ?_)
theorem umlautref1_Get.mono : ∀ a0 a1 a2 k, LeO (umlautref1_Get.f k a0 a1 a2) (umlautref1_Get.f (k + 1) a0 a1 a2) := by
  intro a0 a1 a2 k
  obtain ⟨ih0, ih1, ih2⟩ := umlautref1_Get.mono_l k
  unfold umlautref1_Get.f
  repeat' first
      | (with_reducible exact ih0 _ _ _ _)
      | (with_reducible exact ih1 _ _ _ _ _)
      | (with_reducible exact ih2 _ _ _ _ _ _)
      | (with_reducible exact LeO.refl _)
      | (with_reducible exact LeO.none _)
      | (with_reducible refine LeO.ite ?_ ?_)
      | (with_reducible refine LeO.bind ?_ (fun _ => ?_))
      | exact ih0 _ _ _ _
      | exact ih1 _ _ _ _ _
      | exact ih2 _ _ _ _ _ _
      | exact LeO.none _
      | refine LeO.ite ?_ ?_
      | refine LeO.bind ?_ (fun _ => ?_)
set_option maxHeartbeats 8000000 in
set_option maxRecDepth 100000 in
theorem umlautref1_Get.calls (k : Nat) (a0 : Int) (a1 : Int) (a2 : Int) (r : Int) (w : World) (h : umlautref1_Get.f k a0 a1 a2 = some r) :
    Calls Tryd.prog 35 #[.int .u64 a0, .int .i64 a1, .int .i64 a2] w fun e w' => e = .returned (.int .u64 r) ∧ Drawn0 w w' := by
  have H : (if a1 < 0 then (umlautref1_Get.j0 k a0 a1 a2 true) else (if a1 > 63 then (umlautref1_Get.j0 k a0 a1 a2 true) else (umlautref1_Get.j0 k a0 a1 a2 (decide (a2 < 1))))) = some r := h
  clear h
  have HC4 := Aside0.mk H
  clear H
  go_enter Tryd.func35, Tryd.ntmps35
  go_upto_region 1 with (fail)
  go_cut [18] (fun v18 wc => ∃ (kq : Nat) (x18_3 : Bool), v18 = .bool x18_3 ∧ Aside0 (umlautref1_Get.j0 kq a0 a1 a2 x18_3 = some r) ∧ Aside0 (kq ≤ k) ∧ Drawn0 w wc)
  case first =>
    have H := HC4.out
    clear HC4
    by_cases c5 : a1 < 0
    · rw [if_pos c5] at H
      have c5b0 : decide (a1 < 0) = true := decide_eq_true c5
      clear c5
      (first | rw [c5b0] | (simp only [i64_w, i32_w]; rw [c5b0]) | skip)
      have H' := Aside0.mk H
      clear H
      go_wp2
      go_meet
      case rel => exact ⟨_, (true), (by first | rfl | (simp; done) | (simp [*]; done)), H', ⟨by first | omega | exact Nat.le_refl _⟩, by repeat (first | exact Drawn0.refl _ | apply Drawn0.step)⟩
    · rw [if_neg c5] at H
      have c5b0 : decide (a1 < 0) = false := decide_eq_false c5
      clear c5
      (first | rw [c5b0] | (simp only [i64_w, i32_w]; rw [c5b0]) | skip)
      by_cases c6 : a1 > 63
      · rw [if_pos c6] at H
        have c6b0 : decide (63 < a1) = true := decide_eq_true c6
        clear c6
        have H' := Aside0.mk H
        clear H
        go_wp2
        go_meet
        case rel => exact ⟨_, (true), (by first | rfl | (simp; done) | (simp [*]; done)), H', ⟨by first | omega | exact Nat.le_refl _⟩, by repeat (first | exact Drawn0.refl _ | apply Drawn0.step)⟩
      · rw [if_neg c6] at H
        have c6b0 : decide (63 < a1) = false := decide_eq_false c6
        clear c6
        have H' := Aside0.mk H
        clear H
        go_wp2
        go_meet
        case rel => exact ⟨_, (decide (a2 < 1)), (by first | rfl | (simp; done) | (simp [*]; done)), H', ⟨by first | omega | exact Nat.le_refl _⟩, by repeat (first | exact Drawn0.refl _ | apply Drawn0.step)⟩
  case rest =>
    clear HC4
    try clear p2
    try clear c3
    try clear c5
    try clear c5b0
    try clear c6
    try clear c6b0
    obtain ⟨kq, x18_3, rfl, HA, HJ3, ⟨mc3, rfl⟩⟩ := hcut
    cases kq with
    | zero => exact absurd HA.out (by simp [umlautref1_Get.j0])
    | succ kj3 =>
      have H := HA.out
      clear HA
      simp only [umlautref1_Get.j0] at H
      by_cases c7 : x18_3 = true
      · subst c7
        have H1 : (some 0) = some r := by rw [if_pos rfl] at H; exact H
        clear H
        have H := H1
        clear H1
        obtain rfl := Option.some.inj H
        go_wp2
        go_ret
        exact ⟨by first | rfl | (simp; done) | (simp [*]; done), by repeat (first | exact Drawn0.refl _ | apply Drawn0.step)⟩
      · replace c7 := Bool.eq_false_iff.mpr c7
        subst c7
        have H1 : (umlautref1_Get.l0 kj3 a0 a1 a2 0 0) = some r := by rw [if_neg (show ¬ (false = true) by decide)] at H; exact H
        clear H
        have H := H1
        clear H1
        have H' := Aside0.mk H
        clear H
        go_wp2
        go_loopg [7, 8] kj3 (fun kq v7 v8 w' => ∃ (x7_2 : Int) (x8_2 : Int), v7 = .int .u64 x7_2 ∧ v8 = .int .i64 x8_2 ∧ Aside0 (umlautref1_Get.l0 kq a0 a1 a2 x7_2 x8_2 = some r) ∧ Aside0 (kq ≤ kj3) ∧ Drawn0 w w')
        case atStart => exact ⟨(0), (0), (by first | rfl | (simp; done) | (simp [*]; done)), (by first | rfl | (simp; done) | (simp [*]; done)), H', ⟨Nat.le_refl _⟩, by repeat (first | exact Drawn0.refl _ | apply Drawn0.step)⟩
        case round =>
          clear H'
          try clear p2
          try clear c3
          try clear c5
          try clear c5b0
          try clear c6
          try clear c6b0
          try clear c7
          try clear p2
          obtain ⟨x7_2, x8_2, rfl, rfl, HA, HK2, ⟨m2, rfl⟩⟩ := hrel
          cases gk with
          | zero => exact absurd HA.out (by simp [umlautref1_Get.l0])
          | succ k2 =>
            have H := HA.out
            clear HA
            simp only [umlautref1_Get.l0] at H
            have HC8 := Aside0.mk H
            clear H
            go_upto_region 5 with (fail)
            go_cut [27] (fun v27 wc => ∃ (kq : Nat) (x27_7 : Bool), v27 = .bool x27_7 ∧ Aside0 (umlautref1_Get.j2 kq a0 a1 a2 x7_2 x8_2 x27_7 = some r) ∧ Aside0 (kq ≤ k2) ∧ Drawn0 w wc)
            case first =>
              have H := HC8.out
              clear HC8
              by_cases c9 : x8_2 < a2
              · rw [if_pos c9] at H
                have c9b0 : decide (x8_2 < a2) = true := decide_eq_true c9
                clear c9
                (first | rw [c9b0] | (simp only [i64_w, i32_w]; rw [c9b0]) | skip)
                have H' := Aside0.mk H
                clear H
                go_wp2
                go_meet
                case rel => exact ⟨_, (decide ((wrap64 (a1 + x8_2)) < 64)), (by first | rfl | (simp; done) | (simp [*]; done)), H', ⟨by have := HJ3.out; have := HK2.out; first | omega | exact Nat.le_refl _⟩, by repeat (first | exact Drawn0.refl _ | apply Drawn0.step)⟩
              · rw [if_neg c9] at H
                have c9b0 : decide (x8_2 < a2) = false := decide_eq_false c9
                clear c9
                (first | rw [c9b0] | (simp only [i64_w, i32_w]; rw [c9b0]) | skip)
                have H' := Aside0.mk H
                clear H
                go_wp2
                go_meet
                case rel => exact ⟨_, (false), (by first | rfl | (simp; done) | (simp [*]; done)), H', ⟨by have := HJ3.out; have := HK2.out; first | omega | exact Nat.le_refl _⟩, by repeat (first | exact Drawn0.refl _ | apply Drawn0.step)⟩
            case rest =>
              clear HC8
              try clear p2
              try clear c3
              try clear c5
              try clear c5b0
              try clear c6
              try clear c6b0
              try clear p6
              try clear c7
              try clear c9
              try clear c9b0
              try clear p2
              obtain ⟨kq, x27_7, rfl, HA, HJ7, ⟨mc7, rfl⟩⟩ := hcut
              cases kq with
              | zero => exact absurd HA.out (by simp [umlautref1_Get.j2])
              | succ kj7 =>
                have H := HA.out
                clear HA
                simp only [umlautref1_Get.j2] at H
                by_cases c10 : x27_7 = true
                · subst c10
                  have H1 : (if 0 ≤ (wrap64 (a1 + x8_2)) then (if (Go.bits .and .u64 (shr .u64 a0 (wrap64 (a1 + x8_2))) 1) = 1 then (if 0 ≤ x8_2 then (umlautref1_Get.l0 kj7 a0 a1 a2 (Go.bits .or .u64 x7_2 (shl .u64 1 x8_2)) (wrap64 (x8_2 + 1))) else (none)) else (umlautref1_Get.l0 kj7 a0 a1 a2 x7_2 (wrap64 (x8_2 + 1)))) else (none)) = some r := by rw [if_pos rfl] at H; exact H
                  clear H
                  have H := H1
                  clear H1
                  obtain ⟨ji11, hji11⟩ : ∃ j_ : Int, (wrap64 (a1 + x8_2)) = j_ := ⟨_, rfl⟩
                  replace H : (if 0 ≤ (ji11) then (if (Go.bits .and .u64 (shr .u64 a0 (ji11)) 1) = 1 then (if 0 ≤ x8_2 then (umlautref1_Get.l0 kj7 a0 a1 a2 (Go.bits .or .u64 x7_2 (shl .u64 1 x8_2)) (wrap64 (x8_2 + 1))) else (none)) else (umlautref1_Get.l0 kj7 a0 a1 a2 x7_2 (wrap64 (x8_2 + 1)))) else (none)) = some r := by first | (rw [hji11] at H; exact H) | (simp only [hji11] at H ⊢; exact H)
                  have hji11w : (IntKind.i64.wrap (a1 + x8_2)) = ji11 := (i64_w _).trans hji11
                  by_cases c12 : 0 ≤ (ji11)
                  · rw [if_pos c12] at H
                    have c12b0 := eq_true c12
                    have c12b1 : decide (0 ≤ (ji11)) = true := decide_eq_true c12
                    clear c12
                    obtain ⟨ji13, hji13⟩ : ∃ j_ : Int, (shr .u64 a0 (ji11)) = j_ := ⟨_, rfl⟩
                    replace H : (if (Go.bits .and .u64 (ji13) 1) = 1 then (if 0 ≤ x8_2 then (umlautref1_Get.l0 kj7 a0 a1 a2 (Go.bits .or .u64 x7_2 (shl .u64 1 x8_2)) (wrap64 (x8_2 + 1))) else (none)) else (umlautref1_Get.l0 kj7 a0 a1 a2 x7_2 (wrap64 (x8_2 + 1)))) = some r := by first | (rw [hji13] at H; exact H) | (simp only [hji13] at H ⊢; exact H)
                    have hji13_ : (a0 / 2 ^ min (ji11).toNat 64) = ji13 := hji13
                    have hji13z : (ji11) ≤ 64 → (a0 / 2 ^ (ji11).toNat) = ji13 := shr_small hji13
                    by_cases c14 : (Go.bits .and .u64 (ji13) 1) = 1
                    · rw [if_pos c14] at H
                      have c14b0 : ((Go.bits .and .u64 (ji13) 1) == 1) = true := beq_iff_eq.mpr c14
                      have c14b1 : ((Go.bits .and .u64 (ji13) 1) != 1) = false := bne_eq_false_iff_eq.mpr c14
                      clear c14
                      by_cases c15 : 0 ≤ x8_2
                      · rw [if_pos c15] at H
                        have c15b0 := eq_true c15
                        have c15b1 : decide (0 ≤ x8_2) = true := decide_eq_true c15
                        clear c15
                        obtain ⟨ji16, hji16⟩ : ∃ j_ : Int, (shl .u64 1 x8_2) = j_ := ⟨_, rfl⟩
                        replace H : (umlautref1_Get.l0 kj7 a0 a1 a2 (Go.bits .or .u64 x7_2 (ji16)) (wrap64 (x8_2 + 1))) = some r := by first | (rw [hji16] at H; exact H) | (simp only [hji16] at H ⊢; exact H)
                        have hji16_ : (IntKind.u64.wrap (1 * 2 ^ min x8_2.toNat 64)) = ji16 := hji16
                        have hji16z : x8_2 ≤ 64 → (IntKind.u64.wrap (1 * 2 ^ x8_2.toNat)) = ji16 := shl_small hji16
                        have hji16u : (IntKind.u64.wrap (2 ^ min x8_2.toNat 64)) = ji16 := by have h_ := hji16_; rw [Int.one_mul] at h_; exact h_
                        have hji16v : x8_2 ≤ 64 → (IntKind.u64.wrap (2 ^ x8_2.toNat)) = ji16 := fun hle_ => by have h_ := hji16z hle_; rw [Int.one_mul] at h_; exact h_
                        have H' := Aside0.mk H
                        clear H
                        go_wp2
                        go_roundg kj7
                        case measure => have := HJ3.out; have := HK2.out; have := HJ7.out; omega
                        case rel => exact ⟨(Go.bits .or .u64 x7_2 (ji16)), (wrap64 (x8_2 + 1)), (by first | rfl | (simp; done) | (simp only [← hji16] <;> (first | rfl | simp)) | (simp [*]; done)), (by first | rfl | (simp; done) | (simp [*]; done)), H', ⟨by have := HJ3.out; have := HK2.out; have := HJ7.out; omega⟩, by repeat (first | exact Drawn0.refl _ | apply Drawn0.step)⟩
                      · rw [if_neg c15] at H
                        exact absurd H (by simp)
                    · rw [if_neg c14] at H
                      have c14b0 : ((Go.bits .and .u64 (ji13) 1) == 1) = false := beq_eq_false_iff_ne.mpr c14
                      have c14b1 : ((Go.bits .and .u64 (ji13) 1) != 1) = true := bne_iff_ne.mpr c14
                      have H' := Aside0.mk H
                      clear H
                      go_wp2
                      go_roundg kj7
                      case measure => have := HJ3.out; have := HK2.out; have := HJ7.out; omega
                      case rel => exact ⟨(x7_2), (wrap64 (x8_2 + 1)), (by first | rfl | (simp; done) | (simp [*]; done)), (by first | rfl | (simp; done) | (simp [*]; done)), H', ⟨by have := HJ3.out; have := HK2.out; have := HJ7.out; omega⟩, by repeat (first | exact Drawn0.refl _ | apply Drawn0.step)⟩
                  · rw [if_neg c12] at H
                    exact absurd H (by simp)
                · replace c10 := Bool.eq_false_iff.mpr c10
                  subst c10
                  have H1 : (some x7_2) = some r := by rw [if_neg (show ¬ (false = true) by decide)] at H; exact H
                  clear H
                  have H := H1
                  clear H1
                  obtain rfl := Option.some.inj H
                  go_wp2
                  go_ret
                  exact ⟨by first | rfl | (simp; done) | (simp [*]; done), by repeat (first | exact Drawn0.refl _ | apply Drawn0.step)⟩

/-! ### umlautref1_Set: function 36 -/
mutual
def umlautref1_Set.j0 : Nat → Int → Int → Int → Int → Bool → Option (Int)
  | 0, _, _, _, _, _ => none
  | k + 1, x0, x1, x2, x3, x19 => if x19 = true then (some x0) else (umlautref1_Set.l0 k x0 x1 x2 x3 0)
def umlautref1_Set.l0 : Nat → Int → Int → Int → Int → Int → Option (Int)
  | 0, _, _, _, _, _ => none
  | k + 1, x0, x1, x2, x3, x9 => if x9 < x2 then (umlautref1_Set.j2 k x0 x1 x2 x3 x9 (decide ((wrap64 (x1 + x9)) < 64))) else (umlautref1_Set.j2 k x0 x1 x2 x3 x9 false)
def umlautref1_Set.j2 : Nat → Int → Int → Int → Int → Int → Bool → Option (Int)
  | 0, _, _, _, _, _, _ => none
  | k + 1, x0, x1, x2, x3, x9, x29 => if x29 = true then (if 0 ≤ (wrap64 (x1 + x9)) then (if 0 ≤ x9 then (if (Go.bits .and .u64 (shr .u64 x3 x9) 1) = 1 then (umlautref1_Set.l0 k (Go.bits .or .u64 (Go.bits .andNot .u64 x0 (shl .u64 1 (wrap64 (x1 + x9)))) (shl .u64 1 (wrap64 (x1 + x9)))) x1 x2 x3 (wrap64 (x9 + 1))) else (umlautref1_Set.l0 k (Go.bits .andNot .u64 x0 (shl .u64 1 (wrap64 (x1 + x9)))) x1 x2 x3 (wrap64 (x9 + 1)))) else (none)) else (none)) else (some x0)
end
def umlautref1_Set.f (k : Nat) (a0 : Int) (a1 : Int) (a2 : Int) (a3 : Int) : Option (Int) := if a1 < 0 then (umlautref1_Set.j0 k a0 a1 a2 a3 true) else (if a1 > 63 then (umlautref1_Set.j0 k a0 a1 a2 a3 true) else (umlautref1_Set.j0 k a0 a1 a2 a3 (decide (a2 < 1))))
theorem umlautref1_Set.mono_l : ∀ k, (∀ y0 y1 y2 y3 y4, LeO (umlautref1_Set.j0 k y0 y1 y2 y3 y4) (umlautref1_Set.j0 (k + 1) y0 y1 y2 y3 y4)) ∧ (∀ y0 y1 y2 y3 y4, LeO (umlautref1_Set.l0 k y0 y1 y2 y3 y4) (umlautref1_Set.l0 (k + 1) y0 y1 y2 y3 y4)) ∧ (∀ y0 y1 y2 y3 y4 y5, LeO (umlautref1_Set.j2 k y0 y1 y2 y3 y4 y5) (umlautref1_Set.j2 (k + 1) y0 y1 y2 y3 y4 y5))
  | 0 => ⟨fun _ _ _ _ _ r h => by simp [umlautref1_Set.j0] at h, fun _ _ _ _ _ r h => by simp [umlautref1_Set.l0] at h, fun _ _ _ _ _ _ r h => by simp [umlautref1_Set.j2] at h⟩
  | k + 1 => by
    obtain ⟨ih0, ih1, ih2⟩ := umlautref1_Set.mono_l k
    refine ⟨?_, ?_, ?_⟩
    · intro y0 y1 y2 y3 y4
      unfold umlautref1_Set.j0
      repeat' first
      | (with_reducible exact ih0 _ _ _ _ _)
      | (with_reducible exact ih1 _ _ _ _ _)
      | (with_reducible exact ih2 _ _ _ _ _ _)
      | (with_reducible exact LeO.refl _)
      | (with_reducible exact LeO.none _)
      | (with_reducible refine LeO.ite ?_ ?_)
      | (with_reducible refine LeO.bind ?_ (fun _ => ?_))
      | exact ih0 _ _ _ _ _
      | exact ih1 _ _ _ _ _
      | exact ih2 _ _ _ _ _ _
      | exact LeO.none _
      | refine LeO.ite ?_ ?_
      | refine LeO.bind ?_ (fun _ => ?_)
    · intro y0 y1 y2 y3 y4
      unfold umlautref1_Set.l0
      repeat' first
      | (with_reducible exact ih0 _ _ _ _ _)
      | (with_reducible exact ih1 _ _ _ _ _)
      | (with_reducible exact ih2 _ _ _ _ _ _)
      | (with_reducible exact LeO.refl _)
      | (with_reducible exact LeO.none _)
      | (with_reducible refine LeO.ite ?_ ?_)
      | (with_reducible refine LeO.bind ?_ (fun _ => ?_))
      | exact ih0 _ _ _ _ _
      | exact ih1 _ _ _ _ _
      | exact ih2 _ _ _ _ _ _
      | exact LeO.none _
      | refine LeO.ite ?_ ?_
      | refine LeO.bind ?_ (fun _ => ?_)
    · intro y0 y1 y2 y3 y4 y5
      unfold umlautref1_Set.j2
      repeat' first
      | (with_reducible exact ih0 _ _ _ _ _)
      | (with_reducible exact ih1 _ _ _ _ _)
      | (with_reducible exact ih2 _ _ _ _ _ _)
      | (with_reducible exact LeO.refl _)
      | (with_reducible exact LeO.none _)
      | (with_reducible refine LeO.ite ?_ ?_)
      | (with_reducible refine LeO.bind ?_ (fun _ => ?_))
      | exact ih0 _ _ _ _ _
      | exact ih1 _ _ _ _ _
      | exact ih2 _ _ _ _ _ _
      | exact LeO.none _
      | refine LeO.ite ?_ ?_
      | refine LeO.bind ?_ (fun _ => ?_)
theorem umlautref1_Set.mono : ∀ a0 a1 a2 a3 k, LeO (umlautref1_Set.f k a0 a1 a2 a3) (umlautref1_Set.f (k + 1) a0 a1 a2 a3) := by
  intro a0 a1 a2 a3 k
  obtain ⟨ih0, ih1, ih2⟩ := umlautref1_Set.mono_l k
  unfold umlautref1_Set.f
  repeat' first
      | (with_reducible exact ih0 _ _ _ _ _)
      | (with_reducible exact ih1 _ _ _ _ _)
      | (with_reducible exact ih2 _ _ _ _ _ _)
      | (with_reducible exact LeO.refl _)
      | (with_reducible exact LeO.none _)
      | (with_reducible refine LeO.ite ?_ ?_)
      | (with_reducible refine LeO.bind ?_ (fun _ => ?_))
      | exact ih0 _ _ _ _ _
      | exact ih1 _ _ _ _ _
      | exact ih2 _ _ _ _ _ _
      | exact LeO.none _
      | refine LeO.ite ?_ ?_
      | refine LeO.bind ?_ (fun _ => ?_)
set_option maxHeartbeats 8000000 in
set_option maxRecDepth 100000 in
theorem umlautref1_Set.calls (k : Nat) (a0 : Int) (a1 : Int) (a2 : Int) (a3 : Int) (r : Int) (w : World) (h : umlautref1_Set.f k a0 a1 a2 a3 = some r) :
    Calls Tryd.prog 36 #[.int .u64 a0, .int .i64 a1, .int .i64 a2, .int .u64 a3] w fun e w' => e = .returned (.int .u64 r) ∧ Drawn0 w w' := by
  have H : (if a1 < 0 then (umlautref1_Set.j0 k a0 a1 a2 a3 true) else (if a1 > 63 then (umlautref1_Set.j0 k a0 a1 a2 a3 true) else (umlautref1_Set.j0 k a0 a1 a2 a3 (decide (a2 < 1))))) = some r := h
  clear h
  have HC5 := Aside0.mk H
  clear H
  go_enter Tryd.func36, Tryd.ntmps36
  go_upto_region 1 with (fail)
  go_cut [19] (fun v19 wc => ∃ (kq : Nat) (x19_4 : Bool), v19 = .bool x19_4 ∧ Aside0 (umlautref1_Set.j0 kq a0 a1 a2 a3 x19_4 = some r) ∧ Aside0 (kq ≤ k) ∧ Drawn0 w wc)
  case first =>
    have H := HC5.out
    clear HC5
    by_cases c6 : a1 < 0
    · rw [if_pos c6] at H
      have c6b0 : decide (a1 < 0) = true := decide_eq_true c6
      clear c6
      (first | rw [c6b0] | (simp only [i64_w, i32_w]; rw [c6b0]) | skip)
      have H' := Aside0.mk H
      clear H
      go_wp2
      go_meet
      case rel => exact ⟨_, (true), (by first | rfl | (simp; done) | (simp [*]; done)), H', ⟨by first | omega | exact Nat.le_refl _⟩, by repeat (first | exact Drawn0.refl _ | apply Drawn0.step)⟩
    · rw [if_neg c6] at H
      have c6b0 : decide (a1 < 0) = false := decide_eq_false c6
      clear c6
      (first | rw [c6b0] | (simp only [i64_w, i32_w]; rw [c6b0]) | skip)
      by_cases c7 : a1 > 63
      · rw [if_pos c7] at H
        have c7b0 : decide (63 < a1) = true := decide_eq_true c7
        clear c7
        have H' := Aside0.mk H
        clear H
        go_wp2
        go_meet
        case rel => exact ⟨_, (true), (by first | rfl | (simp; done) | (simp [*]; done)), H', ⟨by first | omega | exact Nat.le_refl _⟩, by repeat (first | exact Drawn0.refl _ | apply Drawn0.step)⟩
      · rw [if_neg c7] at H
        have c7b0 : decide (63 < a1) = false := decide_eq_false c7
        clear c7
        have H' := Aside0.mk H
        clear H
        go_wp2
        go_meet
        case rel => exact ⟨_, (decide (a2 < 1)), (by first | rfl | (simp; done) | (simp [*]; done)), H', ⟨by first | omega | exact Nat.le_refl _⟩, by repeat (first | exact Drawn0.refl _ | apply Drawn0.step)⟩
  case rest =>
    clear HC5
    try clear p2
    try clear c3
    try clear c6
    try clear c6b0
    try clear c7
    try clear c7b0
    obtain ⟨kq, x19_4, rfl, HA, HJ4, ⟨mc4, rfl⟩⟩ := hcut
    cases kq with
    | zero => exact absurd HA.out (by simp [umlautref1_Set.j0])
    | succ kj4 =>
      have H := HA.out
      clear HA
      simp only [umlautref1_Set.j0] at H
      by_cases c8 : x19_4 = true
      · subst c8
        have H1 : (some a0) = some r := by rw [if_pos rfl] at H; exact H
        clear H
        have H := H1
        clear H1
        obtain rfl := Option.some.inj H
        go_wp2
        go_ret
        exact ⟨by first | rfl | (simp; done) | (simp [*]; done), by repeat (first | exact Drawn0.refl _ | apply Drawn0.step)⟩
      · replace c8 := Bool.eq_false_iff.mpr c8
        subst c8
        have H1 : (umlautref1_Set.l0 kj4 a0 a1 a2 a3 0) = some r := by rw [if_neg (show ¬ (false = true) by decide)] at H; exact H
        clear H
        have H := H1
        clear H1
        have H' := Aside0.mk H
        clear H
        go_wp2
        go_loopg [0, 9] kj4 (fun kq v0 v9 w' => ∃ (x0_2 : Int) (x9_2 : Int), v0 = .int .u64 x0_2 ∧ v9 = .int .i64 x9_2 ∧ Aside0 (umlautref1_Set.l0 kq x0_2 a1 a2 a3 x9_2 = some r) ∧ Aside0 (kq ≤ kj4) ∧ Drawn0 w w')
        case atStart => exact ⟨(a0), (0), (by first | rfl | (simp; done) | (simp [*]; done)), (by first | rfl | (simp; done) | (simp [*]; done)), H', ⟨Nat.le_refl _⟩, by repeat (first | exact Drawn0.refl _ | apply Drawn0.step)⟩
        case round =>
          clear H'
          try clear p2
          try clear c3
          try clear c4
          try clear c6
          try clear c6b0
          try clear c7
          try clear c7b0
          try clear c8
          try clear p2
          obtain ⟨x0_2, x9_2, rfl, rfl, HA, HK2, ⟨m2, rfl⟩⟩ := hrel
          cases gk with
          | zero => exact absurd HA.out (by simp [umlautref1_Set.l0])
          | succ k2 =>
            have H := HA.out
            clear HA
            simp only [umlautref1_Set.l0] at H
            have HC9 := Aside0.mk H
            clear H
            go_upto_region 4 with (fail)
            go_cut [29] (fun v29 wc => ∃ (kq : Nat) (x29_8 : Bool), v29 = .bool x29_8 ∧ Aside0 (umlautref1_Set.j2 kq x0_2 a1 a2 a3 x9_2 x29_8 = some r) ∧ Aside0 (kq ≤ k2) ∧ Drawn0 w wc)
            case first =>
              have H := HC9.out
              clear HC9
              by_cases c10 : x9_2 < a2
              · rw [if_pos c10] at H
                have c10b0 : decide (x9_2 < a2) = true := decide_eq_true c10
                clear c10
                (first | rw [c10b0] | (simp only [i64_w, i32_w]; rw [c10b0]) | skip)
                have H' := Aside0.mk H
                clear H
                go_wp2
                go_meet
                case rel => exact ⟨_, (decide ((wrap64 (a1 + x9_2)) < 64)), (by first | rfl | (simp; done) | (simp [*]; done)), H', ⟨by have := HJ4.out; have := HK2.out; first | omega | exact Nat.le_refl _⟩, by repeat (first | exact Drawn0.refl _ | apply Drawn0.step)⟩
              · rw [if_neg c10] at H
                have c10b0 : decide (x9_2 < a2) = false := decide_eq_false c10
                clear c10
                (first | rw [c10b0] | (simp only [i64_w, i32_w]; rw [c10b0]) | skip)
                have H' := Aside0.mk H
                clear H
                go_wp2
                go_meet
                case rel => exact ⟨_, (false), (by first | rfl | (simp; done) | (simp [*]; done)), H', ⟨by have := HJ4.out; have := HK2.out; first | omega | exact Nat.le_refl _⟩, by repeat (first | exact Drawn0.refl _ | apply Drawn0.step)⟩
            case rest =>
              clear HC9
              try clear c1
              try clear p2
              try clear c3
              try clear c4
              try clear c6
              try clear c6b0
              try clear p6
              try clear c7
              try clear c7b0
              try clear c8
              try clear c10
              try clear c10b0
              try clear p2
              obtain ⟨kq, x29_8, rfl, HA, HJ8, ⟨mc8, rfl⟩⟩ := hcut
              cases kq with
              | zero => exact absurd HA.out (by simp [umlautref1_Set.j2])
              | succ kj8 =>
                have H := HA.out
                clear HA
                simp only [umlautref1_Set.j2] at H
                by_cases c11 : x29_8 = true
                · subst c11
                  have H1 : (if 0 ≤ (wrap64 (a1 + x9_2)) then (if 0 ≤ x9_2 then (if (Go.bits .and .u64 (shr .u64 a3 x9_2) 1) = 1 then (umlautref1_Set.l0 kj8 (Go.bits .or .u64 (Go.bits .andNot .u64 x0_2 (shl .u64 1 (wrap64 (a1 + x9_2)))) (shl .u64 1 (wrap64 (a1 + x9_2)))) a1 a2 a3 (wrap64 (x9_2 + 1))) else (umlautref1_Set.l0 kj8 (Go.bits .andNot .u64 x0_2 (shl .u64 1 (wrap64 (a1 + x9_2)))) a1 a2 a3 (wrap64 (x9_2 + 1)))) else (none)) else (none)) = some r := by rw [if_pos rfl] at H; exact H
                  clear H
                  have H := H1
                  clear H1
                  obtain ⟨ji12, hji12⟩ : ∃ j_ : Int, (wrap64 (a1 + x9_2)) = j_ := ⟨_, rfl⟩
                  replace H : (if 0 ≤ (ji12) then (if 0 ≤ x9_2 then (if (Go.bits .and .u64 (shr .u64 a3 x9_2) 1) = 1 then (umlautref1_Set.l0 kj8 (Go.bits .or .u64 (Go.bits .andNot .u64 x0_2 (shl .u64 1 (ji12))) (shl .u64 1 (ji12))) a1 a2 a3 (wrap64 (x9_2 + 1))) else (umlautref1_Set.l0 kj8 (Go.bits .andNot .u64 x0_2 (shl .u64 1 (ji12))) a1 a2 a3 (wrap64 (x9_2 + 1)))) else (none)) else (none)) = some r := by first | (rw [hji12] at H; exact H) | (simp only [hji12] at H ⊢; exact H)
                  have hji12w : (IntKind.i64.wrap (a1 + x9_2)) = ji12 := (i64_w _).trans hji12
                  by_cases c13 : 0 ≤ (ji12)
                  · rw [if_pos c13] at H
                    have c13b0 := eq_true c13
                    have c13b1 : decide (0 ≤ (ji12)) = true := decide_eq_true c13
                    clear c13
                    obtain ⟨ji14, hji14⟩ : ∃ j_ : Int, (shl .u64 1 (ji12)) = j_ := ⟨_, rfl⟩
                    replace H : (if 0 ≤ x9_2 then (if (Go.bits .and .u64 (shr .u64 a3 x9_2) 1) = 1 then (umlautref1_Set.l0 kj8 (Go.bits .or .u64 (Go.bits .andNot .u64 x0_2 (ji14)) (ji14)) a1 a2 a3 (wrap64 (x9_2 + 1))) else (umlautref1_Set.l0 kj8 (Go.bits .andNot .u64 x0_2 (ji14)) a1 a2 a3 (wrap64 (x9_2 + 1)))) else (none)) = some r := by first | (rw [hji14] at H; exact H) | (simp only [hji14] at H ⊢; exact H)
                    have hji14_ : (IntKind.u64.wrap (1 * 2 ^ min (ji12).toNat 64)) = ji14 := hji14
                    have hji14z : (ji12) ≤ 64 → (IntKind.u64.wrap (1 * 2 ^ (ji12).toNat)) = ji14 := shl_small hji14
                    have hji14u : (IntKind.u64.wrap (2 ^ min (ji12).toNat 64)) = ji14 := by have h_ := hji14_; rw [Int.one_mul] at h_; exact h_
                    have hji14v : (ji12) ≤ 64 → (IntKind.u64.wrap (2 ^ (ji12).toNat)) = ji14 := fun hle_ => by have h_ := hji14z hle_; rw [Int.one_mul] at h_; exact h_
                    by_cases c15 : 0 ≤ x9_2
                    · rw [if_pos c15] at H
                      have c15b0 := eq_true c15
                      have c15b1 : decide (0 ≤ x9_2) = true := decide_eq_true c15
                      clear c15
                      obtain ⟨ji16, hji16⟩ : ∃ j_ : Int, (shr .u64 a3 x9_2) = j_ := ⟨_, rfl⟩
                      replace H : (if (Go.bits .and .u64 (ji16) 1) = 1 then (umlautref1_Set.l0 kj8 (Go.bits .or .u64 (Go.bits .andNot .u64 x0_2 (ji14)) (ji14)) a1 a2 a3 (wrap64 (x9_2 + 1))) else (umlautref1_Set.l0 kj8 (Go.bits .andNot .u64 x0_2 (ji14)) a1 a2 a3 (wrap64 (x9_2 + 1)))) = some r := by first | (rw [hji16] at H; exact H) | (simp only [hji16] at H ⊢; exact H)
                      have hji16_ : (a3 / 2 ^ min x9_2.toNat 64) = ji16 := hji16
                      have hji16z : x9_2 ≤ 64 → (a3 / 2 ^ x9_2.toNat) = ji16 := shr_small hji16
                      by_cases c17 : (Go.bits .and .u64 (ji16) 1) = 1
                      · rw [if_pos c17] at H
                        have c17b0 : ((Go.bits .and .u64 (ji16) 1) == 1) = true := beq_iff_eq.mpr c17
                        have c17b1 : ((Go.bits .and .u64 (ji16) 1) != 1) = false := bne_eq_false_iff_eq.mpr c17
                        clear c17
                        have c18b0 := eq_true (of_decide_eq_true (by first | (with_reducible assumption) | assumption) : 0 ≤ (ji12))
                        have H' := Aside0.mk H
                        clear H
                        go_wp2
                        go_roundg kj8
                        case measure => have := HJ4.out; have := HK2.out; have := HJ8.out; omega
                        case rel => exact ⟨(Go.bits .or .u64 (Go.bits .andNot .u64 x0_2 (ji14)) (ji14)), (wrap64 (x9_2 + 1)), (by first | rfl | (simp; done) | (simp only [← hji14] <;> (first | rfl | simp)) | (simp [*]; done)), (by first | rfl | (simp; done) | (simp [*]; done)), H', ⟨by have := HJ4.out; have := HK2.out; have := HJ8.out; omega⟩, by repeat (first | exact Drawn0.refl _ | apply Drawn0.step)⟩
                      · rw [if_neg c17] at H
                        have c17b0 : ((Go.bits .and .u64 (ji16) 1) == 1) = false := beq_eq_false_iff_ne.mpr c17
                        have c17b1 : ((Go.bits .and .u64 (ji16) 1) != 1) = true := bne_iff_ne.mpr c17
                        have H' := Aside0.mk H
                        clear H
                        go_wp2
                        go_roundg kj8
                        case measure => have := HJ4.out; have := HK2.out; have := HJ8.out; omega
                        case rel => exact ⟨(Go.bits .andNot .u64 x0_2 (ji14)), (wrap64 (x9_2 + 1)), (by first | rfl | (simp; done) | (simp only [← hji14] <;> (first | rfl | simp)) | (simp [*]; done)), (by first | rfl | (simp; done) | (simp [*]; done)), H', ⟨by have := HJ4.out; have := HK2.out; have := HJ8.out; omega⟩, by repeat (first | exact Drawn0.refl _ | apply Drawn0.step)⟩
                    · rw [if_neg c15] at H
                      exact absurd H (by simp)
                  · rw [if_neg c13] at H
                    exact absurd H (by simp)
                · replace c11 := Bool.eq_false_iff.mpr c11
                  subst c11
                  have H1 : (some x0_2) = some r := by rw [if_neg (show ¬ (false = true) by decide)] at H; exact H
                  clear H
                  have H := H1
                  clear H1
                  obtain rfl := Option.some.inj H
                  go_wp2
                  go_ret
                  exact ⟨by first | rfl | (simp; done) | (simp [*]; done), by repeat (first | exact Drawn0.refl _ | apply Drawn0.step)⟩

end Go.Proofs.YtedmbkhjpbdkjaaDoor.XI
