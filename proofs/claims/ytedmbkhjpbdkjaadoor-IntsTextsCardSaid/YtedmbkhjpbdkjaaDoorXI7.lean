-- laid by a program of this session (its print of the translation over its own contracts)
import Derived.Test.YtedmbkhjpbdkjaaDoorXI0
import Derived.Test.YtedmbkhjpbdkjaaDoorXI1
import Derived.Test.YtedmbkhjpbdkjaaDoorXI3
import Derived.Test.YtedmbkhjpbdkjaaDoorXI5
namespace Go.Proofs.YtedmbkhjpbdkjaaDoor.XI
open Go.Proofs.YtedmbkhjpbdkjaaDoor.Given
open Go.RowKit Go.Proofs.YtedmbkhjpbdkjaaDoorW.PrintWords Go.Proofs.YtedmbkhjpbdkjaaDoorW.PrintLast Go.Proofs.YtedmbkhjpbdkjaaDoorW.PrintMore
attribute [local go_sem] max2_int min2_int max_two min_two max_three min_three max_four min_four   -- for this text's walks alone
set_option linter.unusedVariables false
set_option linter.unusedSimpArgs false

/-! ### umlautlaw1_IntsLaws: function 12 -/
mutual
def umlautlaw1_IntsLaws.j0 : Nat → Int → Int → Int → Option (Bool)
  | 0, _, _, _ => none
  | k + 1, x0, x1, x2 => (ints_Mul.f x0 x1).bind fun bt249 => ((ints_Mul.f x1 x0).bind fun bt251 => (if bt249.1 = bt251.1 then (umlautlaw1_IntsLaws.j1 k x0 x1 x2 bt249.1 bt249.2 (bt249.2 != bt251.2)) else (umlautlaw1_IntsLaws.j1 k x0 x1 x2 bt249.1 bt249.2 true)))
def umlautlaw1_IntsLaws.j1 : Nat → Int → Int → Int → Int → Int → Bool → Option (Bool)
  | 0, _, _, _, _, _, _ => none
  | k + 1, x0, x1, x2, x13, x14, x78 => if x78 = true then (some false) else (if x14 = 0 then (umlautlaw1_IntsLaws.j2 k x0 x1 x2 x13 (x1 != 0)) else (umlautlaw1_IntsLaws.j2 k x0 x1 x2 x13 false))
def umlautlaw1_IntsLaws.j2 : Nat → Int → Int → Int → Int → Bool → Option (Bool)
  | 0, _, _, _, _, _ => none
  | k + 1, x0, x1, x2, x13, x84 => if x84 = true then ((ints_Div.f x13 x1).bind fun bt253 => (if bt253.2 = 0 then (if bt253.1 = x0 then (umlautlaw1_IntsLaws.j3 k x0 x2) else (some false)) else (some false))) else (umlautlaw1_IntsLaws.j3 k x0 x2)
def umlautlaw1_IntsLaws.j3 : Nat → Int → Int → Option (Bool)
  | 0, _, _ => none
  | k + 1, x0, x2 => (ints_Mod.f x0 x2).bind fun bt255 => (if x2 = 0 then (if bt255.2 = 18 then (if bt255.1 = 0 then ((umlautlaw1_awake.f k).bind fun t257 => (some t257)) else (some false)) else (some false)) else (if bt255.2 = 0 then (if x0 ≥ 0 then (if bt255.1 < 0 then (umlautlaw1_IntsLaws.j4 k x2 bt255.1 true) else (if x0 < 0 then (umlautlaw1_IntsLaws.j4 k x2 bt255.1 (decide (bt255.1 > 0))) else (umlautlaw1_IntsLaws.j4 k x2 bt255.1 false))) else (if x0 < 0 then (umlautlaw1_IntsLaws.j4 k x2 bt255.1 (decide (bt255.1 > 0))) else (umlautlaw1_IntsLaws.j4 k x2 bt255.1 false))) else (umlautlaw1_IntsLaws.j4 k x2 bt255.1 true)))
def umlautlaw1_IntsLaws.j4 : Nat → Int → Int → Bool → Option (Bool)
  | 0, _, _, _ => none
  | k + 1, x2, x19, x132 => if x132 = true then (some false) else (if x19 > 0 then (if x2 > 0 then (if (wrap64 (-x19)) > (wrap64 (-x2)) then ((umlautlaw1_awake.f k).bind fun t258 => (some t258)) else (some false)) else (if (wrap64 (-x19)) > x2 then ((umlautlaw1_awake.f k).bind fun t259 => (some t259)) else (some false))) else (if x2 > 0 then (if x19 > (wrap64 (-x2)) then ((umlautlaw1_awake.f k).bind fun t260 => (some t260)) else (some false)) else (if x19 > x2 then ((umlautlaw1_awake.f k).bind fun t261 => (some t261)) else (some false))))
end
def umlautlaw1_IntsLaws.f (k : Nat) (a0 : Int) (a1 : Int) (a2 : Int) : Option (Bool) := (ints_Add.f a0 a1).bind fun bt243 => (if bt243.2 = 0 then ((ints_Sub.f bt243.1 a1).bind fun bt245 => ((ints_Add.f a1 a0).bind fun bt247 => (if bt245.2 = 0 then (if bt245.1 = a0 then (if bt247.2 = 0 then (if bt247.1 = bt243.1 then (umlautlaw1_IntsLaws.j0 k a0 a1 a2) else (some false)) else (some false)) else (some false)) else (some false)))) else (umlautlaw1_IntsLaws.j0 k a0 a1 a2))
theorem umlautlaw1_IntsLaws.mono_l : ∀ k, (∀ y0 y1 y2, LeO (umlautlaw1_IntsLaws.j0 k y0 y1 y2) (umlautlaw1_IntsLaws.j0 (k + 1) y0 y1 y2)) ∧ (∀ y0 y1 y2 y3 y4 y5, LeO (umlautlaw1_IntsLaws.j1 k y0 y1 y2 y3 y4 y5) (umlautlaw1_IntsLaws.j1 (k + 1) y0 y1 y2 y3 y4 y5)) ∧ (∀ y0 y1 y2 y3 y4, LeO (umlautlaw1_IntsLaws.j2 k y0 y1 y2 y3 y4) (umlautlaw1_IntsLaws.j2 (k + 1) y0 y1 y2 y3 y4)) ∧ (∀ y0 y1, LeO (umlautlaw1_IntsLaws.j3 k y0 y1) (umlautlaw1_IntsLaws.j3 (k + 1) y0 y1)) ∧ (∀ y0 y1 y2, LeO (umlautlaw1_IntsLaws.j4 k y0 y1 y2) (umlautlaw1_IntsLaws.j4 (k + 1) y0 y1 y2))
  | 0 => ⟨fun _ _ _ r h => by simp [umlautlaw1_IntsLaws.j0] at h, fun _ _ _ _ _ _ r h => by simp [umlautlaw1_IntsLaws.j1] at h, fun _ _ _ _ _ r h => by simp [umlautlaw1_IntsLaws.j2] at h, fun _ _ r h => by simp [umlautlaw1_IntsLaws.j3] at h, fun _ _ _ r h => by simp [umlautlaw1_IntsLaws.j4] at h⟩
  | k + 1 => by
    obtain ⟨ih0, ih1, ih2, ih3, ih4⟩ := umlautlaw1_IntsLaws.mono_l k
    refine ⟨?_, ?_, ?_, ?_, ?_⟩
    · intro y0 y1 y2
      unfold umlautlaw1_IntsLaws.j0
      repeat' first
      | (with_reducible exact ih0 _ _ _)
      | (with_reducible exact ih1 _ _ _ _ _ _)
      | (with_reducible exact ih2 _ _ _ _ _)
      | (with_reducible exact ih3 _ _)
      | (with_reducible exact ih4 _ _ _)
      | (with_reducible exact umlautlaw1_awake.mono _)
      | (with_reducible exact LeO.refl _)
      | (with_reducible exact LeO.none _)
      | (with_reducible refine LeO.ite ?_ ?_)
      | (with_reducible refine LeO.bind ?_ (fun _ => ?_))
      | exact ih0 _ _ _
      | exact ih1 _ _ _ _ _ _
      | exact ih2 _ _ _ _ _
      | exact ih3 _ _
      | exact ih4 _ _ _
      | exact umlautlaw1_awake.mono _
      | exact LeO.none _
      | refine LeO.ite ?_ ?_
      | refine LeO.bind ?_ (fun _ => ?_)
    · intro y0 y1 y2 y3 y4 y5
      unfold umlautlaw1_IntsLaws.j1
      repeat' first
      | (with_reducible exact ih0 _ _ _)
      | (with_reducible exact ih1 _ _ _ _ _ _)
      | (with_reducible exact ih2 _ _ _ _ _)
      | (with_reducible exact ih3 _ _)
      | (with_reducible exact ih4 _ _ _)
      | (with_reducible exact umlautlaw1_awake.mono _)
      | (with_reducible exact LeO.refl _)
      | (with_reducible exact LeO.none _)
      | (with_reducible refine LeO.ite ?_ ?_)
      | (with_reducible refine LeO.bind ?_ (fun _ => ?_))
      | exact ih0 _ _ _
      | exact ih1 _ _ _ _ _ _
      | exact ih2 _ _ _ _ _
      | exact ih3 _ _
      | exact ih4 _ _ _
      | exact umlautlaw1_awake.mono _
      | exact LeO.none _
      | refine LeO.ite ?_ ?_
      | refine LeO.bind ?_ (fun _ => ?_)
    · intro y0 y1 y2 y3 y4
      unfold umlautlaw1_IntsLaws.j2
      repeat' first
      | (with_reducible exact ih0 _ _ _)
      | (with_reducible exact ih1 _ _ _ _ _ _)
      | (with_reducible exact ih2 _ _ _ _ _)
      | (with_reducible exact ih3 _ _)
      | (with_reducible exact ih4 _ _ _)
      | (with_reducible exact umlautlaw1_awake.mono _)
      | (with_reducible exact LeO.refl _)
      | (with_reducible exact LeO.none _)
      | (with_reducible refine LeO.ite ?_ ?_)
      | (with_reducible refine LeO.bind ?_ (fun _ => ?_))
      | exact ih0 _ _ _
      | exact ih1 _ _ _ _ _ _
      | exact ih2 _ _ _ _ _
      | exact ih3 _ _
      | exact ih4 _ _ _
      | exact umlautlaw1_awake.mono _
      | exact LeO.none _
      | refine LeO.ite ?_ ?_
      | refine LeO.bind ?_ (fun _ => ?_)
    · intro y0 y1
      unfold umlautlaw1_IntsLaws.j3
      repeat' first
      | (with_reducible exact ih0 _ _ _)
      | (with_reducible exact ih1 _ _ _ _ _ _)
      | (with_reducible exact ih2 _ _ _ _ _)
      | (with_reducible exact ih3 _ _)
      | (with_reducible exact ih4 _ _ _)
      | (with_reducible exact umlautlaw1_awake.mono _)
      | (with_reducible exact LeO.refl _)
      | (with_reducible exact LeO.none _)
      | (with_reducible refine LeO.ite ?_ ?_)
      | (with_reducible refine LeO.bind ?_ (fun _ => ?_))
      | exact ih0 _ _ _
      | exact ih1 _ _ _ _ _ _
      | exact ih2 _ _ _ _ _
      | exact ih3 _ _
      | exact ih4 _ _ _
      | exact umlautlaw1_awake.mono _
      | exact LeO.none _
      | refine LeO.ite ?_ ?_
      | refine LeO.bind ?_ (fun _ => ?_)
    · intro y0 y1 y2
      unfold umlautlaw1_IntsLaws.j4
      repeat' first
      | (with_reducible exact ih0 _ _ _)
      | (with_reducible exact ih1 _ _ _ _ _ _)
      | (with_reducible exact ih2 _ _ _ _ _)
      | (with_reducible exact ih3 _ _)
      | (with_reducible exact ih4 _ _ _)
      | (with_reducible exact umlautlaw1_awake.mono _)
      | (with_reducible exact LeO.refl _)
      | (with_reducible exact LeO.none _)
      | (with_reducible refine LeO.ite ?_ ?_)
      | (with_reducible refine LeO.bind ?_ (fun _ => ?_))
      | exact ih0 _ _ _
      | exact ih1 _ _ _ _ _ _
      | exact ih2 _ _ _ _ _
      | exact ih3 _ _
      | exact ih4 _ _ _
      | exact umlautlaw1_awake.mono _
      | exact LeO.none _
      | refine LeO.ite ?_ ?_
      | refine LeO.bind ?_ (fun _ => ?_)
theorem umlautlaw1_IntsLaws.mono : ∀ a0 a1 a2 k, LeO (umlautlaw1_IntsLaws.f k a0 a1 a2) (umlautlaw1_IntsLaws.f (k + 1) a0 a1 a2) := by
  intro a0 a1 a2 k
  obtain ⟨ih0, ih1, ih2, ih3, ih4⟩ := umlautlaw1_IntsLaws.mono_l k
  unfold umlautlaw1_IntsLaws.f
  repeat' first
      | (with_reducible exact ih0 _ _ _)
      | (with_reducible exact ih1 _ _ _ _ _ _)
      | (with_reducible exact ih2 _ _ _ _ _)
      | (with_reducible exact ih3 _ _)
      | (with_reducible exact ih4 _ _ _)
      | (with_reducible exact umlautlaw1_awake.mono _)
      | (with_reducible exact LeO.refl _)
      | (with_reducible exact LeO.none _)
      | (with_reducible refine LeO.ite ?_ ?_)
      | (with_reducible refine LeO.bind ?_ (fun _ => ?_))
      | exact ih0 _ _ _
      | exact ih1 _ _ _ _ _ _
      | exact ih2 _ _ _ _ _
      | exact ih3 _ _
      | exact ih4 _ _ _
      | exact umlautlaw1_awake.mono _
      | exact LeO.none _
      | refine LeO.ite ?_ ?_
      | refine LeO.bind ?_ (fun _ => ?_)
set_option maxHeartbeats 8000000 in
set_option maxRecDepth 100000 in
theorem umlautlaw1_IntsLaws.calls (k : Nat) (a0 : Int) (a1 : Int) (a2 : Int) (r : Bool) (w : World) (hG0 : GW w) (h : umlautlaw1_IntsLaws.f k a0 a1 a2 = some r) :
    Calls Tryd.prog 12 #[.int .i64 a0, .int .i64 a1, .int .i64 a2] w fun e w' => e = .returned (.bool r) ∧ Below w.heap.size w w' := by
  have HG := Aside0.mk hG0
  clear hG0
  have HB := Aside0.mk (Below.refl w.heap.size w)
  have H : ((ints_Add.f a0 a1).bind fun bt243 => (if bt243.2 = 0 then ((ints_Sub.f bt243.1 a1).bind fun bt245 => ((ints_Add.f a1 a0).bind fun bt247 => (if bt245.2 = 0 then (if bt245.1 = a0 then (if bt247.2 = 0 then (if bt247.1 = bt243.1 then (umlautlaw1_IntsLaws.j0 k a0 a1 a2) else (some false)) else (some false)) else (some false)) else (some false)))) else (umlautlaw1_IntsLaws.j0 k a0 a1 a2))) = some r := h
  clear h
  replace H := Option.bind_eq_some_iff.mp H
  obtain ⟨⟨t243, t244⟩, A40, H⟩ := H
  replace H : (if t244 = 0 then ((ints_Sub.f t243 a1).bind fun bt245 => ((ints_Add.f a1 a0).bind fun bt247 => (if bt245.2 = 0 then (if bt245.1 = a0 then (if bt247.2 = 0 then (if bt247.1 = t243 then (umlautlaw1_IntsLaws.j0 k a0 a1 a2) else (some false)) else (some false)) else (some false)) else (some false)))) else (umlautlaw1_IntsLaws.j0 k a0 a1 a2)) = some r := H
  have A4 := Aside0.mk A40
  clear A40
  have HC5 := Aside0.mk H
  clear H
  go_enter Tryd.func12, Tryd.ntmps12
  go_upto_if 30 with (first | ((with_reducible refine gate_callee (f := 29) rfl ?_); refine goesL_ (some 26) rfl rfl Tryd.func29 (by kernel_rfl) rfl #[.int .i64 a0, .int .i64 a1] rfl (by (try simp only [List.map_toArray, List.map_cons, List.map_nil]); first | done | rfl | (simp only [List.length_drop, List.length_take]; rfl)) ?_; (with_reducible refine (ints_Add.calls a0 a1 t243 t244 _ A4.out).mono ?_); rintro e w' ⟨rfl, ⟨nd, rfl⟩⟩; refine ⟨_, rfl, ?_⟩))
  (try simp only [Act.put, List.setIfInBounds_toArray, List.set_cons_zero, List.set_cons_succ])
  go_cut [] (fun wc => ∃ (kq : Nat), Aside0 (umlautlaw1_IntsLaws.j0 kq a0 a1 a2 = some r) ∧ Aside0 (kq ≤ k) ∧ Aside0 (Below w.heap.size w wc))
  case first =>
    have H := HC5.out
    clear HC5
    by_cases c6 : t244 = 0
    · rw [if_pos c6] at H
      have c6b0 : (t244 == 0) = true := beq_iff_eq.mpr c6
      have c6b1 : (t244 != 0) = false := bne_eq_false_iff_eq.mpr c6
      clear c6
      (first | rw [c6b0] | (simp only [i64_w, i32_w]; rw [c6b0]) | skip)
      replace H := Option.bind_eq_some_iff.mp H
      obtain ⟨⟨t245, t246⟩, A70, H⟩ := H
      replace H : ((ints_Add.f a1 a0).bind fun bt247 => (if t246 = 0 then (if t245 = a0 then (if bt247.2 = 0 then (if bt247.1 = t243 then (umlautlaw1_IntsLaws.j0 k a0 a1 a2) else (some false)) else (some false)) else (some false)) else (some false))) = some r := H
      have A7 := Aside0.mk A70
      clear A70
      replace H := Option.bind_eq_some_iff.mp H
      obtain ⟨⟨t247, t248⟩, A80, H⟩ := H
      replace H : (if t246 = 0 then (if t245 = a0 then (if t248 = 0 then (if t247 = t243 then (umlautlaw1_IntsLaws.j0 k a0 a1 a2) else (some false)) else (some false)) else (some false)) else (some false)) = some r := H
      have A8 := Aside0.mk A80
      clear A80
      by_cases c9 : t246 = 0
      · rw [if_pos c9] at H
        have c9b0 : (t246 == 0) = true := beq_iff_eq.mpr c9
        have c9b1 : (t246 != 0) = false := bne_eq_false_iff_eq.mpr c9
        clear c9
        by_cases c10 : t245 = a0
        · rw [if_pos c10] at H
          have c10b0 : (t245 == a0) = true := beq_iff_eq.mpr c10
          have c10b1 : (t245 != a0) = false := bne_eq_false_iff_eq.mpr c10
          clear c10
          by_cases c11 : t248 = 0
          · rw [if_pos c11] at H
            have c11b0 : (t248 == 0) = true := beq_iff_eq.mpr c11
            have c11b1 : (t248 != 0) = false := bne_eq_false_iff_eq.mpr c11
            clear c11
            by_cases c12 : t247 = t243
            · rw [if_pos c12] at H
              have c12b0 : (t247 == t243) = true := beq_iff_eq.mpr c12
              have c12b1 : (t247 != t243) = false := bne_eq_false_iff_eq.mpr c12
              clear c12
              have H' := Aside0.mk H
              clear H
              go_wp2_with (first | ((with_reducible refine gate_callee (f := 31) rfl ?_); refine goesL_ (some 34) rfl rfl Tryd.func31 (by kernel_rfl) rfl #[.int .i64 t243, .int .i64 a1] rfl (by (try simp only [List.map_toArray, List.map_cons, List.map_nil]); first | done | rfl | (simp only [List.length_drop, List.length_take]; rfl)) ?_; (with_reducible refine (ints_Sub.calls t243 a1 t245 t246 _ A7.out).mono ?_); rintro e w' ⟨rfl, ⟨nd, rfl⟩⟩; refine ⟨_, rfl, ?_⟩) | ((with_reducible refine gate_callee (f := 29) rfl ?_); refine goesL_ (some 40) rfl rfl Tryd.func29 (by kernel_rfl) rfl #[.int .i64 a1, .int .i64 a0] rfl (by (try simp only [List.map_toArray, List.map_cons, List.map_nil]); first | done | rfl | (simp only [List.length_drop, List.length_take]; rfl)) ?_; (with_reducible refine (ints_Add.calls a1 a0 t247 t248 _ A8.out).mono ?_); rintro e w' ⟨rfl, ⟨nd, rfl⟩⟩; refine ⟨_, rfl, ?_⟩))
              go_meet
              case rel => exact ⟨_, H', ⟨by first | omega | exact Nat.le_refl _⟩, ⟨by repeat (first | (with_reducible first | exact HB.out | apply below_alloc | apply pw_below_drewN | apply below_drew1) | exact HB.out)⟩⟩
            · rw [if_neg c12] at H
              have c12b0 : (t247 == t243) = false := beq_eq_false_iff_ne.mpr c12
              have c12b1 : (t247 != t243) = true := bne_iff_ne.mpr c12
              obtain rfl := Option.some.inj H
              go_wp2_with (first | ((with_reducible refine gate_callee (f := 31) rfl ?_); refine goesL_ (some 34) rfl rfl Tryd.func31 (by kernel_rfl) rfl #[.int .i64 t243, .int .i64 a1] rfl (by (try simp only [List.map_toArray, List.map_cons, List.map_nil]); first | done | rfl | (simp only [List.length_drop, List.length_take]; rfl)) ?_; (with_reducible refine (ints_Sub.calls t243 a1 t245 t246 _ A7.out).mono ?_); rintro e w' ⟨rfl, ⟨nd, rfl⟩⟩; refine ⟨_, rfl, ?_⟩) | ((with_reducible refine gate_callee (f := 29) rfl ?_); refine goesL_ (some 40) rfl rfl Tryd.func29 (by kernel_rfl) rfl #[.int .i64 a1, .int .i64 a0] rfl (by (try simp only [List.map_toArray, List.map_cons, List.map_nil]); first | done | rfl | (simp only [List.length_drop, List.length_take]; rfl)) ?_; (with_reducible refine (ints_Add.calls a1 a0 t247 t248 _ A8.out).mono ?_); rintro e w' ⟨rfl, ⟨nd, rfl⟩⟩; refine ⟨_, rfl, ?_⟩))
              go_ret
              exact ⟨by first | rfl | (simp [errW_none, errW_some] <;> rfl) | (simp [*, errW_none, errW_some] <;> rfl), by repeat (first | (with_reducible first | exact HB.out | apply below_alloc | apply pw_below_drewN | apply below_drew1) | exact HB.out)⟩
          · rw [if_neg c11] at H
            have c11b0 : (t248 == 0) = false := beq_eq_false_iff_ne.mpr c11
            have c11b1 : (t248 != 0) = true := bne_iff_ne.mpr c11
            obtain rfl := Option.some.inj H
            go_wp2_with (first | ((with_reducible refine gate_callee (f := 31) rfl ?_); refine goesL_ (some 34) rfl rfl Tryd.func31 (by kernel_rfl) rfl #[.int .i64 t243, .int .i64 a1] rfl (by (try simp only [List.map_toArray, List.map_cons, List.map_nil]); first | done | rfl | (simp only [List.length_drop, List.length_take]; rfl)) ?_; (with_reducible refine (ints_Sub.calls t243 a1 t245 t246 _ A7.out).mono ?_); rintro e w' ⟨rfl, ⟨nd, rfl⟩⟩; refine ⟨_, rfl, ?_⟩) | ((with_reducible refine gate_callee (f := 29) rfl ?_); refine goesL_ (some 40) rfl rfl Tryd.func29 (by kernel_rfl) rfl #[.int .i64 a1, .int .i64 a0] rfl (by (try simp only [List.map_toArray, List.map_cons, List.map_nil]); first | done | rfl | (simp only [List.length_drop, List.length_take]; rfl)) ?_; (with_reducible refine (ints_Add.calls a1 a0 t247 t248 _ A8.out).mono ?_); rintro e w' ⟨rfl, ⟨nd, rfl⟩⟩; refine ⟨_, rfl, ?_⟩))
            go_ret
            exact ⟨by first | rfl | (simp [errW_none, errW_some] <;> rfl) | (simp [*, errW_none, errW_some] <;> rfl), by repeat (first | (with_reducible first | exact HB.out | apply below_alloc | apply pw_below_drewN | apply below_drew1) | exact HB.out)⟩
        · rw [if_neg c10] at H
          have c10b0 : (t245 == a0) = false := beq_eq_false_iff_ne.mpr c10
          have c10b1 : (t245 != a0) = true := bne_iff_ne.mpr c10
          obtain rfl := Option.some.inj H
          go_wp2_with (first | ((with_reducible refine gate_callee (f := 31) rfl ?_); refine goesL_ (some 34) rfl rfl Tryd.func31 (by kernel_rfl) rfl #[.int .i64 t243, .int .i64 a1] rfl (by (try simp only [List.map_toArray, List.map_cons, List.map_nil]); first | done | rfl | (simp only [List.length_drop, List.length_take]; rfl)) ?_; (with_reducible refine (ints_Sub.calls t243 a1 t245 t246 _ A7.out).mono ?_); rintro e w' ⟨rfl, ⟨nd, rfl⟩⟩; refine ⟨_, rfl, ?_⟩) | ((with_reducible refine gate_callee (f := 29) rfl ?_); refine goesL_ (some 40) rfl rfl Tryd.func29 (by kernel_rfl) rfl #[.int .i64 a1, .int .i64 a0] rfl (by (try simp only [List.map_toArray, List.map_cons, List.map_nil]); first | done | rfl | (simp only [List.length_drop, List.length_take]; rfl)) ?_; (with_reducible refine (ints_Add.calls a1 a0 t247 t248 _ A8.out).mono ?_); rintro e w' ⟨rfl, ⟨nd, rfl⟩⟩; refine ⟨_, rfl, ?_⟩))
          go_ret
          exact ⟨by first | rfl | (simp [errW_none, errW_some] <;> rfl) | (simp [*, errW_none, errW_some] <;> rfl), by repeat (first | (with_reducible first | exact HB.out | apply below_alloc | apply pw_below_drewN | apply below_drew1) | exact HB.out)⟩
      · rw [if_neg c9] at H
        have c9b0 : (t246 == 0) = false := beq_eq_false_iff_ne.mpr c9
        have c9b1 : (t246 != 0) = true := bne_iff_ne.mpr c9
        obtain rfl := Option.some.inj H
        go_wp2_with (first | ((with_reducible refine gate_callee (f := 31) rfl ?_); refine goesL_ (some 34) rfl rfl Tryd.func31 (by kernel_rfl) rfl #[.int .i64 t243, .int .i64 a1] rfl (by (try simp only [List.map_toArray, List.map_cons, List.map_nil]); first | done | rfl | (simp only [List.length_drop, List.length_take]; rfl)) ?_; (with_reducible refine (ints_Sub.calls t243 a1 t245 t246 _ A7.out).mono ?_); rintro e w' ⟨rfl, ⟨nd, rfl⟩⟩; refine ⟨_, rfl, ?_⟩) | ((with_reducible refine gate_callee (f := 29) rfl ?_); refine goesL_ (some 40) rfl rfl Tryd.func29 (by kernel_rfl) rfl #[.int .i64 a1, .int .i64 a0] rfl (by (try simp only [List.map_toArray, List.map_cons, List.map_nil]); first | done | rfl | (simp only [List.length_drop, List.length_take]; rfl)) ?_; (with_reducible refine (ints_Add.calls a1 a0 t247 t248 _ A8.out).mono ?_); rintro e w' ⟨rfl, ⟨nd, rfl⟩⟩; refine ⟨_, rfl, ?_⟩))
        go_ret
        exact ⟨by first | rfl | (simp [errW_none, errW_some] <;> rfl) | (simp [*, errW_none, errW_some] <;> rfl), by repeat (first | (with_reducible first | exact HB.out | apply below_alloc | apply pw_below_drewN | apply below_drew1) | exact HB.out)⟩
    · rw [if_neg c6] at H
      have c6b0 : (t244 == 0) = false := beq_eq_false_iff_ne.mpr c6
      have c6b1 : (t244 != 0) = true := bne_iff_ne.mpr c6
      (first | rw [c6b0] | (simp only [i64_w, i32_w]; rw [c6b0]) | skip)
      have H' := Aside0.mk H
      clear H
      go_wp2
      go_meet
      case rel => exact ⟨_, H', ⟨by first | omega | exact Nat.le_refl _⟩, ⟨by repeat (first | (with_reducible first | exact HB.out | apply below_alloc | apply pw_below_drewN | apply below_drew1) | exact HB.out)⟩⟩
  case rest =>
    clear HC5
    try clear c1
    try clear c2
    try clear p2
    try clear c3
    try clear c6
    try clear c6b0
    try clear c6b1
    try clear c9
    try clear c9b0
    try clear c9b1
    try clear c10
    try clear c10b0
    try clear c10b1
    try clear c11
    try clear c11b0
    try clear c11b1
    try clear c12
    try clear c12b0
    try clear c12b1
    obtain ⟨kq, HA, HJ4, HB⟩ := hcut
    cases kq with
    | zero => exact absurd HA.out (by simp [umlautlaw1_IntsLaws.j0])
    | succ kj4 =>
      have H := HA.out
      clear HA
      simp only [umlautlaw1_IntsLaws.j0] at H
      replace H := Option.bind_eq_some_iff.mp H
      obtain ⟨⟨t249, t250⟩, A130, H⟩ := H
      replace H : ((ints_Mul.f a1 a0).bind fun bt251 => (if t249 = bt251.1 then (umlautlaw1_IntsLaws.j1 kj4 a0 a1 a2 t249 t250 (t250 != bt251.2)) else (umlautlaw1_IntsLaws.j1 kj4 a0 a1 a2 t249 t250 true))) = some r := H
      have A13 := Aside0.mk A130
      clear A130
      replace H := Option.bind_eq_some_iff.mp H
      obtain ⟨⟨t251, t252⟩, A140, H⟩ := H
      replace H : (if t249 = t251 then (umlautlaw1_IntsLaws.j1 kj4 a0 a1 a2 t249 t250 (t250 != t252)) else (umlautlaw1_IntsLaws.j1 kj4 a0 a1 a2 t249 t250 true)) = some r := H
      have A14 := Aside0.mk A140
      clear A140
      have HC15 := Aside0.mk H
      clear H
      go_upto_region 9 with (first | ((with_reducible refine gate_callee (f := 39) rfl ?_); refine goesL_ (some 62) rfl rfl Tryd.func39 (by kernel_rfl) rfl #[.int .i64 a0, .int .i64 a1] rfl (by (try simp only [List.map_toArray, List.map_cons, List.map_nil]); first | done | rfl | (simp only [List.length_drop, List.length_take]; rfl)) ?_; (with_reducible refine (ints_Mul.calls a0 a1 t249 t250 _ A13.out).mono ?_); rintro e w' ⟨rfl, ⟨nd, rfl⟩⟩; refine ⟨_, rfl, ?_⟩) | ((with_reducible refine gate_callee (f := 39) rfl ?_); refine goesL_ (some 68) rfl rfl Tryd.func39 (by kernel_rfl) rfl #[.int .i64 a1, .int .i64 a0] rfl (by (try simp only [List.map_toArray, List.map_cons, List.map_nil]); first | done | rfl | (simp only [List.length_drop, List.length_take]; rfl)) ?_; (with_reducible refine (ints_Mul.calls a1 a0 t251 t252 _ A14.out).mono ?_); rintro e w' ⟨rfl, ⟨nd, rfl⟩⟩; refine ⟨_, rfl, ?_⟩))
      (try simp only [Act.put, List.setIfInBounds_toArray, List.set_cons_zero, List.set_cons_succ])
      go_cut [78] (fun v78 wc => ∃ (kq : Nat) (x78_14 : Bool), v78 = .bool x78_14 ∧ Aside0 (umlautlaw1_IntsLaws.j1 kq a0 a1 a2 t249 t250 x78_14 = some r) ∧ Aside0 (kq ≤ kj4) ∧ Aside0 (Below w.heap.size w wc))
      case first =>
        have H := HC15.out
        clear HC15
        by_cases c16 : t249 = t251
        · rw [if_pos c16] at H
          have c16b0 : (t249 == t251) = true := beq_iff_eq.mpr c16
          have c16b1 : (t249 != t251) = false := bne_eq_false_iff_eq.mpr c16
          clear c16
          (first | rw [c16b0] | (simp only [i64_w, i32_w]; rw [c16b0]) | skip)
          have H' := Aside0.mk H
          clear H
          go_wp2
          go_meet
          case rel => exact ⟨_, ((t250 != t252)), (by first | rfl | (simp; done) | (simp [*]; done)), H', ⟨by have := HJ4.out; first | omega | exact Nat.le_refl _⟩, ⟨by repeat (first | (with_reducible first | exact HB.out | apply below_alloc | apply pw_below_drewN | apply below_drew1) | exact HB.out)⟩⟩
        · rw [if_neg c16] at H
          have c16b0 : (t249 == t251) = false := beq_eq_false_iff_ne.mpr c16
          have c16b1 : (t249 != t251) = true := bne_iff_ne.mpr c16
          (first | rw [c16b0] | (simp only [i64_w, i32_w]; rw [c16b0]) | skip)
          have H' := Aside0.mk H
          clear H
          go_wp2
          go_meet
          case rel => exact ⟨_, (true), (by first | rfl | (simp; done) | (simp [*]; done)), H', ⟨by have := HJ4.out; first | omega | exact Nat.le_refl _⟩, ⟨by repeat (first | (with_reducible first | exact HB.out | apply below_alloc | apply pw_below_drewN | apply below_drew1) | exact HB.out)⟩⟩
      case rest =>
        clear HC15
        try clear c1
        try clear c2
        try clear p2
        try clear c3
        try clear c6
        try clear c6b0
        try clear c6b1
        try clear c9
        try clear c9b0
        try clear c9b1
        try clear c10
        try clear c10b0
        try clear c10b1
        try clear c11
        try clear c11b0
        try clear c11b1
        try clear c12
        try clear c12b0
        try clear c12b1
        try clear c16
        try clear c16b0
        try clear c16b1
        try clear p2
        obtain ⟨kq, x78_14, rfl, HA, HJ14, HB⟩ := hcut
        cases kq with
        | zero => exact absurd HA.out (by simp [umlautlaw1_IntsLaws.j1])
        | succ kj14 =>
          have H := HA.out
          clear HA
          simp only [umlautlaw1_IntsLaws.j1] at H
          by_cases c17 : x78_14 = true
          · subst c17
            have H1 : (some false) = some r := by rw [if_pos rfl] at H; exact H
            clear H
            have H := H1
            clear H1
            obtain rfl := Option.some.inj H
            go_wp2
            go_ret
            exact ⟨by first | rfl | (simp [errW_none, errW_some] <;> rfl) | (simp [*, errW_none, errW_some] <;> rfl), by repeat (first | (with_reducible first | exact HB.out | apply below_alloc | apply pw_below_drewN | apply below_drew1) | exact HB.out)⟩
          · replace c17 := Bool.eq_false_iff.mpr c17
            subst c17
            have H1 : (if t250 = 0 then (umlautlaw1_IntsLaws.j2 kj14 a0 a1 a2 t249 (a1 != 0)) else (umlautlaw1_IntsLaws.j2 kj14 a0 a1 a2 t249 false)) = some r := by rw [if_neg (show ¬ (false = true) by decide)] at H; exact H
            clear H
            have H := H1
            clear H1
            have HC18 := Aside0.mk H
            clear H
            go_upto_region 11 with (fail)
            go_cut [84] (fun v84 wc => ∃ (kq : Nat) (x84_17 : Bool), v84 = .bool x84_17 ∧ Aside0 (umlautlaw1_IntsLaws.j2 kq a0 a1 a2 t249 x84_17 = some r) ∧ Aside0 (kq ≤ kj14) ∧ Aside0 (Below w.heap.size w wc))
            case first =>
              have H := HC18.out
              clear HC18
              by_cases c19 : t250 = 0
              · rw [if_pos c19] at H
                have c19b0 : (t250 == 0) = true := beq_iff_eq.mpr c19
                have c19b1 : (t250 != 0) = false := bne_eq_false_iff_eq.mpr c19
                clear c19
                (first | rw [c19b0] | (simp only [i64_w, i32_w]; rw [c19b0]) | skip)
                have H' := Aside0.mk H
                clear H
                go_wp2
                go_meet
                case rel => exact ⟨_, ((a1 != 0)), (by first | rfl | (simp; done) | (simp [*]; done)), H', ⟨by have := HJ4.out; have := HJ14.out; first | omega | exact Nat.le_refl _⟩, ⟨by repeat (first | (with_reducible first | exact HB.out | apply below_alloc | apply pw_below_drewN | apply below_drew1) | exact HB.out)⟩⟩
              · rw [if_neg c19] at H
                have c19b0 : (t250 == 0) = false := beq_eq_false_iff_ne.mpr c19
                have c19b1 : (t250 != 0) = true := bne_iff_ne.mpr c19
                (first | rw [c19b0] | (simp only [i64_w, i32_w]; rw [c19b0]) | skip)
                have H' := Aside0.mk H
                clear H
                go_wp2
                go_meet
                case rel => exact ⟨_, (false), (by first | rfl | (simp; done) | (simp [*]; done)), H', ⟨by have := HJ4.out; have := HJ14.out; first | omega | exact Nat.le_refl _⟩, ⟨by repeat (first | (with_reducible first | exact HB.out | apply below_alloc | apply pw_below_drewN | apply below_drew1) | exact HB.out)⟩⟩
            case rest =>
              clear HC18
              try clear c1
              try clear c2
              try clear p2
              try clear c3
              try clear c6
              try clear c6b0
              try clear c6b1
              try clear c9
              try clear c9b0
              try clear c9b1
              try clear c10
              try clear c10b0
              try clear c10b1
              try clear c11
              try clear c11b0
              try clear c11b1
              try clear c12
              try clear c12b0
              try clear c12b1
              try clear c16
              try clear c16b0
              try clear c16b1
              try clear c17
              try clear c19
              try clear c19b0
              try clear c19b1
              try clear p2
              obtain ⟨kq, x84_17, rfl, HA, HJ17, HB⟩ := hcut
              cases kq with
              | zero => exact absurd HA.out (by simp [umlautlaw1_IntsLaws.j2])
              | succ kj17 =>
                have H := HA.out
                clear HA
                simp only [umlautlaw1_IntsLaws.j2] at H
                have HC20 := Aside0.mk H
                clear H
                go_upto_if 84 with (fail)
                go_cut [] (fun wc => ∃ (kq : Nat), Aside0 (umlautlaw1_IntsLaws.j3 kq a0 a2 = some r) ∧ Aside0 (kq ≤ kj17) ∧ Aside0 (Below w.heap.size w wc))
                case first =>
                  have H := HC20.out
                  clear HC20
                  by_cases c21 : x84_17 = true
                  · subst c21
                    have H1 : ((ints_Div.f t249 a1).bind fun bt253 => (if bt253.2 = 0 then (if bt253.1 = a0 then (umlautlaw1_IntsLaws.j3 kj17 a0 a2) else (some false)) else (some false))) = some r := by rw [if_pos rfl] at H; exact H
                    clear H
                    have H := H1
                    clear H1
                    replace H := Option.bind_eq_some_iff.mp H
                    obtain ⟨⟨t253, t254⟩, A220, H⟩ := H
                    replace H : (if t254 = 0 then (if t253 = a0 then (umlautlaw1_IntsLaws.j3 kj17 a0 a2) else (some false)) else (some false)) = some r := H
                    have A22 := Aside0.mk A220
                    clear A220
                    by_cases c23 : t254 = 0
                    · rw [if_pos c23] at H
                      have c23b0 : (t254 == 0) = true := beq_iff_eq.mpr c23
                      have c23b1 : (t254 != 0) = false := bne_eq_false_iff_eq.mpr c23
                      clear c23
                      (first | rw [c23b0] | (simp only [i64_w, i32_w]; rw [c23b0]) | skip)
                      by_cases c24 : t253 = a0
                      · rw [if_pos c24] at H
                        have c24b0 : (t253 == a0) = true := beq_iff_eq.mpr c24
                        have c24b1 : (t253 != a0) = false := bne_eq_false_iff_eq.mpr c24
                        clear c24
                        have H' := Aside0.mk H
                        clear H
                        go_wp2_with (first | ((with_reducible refine gate_callee (f := 37) rfl ?_); refine goesL_ (some 88) rfl rfl Tryd.func37 (by kernel_rfl) rfl #[.int .i64 t249, .int .i64 a1] rfl (by (try simp only [List.map_toArray, List.map_cons, List.map_nil]); first | done | rfl | (simp only [List.length_drop, List.length_take]; rfl)) ?_; (with_reducible refine (ints_Div.calls t249 a1 t253 t254 _ A22.out).mono ?_); rintro e w' ⟨rfl, ⟨nd, rfl⟩⟩; refine ⟨_, rfl, ?_⟩))
                        go_meet
                        case rel => exact ⟨_, H', ⟨by have := HJ4.out; have := HJ14.out; have := HJ17.out; first | omega | exact Nat.le_refl _⟩, ⟨by repeat (first | (with_reducible first | exact HB.out | apply below_alloc | apply pw_below_drewN | apply below_drew1) | exact HB.out)⟩⟩
                      · rw [if_neg c24] at H
                        have c24b0 : (t253 == a0) = false := beq_eq_false_iff_ne.mpr c24
                        have c24b1 : (t253 != a0) = true := bne_iff_ne.mpr c24
                        obtain rfl := Option.some.inj H
                        go_wp2_with (first | ((with_reducible refine gate_callee (f := 37) rfl ?_); refine goesL_ (some 88) rfl rfl Tryd.func37 (by kernel_rfl) rfl #[.int .i64 t249, .int .i64 a1] rfl (by (try simp only [List.map_toArray, List.map_cons, List.map_nil]); first | done | rfl | (simp only [List.length_drop, List.length_take]; rfl)) ?_; (with_reducible refine (ints_Div.calls t249 a1 t253 t254 _ A22.out).mono ?_); rintro e w' ⟨rfl, ⟨nd, rfl⟩⟩; refine ⟨_, rfl, ?_⟩))
                        go_ret
                        exact ⟨by first | rfl | (simp [errW_none, errW_some] <;> rfl) | (simp [*, errW_none, errW_some] <;> rfl), by repeat (first | (with_reducible first | exact HB.out | apply below_alloc | apply pw_below_drewN | apply below_drew1) | exact HB.out)⟩
                    · rw [if_neg c23] at H
                      have c23b0 : (t254 == 0) = false := beq_eq_false_iff_ne.mpr c23
                      have c23b1 : (t254 != 0) = true := bne_iff_ne.mpr c23
                      (first | rw [c23b0] | (simp only [i64_w, i32_w]; rw [c23b0]) | skip)
                      obtain rfl := Option.some.inj H
                      go_wp2_with (first | ((with_reducible refine gate_callee (f := 37) rfl ?_); refine goesL_ (some 88) rfl rfl Tryd.func37 (by kernel_rfl) rfl #[.int .i64 t249, .int .i64 a1] rfl (by (try simp only [List.map_toArray, List.map_cons, List.map_nil]); first | done | rfl | (simp only [List.length_drop, List.length_take]; rfl)) ?_; (with_reducible refine (ints_Div.calls t249 a1 t253 t254 _ A22.out).mono ?_); rintro e w' ⟨rfl, ⟨nd, rfl⟩⟩; refine ⟨_, rfl, ?_⟩))
                      go_ret
                      exact ⟨by first | rfl | (simp [errW_none, errW_some] <;> rfl) | (simp [*, errW_none, errW_some] <;> rfl), by repeat (first | (with_reducible first | exact HB.out | apply below_alloc | apply pw_below_drewN | apply below_drew1) | exact HB.out)⟩
                  · replace c21 := Bool.eq_false_iff.mpr c21
                    subst c21
                    have H1 : (umlautlaw1_IntsLaws.j3 kj17 a0 a2) = some r := by rw [if_neg (show ¬ (false = true) by decide)] at H; exact H
                    clear H
                    have H := H1
                    clear H1
                    have H' := Aside0.mk H
                    clear H
                    go_wp2
                    go_meet
                    case rel => exact ⟨_, H', ⟨by have := HJ4.out; have := HJ14.out; have := HJ17.out; first | omega | exact Nat.le_refl _⟩, ⟨by repeat (first | (with_reducible first | exact HB.out | apply below_alloc | apply pw_below_drewN | apply below_drew1) | exact HB.out)⟩⟩
                case rest =>
                  clear HC20
                  try clear c1
                  try clear c2
                  try clear p2
                  try clear c3
                  try clear c6
                  try clear c6b0
                  try clear c6b1
                  try clear c9
                  try clear c9b0
                  try clear c9b1
                  try clear c10
                  try clear c10b0
                  try clear c10b1
                  try clear c11
                  try clear c11b0
                  try clear c11b1
                  try clear c12
                  try clear c12b0
                  try clear c12b1
                  try clear c16
                  try clear c16b0
                  try clear c16b1
                  try clear c17
                  try clear c19
                  try clear c19b0
                  try clear c19b1
                  try clear c21
                  try clear c23
                  try clear c23b0
                  try clear c23b1
                  try clear c24
                  try clear c24b0
                  try clear c24b1
                  try clear p2
                  obtain ⟨kq, HA, HJ19, HB⟩ := hcut
                  cases kq with
                  | zero => exact absurd HA.out (by simp [umlautlaw1_IntsLaws.j3])
                  | succ kj19 =>
                    have H := HA.out
                    clear HA
                    simp only [umlautlaw1_IntsLaws.j3] at H
                    replace H := Option.bind_eq_some_iff.mp H
                    obtain ⟨⟨t255, t256⟩, A250, H⟩ := H
                    replace H : (if a2 = 0 then (if t256 = 18 then (if t255 = 0 then ((umlautlaw1_awake.f kj19).bind fun t257 => (some t257)) else (some false)) else (some false)) else (if t256 = 0 then (if a0 ≥ 0 then (if t255 < 0 then (umlautlaw1_IntsLaws.j4 kj19 a2 t255 true) else (if a0 < 0 then (umlautlaw1_IntsLaws.j4 kj19 a2 t255 (decide (t255 > 0))) else (umlautlaw1_IntsLaws.j4 kj19 a2 t255 false))) else (if a0 < 0 then (umlautlaw1_IntsLaws.j4 kj19 a2 t255 (decide (t255 > 0))) else (umlautlaw1_IntsLaws.j4 kj19 a2 t255 false))) else (umlautlaw1_IntsLaws.j4 kj19 a2 t255 true))) = some r := H
                    have A25 := Aside0.mk A250
                    clear A250
                    by_cases c26 : a2 = 0
                    · rw [if_pos c26] at H
                      have c26b0 : (a2 == 0) = true := beq_iff_eq.mpr c26
                      have c26b1 : (a2 != 0) = false := bne_eq_false_iff_eq.mpr c26
                      clear c26
                      by_cases c27 : t256 = 18
                      · rw [if_pos c27] at H
                        have c27b0 : (t256 == 18) = true := beq_iff_eq.mpr c27
                        have c27b1 : (t256 != 18) = false := bne_eq_false_iff_eq.mpr c27
                        clear c27
                        by_cases c28 : t255 = 0
                        · rw [if_pos c28] at H
                          have c28b0 : (t255 == 0) = true := beq_iff_eq.mpr c28
                          have c28b1 : (t255 != 0) = false := bne_eq_false_iff_eq.mpr c28
                          clear c28
                          replace H := Option.bind_eq_some_iff.mp H
                          obtain ⟨t257, A290, H⟩ := H
                          replace H : (some t257) = some r := H
                          have A29 := Aside0.mk A290
                          clear A290
                          obtain rfl := Option.some.inj H
                          go_wp2_with (first | ((with_reducible refine gate_callee (f := 38) rfl ?_); refine goesL_ (some 101) rfl rfl Tryd.func38 (by kernel_rfl) rfl #[.int .i64 a0, .int .i64 a2] rfl (by (try simp only [List.map_toArray, List.map_cons, List.map_nil]); first | done | rfl | (simp only [List.length_drop, List.length_take]; rfl)) ?_; (with_reducible refine (ints_Mod.calls a0 a2 t255 t256 _ A25.out).mono ?_); rintro e w' ⟨rfl, ⟨nd, rfl⟩⟩; refine ⟨_, rfl, ?_⟩) | (go_at_call 19; (with_reducible refine (umlautlaw1_awake.calls kj19  t257 _ ?side1 A29.out).mono ?_); (case side1 => exact GW.below HG.out (by repeat (first | (with_reducible first | exact HB.out | apply below_alloc | apply pw_below_drewN | apply below_drew1) | exact HB.out))); rintro e w30 ⟨rfl, hb⟩; have n0_ := Aside0.mk (below_step (by repeat (first | (with_reducible first | exact HB.out | apply below_alloc | apply pw_below_drewN | apply below_drew1) | exact HB.out)) hb); clear HB; have HB := n0_; clear n0_; (try clear hb); (try clear hb2); (try clear hk); (try clear hi)))
                          go_ret
                          exact ⟨by first | rfl | (simp [errW_none, errW_some] <;> rfl) | (simp [*, errW_none, errW_some] <;> rfl), by repeat (first | (with_reducible first | exact HB.out | apply below_alloc | apply pw_below_drewN | apply below_drew1) | exact HB.out)⟩
                        · rw [if_neg c28] at H
                          have c28b0 : (t255 == 0) = false := beq_eq_false_iff_ne.mpr c28
                          have c28b1 : (t255 != 0) = true := bne_iff_ne.mpr c28
                          obtain rfl := Option.some.inj H
                          go_wp2_with (first | ((with_reducible refine gate_callee (f := 38) rfl ?_); refine goesL_ (some 101) rfl rfl Tryd.func38 (by kernel_rfl) rfl #[.int .i64 a0, .int .i64 a2] rfl (by (try simp only [List.map_toArray, List.map_cons, List.map_nil]); first | done | rfl | (simp only [List.length_drop, List.length_take]; rfl)) ?_; (with_reducible refine (ints_Mod.calls a0 a2 t255 t256 _ A25.out).mono ?_); rintro e w' ⟨rfl, ⟨nd, rfl⟩⟩; refine ⟨_, rfl, ?_⟩))
                          go_ret
                          exact ⟨by first | rfl | (simp [errW_none, errW_some] <;> rfl) | (simp [*, errW_none, errW_some] <;> rfl), by repeat (first | (with_reducible first | exact HB.out | apply below_alloc | apply pw_below_drewN | apply below_drew1) | exact HB.out)⟩
                      · rw [if_neg c27] at H
                        have c27b0 : (t256 == 18) = false := beq_eq_false_iff_ne.mpr c27
                        have c27b1 : (t256 != 18) = true := bne_iff_ne.mpr c27
                        obtain rfl := Option.some.inj H
                        go_wp2_with (first | ((with_reducible refine gate_callee (f := 38) rfl ?_); refine goesL_ (some 101) rfl rfl Tryd.func38 (by kernel_rfl) rfl #[.int .i64 a0, .int .i64 a2] rfl (by (try simp only [List.map_toArray, List.map_cons, List.map_nil]); first | done | rfl | (simp only [List.length_drop, List.length_take]; rfl)) ?_; (with_reducible refine (ints_Mod.calls a0 a2 t255 t256 _ A25.out).mono ?_); rintro e w' ⟨rfl, ⟨nd, rfl⟩⟩; refine ⟨_, rfl, ?_⟩))
                        go_ret
                        exact ⟨by first | rfl | (simp [errW_none, errW_some] <;> rfl) | (simp [*, errW_none, errW_some] <;> rfl), by repeat (first | (with_reducible first | exact HB.out | apply below_alloc | apply pw_below_drewN | apply below_drew1) | exact HB.out)⟩
                    · rw [if_neg c26] at H
                      have c26b0 : (a2 == 0) = false := beq_eq_false_iff_ne.mpr c26
                      have c26b1 : (a2 != 0) = true := bne_iff_ne.mpr c26
                      have HC31 := Aside0.mk H
                      clear H
                      go_upto_region 18 with (first | ((with_reducible refine gate_callee (f := 38) rfl ?_); refine goesL_ (some 101) rfl rfl Tryd.func38 (by kernel_rfl) rfl #[.int .i64 a0, .int .i64 a2] rfl (by (try simp only [List.map_toArray, List.map_cons, List.map_nil]); first | done | rfl | (simp only [List.length_drop, List.length_take]; rfl)) ?_; (with_reducible refine (ints_Mod.calls a0 a2 t255 t256 _ A25.out).mono ?_); rintro e w' ⟨rfl, ⟨nd, rfl⟩⟩; refine ⟨_, rfl, ?_⟩))
                      (try simp only [Act.put, List.setIfInBounds_toArray, List.set_cons_zero, List.set_cons_succ])
                      go_cut [132] (fun v132 wc => ∃ (kq : Nat) (x132_30 : Bool), v132 = .bool x132_30 ∧ Aside0 (umlautlaw1_IntsLaws.j4 kq a2 t255 x132_30 = some r) ∧ Aside0 (kq ≤ kj19) ∧ Aside0 (Below w.heap.size w wc))
                      case first =>
                        have H := HC31.out
                        clear HC31
                        by_cases c32 : t256 = 0
                        · rw [if_pos c32] at H
                          have c32b0 : (t256 == 0) = true := beq_iff_eq.mpr c32
                          have c32b1 : (t256 != 0) = false := bne_eq_false_iff_eq.mpr c32
                          clear c32
                          (first | rw [c32b0] | (simp only [i64_w, i32_w]; rw [c32b0]) | skip)
                          by_cases c33 : a0 ≥ 0
                          · rw [if_pos c33] at H
                            have c33b0 : decide (0 ≤ a0) = true := decide_eq_true c33
                            clear c33
                            by_cases c34 : t255 < 0
                            · rw [if_pos c34] at H
                              have c34b0 : decide (t255 < 0) = true := decide_eq_true c34
                              clear c34
                              have H' := Aside0.mk H
                              clear H
                              go_wp2
                              go_meet
                              case rel => exact ⟨_, (true), (by first | rfl | (simp; done) | (simp [*]; done)), H', ⟨by have := HJ4.out; have := HJ14.out; have := HJ17.out; have := HJ19.out; first | omega | exact Nat.le_refl _⟩, ⟨by repeat (first | (with_reducible first | exact HB.out | apply below_alloc | apply pw_below_drewN | apply below_drew1) | exact HB.out)⟩⟩
                            · rw [if_neg c34] at H
                              have c34b0 : decide (t255 < 0) = false := decide_eq_false c34
                              clear c34
                              by_cases c35 : a0 < 0
                              · rw [if_pos c35] at H
                                have c35b0 : decide (a0 < 0) = true := decide_eq_true c35
                                clear c35
                                have H' := Aside0.mk H
                                clear H
                                go_wp2
                                go_meet
                                case rel => exact ⟨_, (decide (t255 > 0)), (by first | rfl | (simp; done) | (simp [*]; done)), H', ⟨by have := HJ4.out; have := HJ14.out; have := HJ17.out; have := HJ19.out; first | omega | exact Nat.le_refl _⟩, ⟨by repeat (first | (with_reducible first | exact HB.out | apply below_alloc | apply pw_below_drewN | apply below_drew1) | exact HB.out)⟩⟩
                              · rw [if_neg c35] at H
                                have c35b0 : decide (a0 < 0) = false := decide_eq_false c35
                                clear c35
                                have H' := Aside0.mk H
                                clear H
                                go_wp2
                                go_meet
                                case rel => exact ⟨_, (false), (by first | rfl | (simp; done) | (simp [*]; done)), H', ⟨by have := HJ4.out; have := HJ14.out; have := HJ17.out; have := HJ19.out; first | omega | exact Nat.le_refl _⟩, ⟨by repeat (first | (with_reducible first | exact HB.out | apply below_alloc | apply pw_below_drewN | apply below_drew1) | exact HB.out)⟩⟩
                          · rw [if_neg c33] at H
                            have c33b0 : decide (0 ≤ a0) = false := decide_eq_false c33
                            clear c33
                            by_cases c36 : a0 < 0
                            · rw [if_pos c36] at H
                              have c36b0 : decide (a0 < 0) = true := decide_eq_true c36
                              clear c36
                              have H' := Aside0.mk H
                              clear H
                              go_wp2
                              go_meet
                              case rel => exact ⟨_, (decide (t255 > 0)), (by first | rfl | (simp; done) | (simp [*]; done)), H', ⟨by have := HJ4.out; have := HJ14.out; have := HJ17.out; have := HJ19.out; first | omega | exact Nat.le_refl _⟩, ⟨by repeat (first | (with_reducible first | exact HB.out | apply below_alloc | apply pw_below_drewN | apply below_drew1) | exact HB.out)⟩⟩
                            · rw [if_neg c36] at H
                              have c36b0 : decide (a0 < 0) = false := decide_eq_false c36
                              clear c36
                              have H' := Aside0.mk H
                              clear H
                              go_wp2
                              go_meet
                              case rel => exact ⟨_, (false), (by first | rfl | (simp; done) | (simp [*]; done)), H', ⟨by have := HJ4.out; have := HJ14.out; have := HJ17.out; have := HJ19.out; first | omega | exact Nat.le_refl _⟩, ⟨by repeat (first | (with_reducible first | exact HB.out | apply below_alloc | apply pw_below_drewN | apply below_drew1) | exact HB.out)⟩⟩
                        · rw [if_neg c32] at H
                          have c32b0 : (t256 == 0) = false := beq_eq_false_iff_ne.mpr c32
                          have c32b1 : (t256 != 0) = true := bne_iff_ne.mpr c32
                          (first | rw [c32b0] | (simp only [i64_w, i32_w]; rw [c32b0]) | skip)
                          have H' := Aside0.mk H
                          clear H
                          go_wp2
                          go_meet
                          case rel => exact ⟨_, (true), (by first | rfl | (simp; done) | (simp [*]; done)), H', ⟨by have := HJ4.out; have := HJ14.out; have := HJ17.out; have := HJ19.out; first | omega | exact Nat.le_refl _⟩, ⟨by repeat (first | (with_reducible first | exact HB.out | apply below_alloc | apply pw_below_drewN | apply below_drew1) | exact HB.out)⟩⟩
                      case rest =>
                        clear HC31
                        try clear c1
                        try clear c2
                        try clear p2
                        try clear c3
                        try clear c6
                        try clear c6b0
                        try clear c6b1
                        try clear c9
                        try clear c9b0
                        try clear c9b1
                        try clear c10
                        try clear c10b0
                        try clear c10b1
                        try clear c11
                        try clear c11b0
                        try clear c11b1
                        try clear c12
                        try clear c12b0
                        try clear c12b1
                        try clear c16
                        try clear c16b0
                        try clear c16b1
                        try clear c17
                        try clear c19
                        try clear c19b0
                        try clear c19b1
                        try clear c21
                        try clear c23
                        try clear c23b0
                        try clear c23b1
                        try clear c24
                        try clear c24b0
                        try clear c24b1
                        try clear c26
                        try clear c26b0
                        try clear c26b1
                        try clear c27
                        try clear c27b0
                        try clear c27b1
                        try clear c28
                        try clear c28b0
                        try clear c28b1
                        try clear c29
                        try clear c31
                        try clear c32
                        try clear c32b0
                        try clear c32b1
                        try clear c33
                        try clear c33b0
                        try clear c34
                        try clear c34b0
                        try clear c35
                        try clear c35b0
                        try clear c36
                        try clear c36b0
                        try clear p2
                        obtain ⟨kq, x132_30, rfl, HA, HJ30, HB⟩ := hcut
                        cases kq with
                        | zero => exact absurd HA.out (by simp [umlautlaw1_IntsLaws.j4])
                        | succ kj30 =>
                          have H := HA.out
                          clear HA
                          simp only [umlautlaw1_IntsLaws.j4] at H
                          by_cases c37 : x132_30 = true
                          · subst c37
                            have H1 : (some false) = some r := by rw [if_pos rfl] at H; exact H
                            clear H
                            have H := H1
                            clear H1
                            obtain rfl := Option.some.inj H
                            go_wp2
                            go_ret
                            exact ⟨by first | rfl | (simp [errW_none, errW_some] <;> rfl) | (simp [*, errW_none, errW_some] <;> rfl), by repeat (first | (with_reducible first | exact HB.out | apply below_alloc | apply pw_below_drewN | apply below_drew1) | exact HB.out)⟩
                          · replace c37 := Bool.eq_false_iff.mpr c37
                            subst c37
                            have H1 : (if t255 > 0 then (if a2 > 0 then (if (wrap64 (-t255)) > (wrap64 (-a2)) then ((umlautlaw1_awake.f kj30).bind fun t258 => (some t258)) else (some false)) else (if (wrap64 (-t255)) > a2 then ((umlautlaw1_awake.f kj30).bind fun t259 => (some t259)) else (some false))) else (if a2 > 0 then (if t255 > (wrap64 (-a2)) then ((umlautlaw1_awake.f kj30).bind fun t260 => (some t260)) else (some false)) else (if t255 > a2 then ((umlautlaw1_awake.f kj30).bind fun t261 => (some t261)) else (some false)))) = some r := by rw [if_neg (show ¬ (false = true) by decide)] at H; exact H
                            clear H
                            have H := H1
                            clear H1
                            by_cases c38 : t255 > 0
                            · rw [if_pos c38] at H
                              have c38b0 : decide (0 < t255) = true := decide_eq_true c38
                              clear c38
                              by_cases c39 : a2 > 0
                              · rw [if_pos c39] at H
                                have c39b0 : decide (0 < a2) = true := decide_eq_true c39
                                clear c39
                                by_cases c40 : (wrap64 (-t255)) > (wrap64 (-a2))
                                · rw [if_pos c40] at H
                                  have c40b0 : decide ((wrap64 (-a2)) < (wrap64 (-t255))) = true := decide_eq_true c40
                                  clear c40
                                  replace H := Option.bind_eq_some_iff.mp H
                                  obtain ⟨t258, A410, H⟩ := H
                                  replace H : (some t258) = some r := H
                                  have A41 := Aside0.mk A410
                                  clear A410
                                  obtain rfl := Option.some.inj H
                                  go_wp2_with (first | (go_at_call 19; (with_reducible refine (umlautlaw1_awake.calls kj30  t258 _ ?side1 A41.out).mono ?_); (case side1 => exact GW.below HG.out (by repeat (first | (with_reducible first | exact HB.out | apply below_alloc | apply pw_below_drewN | apply below_drew1) | exact HB.out))); rintro e w42 ⟨rfl, hb⟩; have n0_ := Aside0.mk (below_step (by repeat (first | (with_reducible first | exact HB.out | apply below_alloc | apply pw_below_drewN | apply below_drew1) | exact HB.out)) hb); clear HB; have HB := n0_; clear n0_; (try clear hb); (try clear hb2); (try clear hk); (try clear hi)))
                                  go_ret
                                  exact ⟨by first | rfl | (simp [errW_none, errW_some] <;> rfl) | (simp [*, errW_none, errW_some] <;> rfl), by repeat (first | (with_reducible first | exact HB.out | apply below_alloc | apply pw_below_drewN | apply below_drew1) | exact HB.out)⟩
                                · rw [if_neg c40] at H
                                  have c40b0 : decide ((wrap64 (-a2)) < (wrap64 (-t255))) = false := decide_eq_false c40
                                  clear c40
                                  obtain rfl := Option.some.inj H
                                  go_wp2
                                  go_ret
                                  exact ⟨by first | rfl | (simp [errW_none, errW_some] <;> rfl) | (simp [*, errW_none, errW_some] <;> rfl), by repeat (first | (with_reducible first | exact HB.out | apply below_alloc | apply pw_below_drewN | apply below_drew1) | exact HB.out)⟩
                              · rw [if_neg c39] at H
                                have c39b0 : decide (0 < a2) = false := decide_eq_false c39
                                clear c39
                                by_cases c43 : (wrap64 (-t255)) > a2
                                · rw [if_pos c43] at H
                                  have c43b0 : decide (a2 < (wrap64 (-t255))) = true := decide_eq_true c43
                                  clear c43
                                  replace H := Option.bind_eq_some_iff.mp H
                                  obtain ⟨t259, A440, H⟩ := H
                                  replace H : (some t259) = some r := H
                                  have A44 := Aside0.mk A440
                                  clear A440
                                  obtain rfl := Option.some.inj H
                                  go_wp2_with (first | (go_at_call 19; (with_reducible refine (umlautlaw1_awake.calls kj30  t259 _ ?side1 A44.out).mono ?_); (case side1 => exact GW.below HG.out (by repeat (first | (with_reducible first | exact HB.out | apply below_alloc | apply pw_below_drewN | apply below_drew1) | exact HB.out))); rintro e w45 ⟨rfl, hb⟩; have n0_ := Aside0.mk (below_step (by repeat (first | (with_reducible first | exact HB.out | apply below_alloc | apply pw_below_drewN | apply below_drew1) | exact HB.out)) hb); clear HB; have HB := n0_; clear n0_; (try clear hb); (try clear hb2); (try clear hk); (try clear hi)))
                                  go_ret
                                  exact ⟨by first | rfl | (simp [errW_none, errW_some] <;> rfl) | (simp [*, errW_none, errW_some] <;> rfl), by repeat (first | (with_reducible first | exact HB.out | apply below_alloc | apply pw_below_drewN | apply below_drew1) | exact HB.out)⟩
                                · rw [if_neg c43] at H
                                  have c43b0 : decide (a2 < (wrap64 (-t255))) = false := decide_eq_false c43
                                  clear c43
                                  obtain rfl := Option.some.inj H
                                  go_wp2
                                  go_ret
                                  exact ⟨by first | rfl | (simp [errW_none, errW_some] <;> rfl) | (simp [*, errW_none, errW_some] <;> rfl), by repeat (first | (with_reducible first | exact HB.out | apply below_alloc | apply pw_below_drewN | apply below_drew1) | exact HB.out)⟩
                            · rw [if_neg c38] at H
                              have c38b0 : decide (0 < t255) = false := decide_eq_false c38
                              clear c38
                              by_cases c46 : a2 > 0
                              · rw [if_pos c46] at H
                                have c46b0 : decide (0 < a2) = true := decide_eq_true c46
                                clear c46
                                by_cases c47 : t255 > (wrap64 (-a2))
                                · rw [if_pos c47] at H
                                  have c47b0 : decide ((wrap64 (-a2)) < t255) = true := decide_eq_true c47
                                  clear c47
                                  replace H := Option.bind_eq_some_iff.mp H
                                  obtain ⟨t260, A480, H⟩ := H
                                  replace H : (some t260) = some r := H
                                  have A48 := Aside0.mk A480
                                  clear A480
                                  obtain rfl := Option.some.inj H
                                  go_wp2_with (first | (go_at_call 19; (with_reducible refine (umlautlaw1_awake.calls kj30  t260 _ ?side1 A48.out).mono ?_); (case side1 => exact GW.below HG.out (by repeat (first | (with_reducible first | exact HB.out | apply below_alloc | apply pw_below_drewN | apply below_drew1) | exact HB.out))); rintro e w49 ⟨rfl, hb⟩; have n0_ := Aside0.mk (below_step (by repeat (first | (with_reducible first | exact HB.out | apply below_alloc | apply pw_below_drewN | apply below_drew1) | exact HB.out)) hb); clear HB; have HB := n0_; clear n0_; (try clear hb); (try clear hb2); (try clear hk); (try clear hi)))
                                  go_ret
                                  exact ⟨by first | rfl | (simp [errW_none, errW_some] <;> rfl) | (simp [*, errW_none, errW_some] <;> rfl), by repeat (first | (with_reducible first | exact HB.out | apply below_alloc | apply pw_below_drewN | apply below_drew1) | exact HB.out)⟩
                                · rw [if_neg c47] at H
                                  have c47b0 : decide ((wrap64 (-a2)) < t255) = false := decide_eq_false c47
                                  clear c47
                                  obtain rfl := Option.some.inj H
                                  go_wp2
                                  go_ret
                                  exact ⟨by first | rfl | (simp [errW_none, errW_some] <;> rfl) | (simp [*, errW_none, errW_some] <;> rfl), by repeat (first | (with_reducible first | exact HB.out | apply below_alloc | apply pw_below_drewN | apply below_drew1) | exact HB.out)⟩
                              · rw [if_neg c46] at H
                                have c46b0 : decide (0 < a2) = false := decide_eq_false c46
                                clear c46
                                by_cases c50 : t255 > a2
                                · rw [if_pos c50] at H
                                  have c50b0 : decide (a2 < t255) = true := decide_eq_true c50
                                  clear c50
                                  replace H := Option.bind_eq_some_iff.mp H
                                  obtain ⟨t261, A510, H⟩ := H
                                  replace H : (some t261) = some r := H
                                  have A51 := Aside0.mk A510
                                  clear A510
                                  obtain rfl := Option.some.inj H
                                  go_wp2_with (first | (go_at_call 19; (with_reducible refine (umlautlaw1_awake.calls kj30  t261 _ ?side1 A51.out).mono ?_); (case side1 => exact GW.below HG.out (by repeat (first | (with_reducible first | exact HB.out | apply below_alloc | apply pw_below_drewN | apply below_drew1) | exact HB.out))); rintro e w52 ⟨rfl, hb⟩; have n0_ := Aside0.mk (below_step (by repeat (first | (with_reducible first | exact HB.out | apply below_alloc | apply pw_below_drewN | apply below_drew1) | exact HB.out)) hb); clear HB; have HB := n0_; clear n0_; (try clear hb); (try clear hb2); (try clear hk); (try clear hi)))
                                  go_ret
                                  exact ⟨by first | rfl | (simp [errW_none, errW_some] <;> rfl) | (simp [*, errW_none, errW_some] <;> rfl), by repeat (first | (with_reducible first | exact HB.out | apply below_alloc | apply pw_below_drewN | apply below_drew1) | exact HB.out)⟩
                                · rw [if_neg c50] at H
                                  have c50b0 : decide (a2 < t255) = false := decide_eq_false c50
                                  clear c50
                                  obtain rfl := Option.some.inj H
                                  go_wp2
                                  go_ret
                                  exact ⟨by first | rfl | (simp [errW_none, errW_some] <;> rfl) | (simp [*, errW_none, errW_some] <;> rfl), by repeat (first | (with_reducible first | exact HB.out | apply below_alloc | apply pw_below_drewN | apply below_drew1) | exact HB.out)⟩

/-- THE ONE PURE STATEMENT of umlautlaw1_IntsLaws: yours. -/
def umlautlaw1_IntsLaws.Pure : Prop := ∀ (a0 : Int) (a1 : Int) (a2 : Int), (Lit.int .i64 a0).wf = true → (Lit.int .i64 a1).wf = true → (Lit.int .i64 a2).wf = true → ∃ k, umlautlaw1_IntsLaws.f k a0 a1 a2 = some true
theorem umlautlaw1_IntsLaws.walk (P : umlautlaw1_IntsLaws.Pure) (a0 : Int) (a1 : Int) (a2 : Int) (w : World) (hG0 : GW w) (w0 : (Lit.int .i64 a0).wf = true) (w1 : (Lit.int .i64 a1).wf = true) (w2 : (Lit.int .i64 a2).wf = true) :
    Calls Tryd.prog 12 #[.int .i64 a0, .int .i64 a1, .int .i64 a2] w fun e w' => e = .returned (.bool true) ∧ Below w.heap.size w w' := by
  obtain ⟨k, h⟩ := P a0 a1 a2 w0 w1 w2
  refine (umlautlaw1_IntsLaws.calls k a0 a1 a2 true w hG0 h).mono ?_
  rintro e w' ⟨rfl, hd⟩
  exact ⟨rfl, hd⟩

end Go.Proofs.YtedmbkhjpbdkjaaDoor.XI
