-- laid by a program of this session (its print of the translation over its own contracts)
import Derived.Test.YtmgoncnjagihgaaDoorXA0
namespace Go.Proofs.YtmgoncnjagihgaaDoor.XA
open Go.Proofs.YtmgoncnjagihgaaDoor.Given Go.Proofs.YtmgoncnjagihgaaDoor.Lem
open Go.RowKit Go.Proofs.YtmgoncnjagihgaaDoorW.PrintWords Go.Proofs.YtmgoncnjagihgaaDoorW.PrintLast Go.Proofs.YtmgoncnjagihgaaDoorW.PrintMore
attribute [local go_sem] max2_int min2_int max_two min_two max_three min_three max_four min_four   -- for this text's walks alone
set_option linter.unusedVariables false
set_option linter.unusedSimpArgs false

/-! ### elem_field: function 19 -/
def elem_field.f (a0 : Int) : Option (Int × Int) := if a0 = 1 then (some (16, 16)) else (if a0 = 2 then (some (8, 8)) else (if a0 = 3 then (some (1, 7)) else (some (0, 0))))
set_option maxHeartbeats 8000000 in
set_option maxRecDepth 100000 in
theorem elem_field.calls (a0 : Int) (r1 : Int) (r2 : Int) (w : World) (h : elem_field.f a0 = some (r1, r2)) :
    Calls Tryd.prog 19 #[.int .i64 a0] w fun e w' => e = .returned (.tuple #[.int .i64 r1, .int .i64 r2]) ∧ Drawn0 w w' := by
  have H : (if a0 = 1 then (some (16, 16)) else (if a0 = 2 then (some (8, 8)) else (if a0 = 3 then (some (1, 7)) else (some (0, 0))))) = some (r1, r2) := h
  clear h
  by_cases c2 : a0 = 1
  · rw [if_pos c2] at H
    have c2b0 : (a0 == 1) = true := beq_iff_eq.mpr c2
    have c2b1 : (a0 != 1) = false := bne_eq_false_iff_eq.mpr c2
    clear c2
    simp only [Option.some.injEq, Prod.mk.injEq] at H
    obtain ⟨rfl, rfl⟩ := H
    go_enter Tryd.func19, Tryd.ntmps19
    go_wp2
    go_ret2
    exact ⟨by first | rfl | (simp; done) | (simp [*]; done), by repeat (first | exact Drawn0.refl _ | apply Drawn0.step)⟩
  · rw [if_neg c2] at H
    have c2b0 : (a0 == 1) = false := beq_eq_false_iff_ne.mpr c2
    have c2b1 : (a0 != 1) = true := bne_iff_ne.mpr c2
    by_cases c3 : a0 = 2
    · rw [if_pos c3] at H
      have c3b0 : (a0 == 2) = true := beq_iff_eq.mpr c3
      have c3b1 : (a0 != 2) = false := bne_eq_false_iff_eq.mpr c3
      clear c3
      simp only [Option.some.injEq, Prod.mk.injEq] at H
      obtain ⟨rfl, rfl⟩ := H
      go_enter Tryd.func19, Tryd.ntmps19
      go_wp2
      go_ret2
      exact ⟨by first | rfl | (simp; done) | (simp [*]; done), by repeat (first | exact Drawn0.refl _ | apply Drawn0.step)⟩
    · rw [if_neg c3] at H
      have c3b0 : (a0 == 2) = false := beq_eq_false_iff_ne.mpr c3
      have c3b1 : (a0 != 2) = true := bne_iff_ne.mpr c3
      by_cases c4 : a0 = 3
      · rw [if_pos c4] at H
        have c4b0 : (a0 == 3) = true := beq_iff_eq.mpr c4
        have c4b1 : (a0 != 3) = false := bne_eq_false_iff_eq.mpr c4
        clear c4
        simp only [Option.some.injEq, Prod.mk.injEq] at H
        obtain ⟨rfl, rfl⟩ := H
        go_enter Tryd.func19, Tryd.ntmps19
        go_wp2
        go_ret2
        exact ⟨by first | rfl | (simp; done) | (simp [*]; done), by repeat (first | exact Drawn0.refl _ | apply Drawn0.step)⟩
      · rw [if_neg c4] at H
        have c4b0 : (a0 == 3) = false := beq_eq_false_iff_ne.mpr c4
        have c4b1 : (a0 != 3) = true := bne_iff_ne.mpr c4
        simp only [Option.some.injEq, Prod.mk.injEq] at H
        obtain ⟨rfl, rfl⟩ := H
        go_enter Tryd.func19, Tryd.ntmps19
        go_wp2
        go_ret2
        exact ⟨by first | rfl | (simp; done) | (simp [*]; done), by repeat (first | exact Drawn0.refl _ | apply Drawn0.step)⟩

/-! ### ints_mask: function 28 -/
def ints_mask.j0 : Nat → Int → Int → Bool → Option (Int)
  | 0, _, _, _ => none
  | k + 1, x0, x1, x15 => if x15 = true then (some 0) else (if x1 < 64 then (if 0 ≤ x1 then (if 0 ≤ x0 then (some (shl .u64 (IntKind.u64.wrap ((shl .u64 1 x1) - 1)) x0)) else (none)) else (none)) else (if 0 ≤ x0 then (some (shl .u64 18446744073709551615 x0)) else (none)))
def ints_mask.f (k : Nat) (a0 : Int) (a1 : Int) : Option (Int) := if a0 < 0 then (ints_mask.j0 k a0 a1 true) else (if a0 ≥ 64 then (ints_mask.j0 k a0 a1 true) else (ints_mask.j0 k a0 a1 (decide (a1 < 1))))
theorem ints_mask.mono_l : ∀ k, (∀ y0 y1 y2, LeO (ints_mask.j0 k y0 y1 y2) (ints_mask.j0 (k + 1) y0 y1 y2))
  | 0 => fun _ _ _ r h => by simp [ints_mask.j0] at h
  | k + 1 => by
    have ih0 := ints_mask.mono_l k
    · intro y0 y1 y2
      unfold ints_mask.j0
      repeat' first
      | (with_reducible exact ih0 _ _ _)
      | (with_reducible exact LeO.refl _)
      | (with_reducible exact LeO.none _)
      | (with_reducible refine LeO.ite ?_ ?_)
      | (with_reducible refine LeO.bind ?_ (fun _ => ?_))
      | exact ih0 _ _ _
      | exact LeO.none _
      | refine LeO.ite ?_ ?_
      | refine LeO.bind ?_ (fun _ => ?_)
theorem ints_mask.mono : ∀ a0 a1 k, LeO (ints_mask.f k a0 a1) (ints_mask.f (k + 1) a0 a1) := by
  intro a0 a1 k
  have ih0 := ints_mask.mono_l k
  unfold ints_mask.f
  repeat' first
      | (with_reducible exact ih0 _ _ _)
      | (with_reducible exact LeO.refl _)
      | (with_reducible exact LeO.none _)
      | (with_reducible refine LeO.ite ?_ ?_)
      | (with_reducible refine LeO.bind ?_ (fun _ => ?_))
      | exact ih0 _ _ _
      | exact LeO.none _
      | refine LeO.ite ?_ ?_
      | refine LeO.bind ?_ (fun _ => ?_)
set_option maxHeartbeats 8000000 in
set_option maxRecDepth 100000 in
theorem ints_mask.calls (k : Nat) (a0 : Int) (a1 : Int) (r : Int) (w : World) (h : ints_mask.f k a0 a1 = some r) :
    Calls Tryd.prog 28 #[.int .i64 a0, .int .i64 a1] w fun e w' => e = .returned (.int .u64 r) ∧ Drawn0 w w' := by
  have H : (if a0 < 0 then (ints_mask.j0 k a0 a1 true) else (if a0 ≥ 64 then (ints_mask.j0 k a0 a1 true) else (ints_mask.j0 k a0 a1 (decide (a1 < 1))))) = some r := h
  clear h
  have HC3 := Aside0.mk H
  clear H
  go_enter Tryd.func28, Tryd.ntmps28
  go_upto_region 1 with (fail)
  go_cut [15] (fun v15 wc => ∃ (kq : Nat) (x15_2 : Bool), v15 = .bool x15_2 ∧ Aside0 (ints_mask.j0 kq a0 a1 x15_2 = some r) ∧ Aside0 (kq ≤ k) ∧ Drawn0 w wc)
  case first =>
    have H := HC3.out
    clear HC3
    by_cases c4 : a0 < 0
    · rw [if_pos c4] at H
      have c4b0 : decide (a0 < 0) = true := decide_eq_true c4
      clear c4
      (first | rw [c4b0] | (simp only [i64_w, i32_w]; rw [c4b0]) | skip)
      have H' := Aside0.mk H
      clear H
      go_wp2
      go_meet
      case rel => exact ⟨_, (true), (by first | rfl | (simp; done) | (simp [*]; done)), H', ⟨by first | omega | exact Nat.le_refl _⟩, by repeat (first | exact Drawn0.refl _ | apply Drawn0.step)⟩
    · rw [if_neg c4] at H
      have c4b0 : decide (a0 < 0) = false := decide_eq_false c4
      clear c4
      (first | rw [c4b0] | (simp only [i64_w, i32_w]; rw [c4b0]) | skip)
      by_cases c5 : a0 ≥ 64
      · rw [if_pos c5] at H
        have c5b0 : decide (64 ≤ a0) = true := decide_eq_true c5
        clear c5
        have H' := Aside0.mk H
        clear H
        go_wp2
        go_meet
        case rel => exact ⟨_, (true), (by first | rfl | (simp; done) | (simp [*]; done)), H', ⟨by first | omega | exact Nat.le_refl _⟩, by repeat (first | exact Drawn0.refl _ | apply Drawn0.step)⟩
      · rw [if_neg c5] at H
        have c5b0 : decide (64 ≤ a0) = false := decide_eq_false c5
        clear c5
        have H' := Aside0.mk H
        clear H
        go_wp2
        go_meet
        case rel => exact ⟨_, (decide (a1 < 1)), (by first | rfl | (simp; done) | (simp [*]; done)), H', ⟨by first | omega | exact Nat.le_refl _⟩, by repeat (first | exact Drawn0.refl _ | apply Drawn0.step)⟩
  case rest =>
    clear HC3
    try clear c2
    try clear p2
    try clear c4
    try clear c4b0
    try clear c5
    try clear c5b0
    obtain ⟨kq, x15_2, rfl, HA, HJ2, ⟨mc2, rfl⟩⟩ := hcut
    cases kq with
    | zero => exact absurd HA.out (by simp [ints_mask.j0])
    | succ kj2 =>
      have H := HA.out
      clear HA
      simp only [ints_mask.j0] at H
      by_cases c6 : x15_2 = true
      · subst c6
        have H1 : (some 0) = some r := by rw [if_pos rfl] at H; exact H
        clear H
        have H := H1
        clear H1
        obtain rfl := Option.some.inj H
        go_wp2
        go_ret
        exact ⟨by first | rfl | (simp; done) | (simp [*]; done), by repeat (first | exact Drawn0.refl _ | apply Drawn0.step)⟩
      · replace c6 := Bool.eq_false_iff.mpr c6
        subst c6
        have H1 : (if a1 < 64 then (if 0 ≤ a1 then (if 0 ≤ a0 then (some (shl .u64 (IntKind.u64.wrap ((shl .u64 1 a1) - 1)) a0)) else (none)) else (none)) else (if 0 ≤ a0 then (some (shl .u64 18446744073709551615 a0)) else (none))) = some r := by rw [if_neg (show ¬ (false = true) by decide)] at H; exact H
        clear H
        have H := H1
        clear H1
        by_cases c7 : a1 < 64
        · rw [if_pos c7] at H
          have c7b0 : decide (a1 < 64) = true := decide_eq_true c7
          clear c7
          by_cases c8 : 0 ≤ a1
          · rw [if_pos c8] at H
            have c8b0 := eq_true c8
            have c8b1 : decide (0 ≤ a1) = true := decide_eq_true c8
            clear c8
            obtain ⟨ji9, hji9⟩ : ∃ j_ : Int, (shl .u64 1 a1) = j_ := ⟨_, rfl⟩
            replace H : (if 0 ≤ a0 then (some (shl .u64 (IntKind.u64.wrap ((ji9) - 1)) a0)) else (none)) = some r := by first | (rw [hji9] at H; exact H) | (simp only [hji9] at H ⊢; exact H)
            have hji9_ : (IntKind.u64.wrap (1 * 2 ^ min a1.toNat 64)) = ji9 := hji9
            have hji9z : a1 ≤ 64 → (IntKind.u64.wrap (1 * 2 ^ a1.toNat)) = ji9 := shl_small hji9
            have hji9u : (IntKind.u64.wrap (2 ^ min a1.toNat 64)) = ji9 := by have h_ := hji9_; rw [Int.one_mul] at h_; exact h_
            have hji9v : a1 ≤ 64 → (IntKind.u64.wrap (2 ^ a1.toNat)) = ji9 := fun hle_ => by have h_ := hji9z hle_; rw [Int.one_mul] at h_; exact h_
            by_cases c10 : 0 ≤ a0
            · rw [if_pos c10] at H
              have c10b0 := eq_true c10
              have c10b1 : decide (0 ≤ a0) = true := decide_eq_true c10
              clear c10
              obtain ⟨ji11, hji11⟩ : ∃ j_ : Int, (shl .u64 (IntKind.u64.wrap ((ji9) - 1)) a0) = j_ := ⟨_, rfl⟩
              replace H : (some ji11) = some r := by first | (rw [hji11] at H; exact H) | (simp only [hji11] at H ⊢; exact H)
              have hji11_ : (IntKind.u64.wrap ((IntKind.u64.wrap ((ji9) - 1)) * 2 ^ min a0.toNat 64)) = ji11 := hji11
              have hji11z : a0 ≤ 64 → (IntKind.u64.wrap ((IntKind.u64.wrap ((ji9) - 1)) * 2 ^ a0.toNat)) = ji11 := shl_small hji11
              obtain rfl := Option.some.inj H
              go_wp2
              go_ret
              exact ⟨by first | rfl | (simp; done) | (simp only [← hji9, ← hji11] <;> (first | rfl | simp)) | (simp [*]; done), by repeat (first | exact Drawn0.refl _ | apply Drawn0.step)⟩
            · rw [if_neg c10] at H
              exact absurd H (by simp)
          · rw [if_neg c8] at H
            exact absurd H (by simp)
        · rw [if_neg c7] at H
          have c7b0 : decide (a1 < 64) = false := decide_eq_false c7
          clear c7
          by_cases c12 : 0 ≤ a0
          · rw [if_pos c12] at H
            have c12b0 := eq_true c12
            have c12b1 : decide (0 ≤ a0) = true := decide_eq_true c12
            clear c12
            obtain ⟨ji13, hji13⟩ : ∃ j_ : Int, (shl .u64 18446744073709551615 a0) = j_ := ⟨_, rfl⟩
            replace H : (some ji13) = some r := by first | (rw [hji13] at H; exact H) | (simp only [hji13] at H ⊢; exact H)
            have hji13_ : (IntKind.u64.wrap (18446744073709551615 * 2 ^ min a0.toNat 64)) = ji13 := hji13
            have hji13z : a0 ≤ 64 → (IntKind.u64.wrap (18446744073709551615 * 2 ^ a0.toNat)) = ji13 := shl_small hji13
            obtain rfl := Option.some.inj H
            go_wp2
            go_ret
            exact ⟨by first | rfl | (simp; done) | (simp only [← hji13] <;> (first | rfl | simp)) | (simp [*]; done), by repeat (first | exact Drawn0.refl _ | apply Drawn0.step)⟩
          · rw [if_neg c12] at H
            exact absurd H (by simp)

/-! ### ints_Set: function 20 -/
def ints_Set.f (k : Nat) (a0 : Int) (a1 : Int) (a2 : Int) (a3 : Int) : Option (Int) := (ints_mask.f k a1 a2).bind fun t101 => (some (Go.bits .or .u64 (Go.bits .andNot .u64 a0 t101) (Go.bits .and .u64 (IntKind.u64.wrap (a3 * 2 ^ (mn (mx a1 0) 64).toNat)) t101)))
theorem ints_Set.mono : ∀ a0 a1 a2 a3 k, LeO (ints_Set.f k a0 a1 a2 a3) (ints_Set.f (k + 1) a0 a1 a2 a3) := by
  intro a0 a1 a2 a3 k
  unfold ints_Set.f
  repeat' first
      | (with_reducible exact ints_mask.mono _ _ _)
      | (with_reducible exact LeO.refl _)
      | (with_reducible exact LeO.none _)
      | (with_reducible refine LeO.ite ?_ ?_)
      | (with_reducible refine LeO.bind ?_ (fun _ => ?_))
      | exact ints_mask.mono _ _ _
      | exact LeO.none _
      | refine LeO.ite ?_ ?_
      | refine LeO.bind ?_ (fun _ => ?_)
set_option maxHeartbeats 8000000 in
set_option maxRecDepth 100000 in
theorem ints_Set.calls (k : Nat) (a0 : Int) (a1 : Int) (a2 : Int) (a3 : Int) (r : Int) (w : World) (h : ints_Set.f k a0 a1 a2 a3 = some r) :
    Calls Tryd.prog 20 #[.int .u64 a0, .int .i64 a1, .int .i64 a2, .int .u64 a3] w fun e w' => e = .returned (.int .u64 r) ∧ Below w.heap.size w w' := by
  have HB := Aside0.mk (Below.refl w.heap.size w)
  have H : ((ints_mask.f k a1 a2).bind fun t101 => (some (Go.bits .or .u64 (Go.bits .andNot .u64 a0 t101) (Go.bits .and .u64 (IntKind.u64.wrap (a3 * 2 ^ (mn (mx a1 0) 64).toNat)) t101)))) = some r := h
  clear h
  replace H := Option.bind_eq_some_iff.mp H
  obtain ⟨t101, A50, H⟩ := H
  replace H : (some (Go.bits .or .u64 (Go.bits .andNot .u64 a0 t101) (Go.bits .and .u64 (IntKind.u64.wrap (a3 * 2 ^ (mn (mx a1 0) 64).toNat)) t101))) = some r := H
  have A5 := Aside0.mk A50
  clear A50
  obtain ⟨ji6, hji6⟩ : ∃ j_ : Int, (mx a1 0) = j_ := ⟨_, rfl⟩
  replace H : (some (Go.bits .or .u64 (Go.bits .andNot .u64 a0 t101) (Go.bits .and .u64 (IntKind.u64.wrap (a3 * 2 ^ (mn (ji6) 64).toNat)) t101))) = some r := by first | (rw [hji6] at H; exact H) | (simp only [hji6] at H ⊢; exact H)
  (try rw [hji6] at A5)
  (try (have hji6l : 0 ≤ ji6 := by (rw [← hji6]; unfold mx; (repeat' split) <;> omega)))
  (try (have hji6m : 0 ≤ ji6 := by omega))
  have hji6_ : (if a1 < 0 then 0 else a1) = ji6 := hji6
  obtain ⟨ji7, hji7⟩ : ∃ j_ : Int, (mn (ji6) 64) = j_ := ⟨_, rfl⟩
  replace H : (some (Go.bits .or .u64 (Go.bits .andNot .u64 a0 t101) (Go.bits .and .u64 (IntKind.u64.wrap (a3 * 2 ^ (ji7).toNat)) t101))) = some r := by first | (rw [hji7] at H; exact H) | (simp only [hji7] at H ⊢; exact H)
  (try rw [hji7] at A5)
  have hji7_ : (if 64 < (ji6) then 64 else (ji6)) = ji7 := hji7
  obtain rfl := Option.some.inj H
  go_enter Tryd.func20, Tryd.ntmps20
  go_wp2_with (first | ((with_reducible refine gate_callee (f := 28) rfl ?_); refine goesL_ (some 12) rfl rfl Tryd.func28 (by kernel_rfl) rfl #[.int .i64 a1, .int .i64 a2] rfl (by (try simp only [List.map_toArray, List.map_cons, List.map_nil]); first | done | rfl | (simp only [List.length_drop, List.length_take]; rfl)) ?_; (with_reducible refine (ints_mask.calls k a1 a2 t101 _ A5.out).mono ?_); rintro e w' ⟨rfl, ⟨nd, rfl⟩⟩; refine ⟨_, rfl, ?_⟩))
  go_ret
  exact ⟨by first | rfl | (simp [errW_none, errW_some] <;> rfl) | (simp only [← hji6, ← hji7]; first | rfl | (simp [errW_none, errW_some] <;> rfl)) | (simp [*, errW_none, errW_some] <;> rfl), by repeat (first | (with_reducible first | exact HB.out | apply below_alloc | apply pw_below_drewN | apply below_drew1) | exact HB.out)⟩

/-! ### elem_Elem_With: function 7 -/
def elem_Elem_With.f (k : Nat) (a0 : Int) (a1 : Int) (a2 : Int) : Option (Int) := (elem_field.f a1).bind fun bt102 => ((ints_Set.f k (IntKind.u64.wrap (a0)) bt102.1 bt102.2 (IntKind.u64.wrap (a2))).bind fun t104 => (some ((t104) % 4294967296)))
theorem elem_Elem_With.mono : ∀ a0 a1 a2 k, LeO (elem_Elem_With.f k a0 a1 a2) (elem_Elem_With.f (k + 1) a0 a1 a2) := by
  intro a0 a1 a2 k
  unfold elem_Elem_With.f
  repeat' first
      | (with_reducible exact ints_Set.mono _ _ _ _ _)
      | (with_reducible exact LeO.refl _)
      | (with_reducible exact LeO.none _)
      | (with_reducible refine LeO.ite ?_ ?_)
      | (with_reducible refine LeO.bind ?_ (fun _ => ?_))
      | exact ints_Set.mono _ _ _ _ _
      | exact LeO.none _
      | refine LeO.ite ?_ ?_
      | refine LeO.bind ?_ (fun _ => ?_)
set_option maxHeartbeats 8000000 in
set_option maxRecDepth 100000 in
theorem elem_Elem_With.calls (k : Nat) (a0 : Int) (a1 : Int) (a2 : Int) (r : Int) (w : World) (h : elem_Elem_With.f k a0 a1 a2 = some r) :
    Calls Tryd.prog 7 #[.int .u32 a0, .int .i64 a1, .int .i64 a2] w fun e w' => e = .returned (.int .u32 r) ∧ Below w.heap.size w w' := by
  have HB := Aside0.mk (Below.refl w.heap.size w)
  have H : ((elem_field.f a1).bind fun bt102 => ((ints_Set.f k (IntKind.u64.wrap (a0)) bt102.1 bt102.2 (IntKind.u64.wrap (a2))).bind fun t104 => (some ((t104) % 4294967296)))) = some r := h
  clear h
  replace H := Option.bind_eq_some_iff.mp H
  obtain ⟨⟨t102, t103⟩, A40, H⟩ := H
  replace H : ((ints_Set.f k (IntKind.u64.wrap (a0)) t102 t103 (IntKind.u64.wrap (a2))).bind fun t104 => (some ((t104) % 4294967296))) = some r := H
  have A4 := Aside0.mk A40
  clear A40
  replace H := Option.bind_eq_some_iff.mp H
  obtain ⟨t104, A50, H⟩ := H
  replace H : (some ((t104) % 4294967296)) = some r := H
  have A5 := Aside0.mk A50
  clear A50
  obtain rfl := Option.some.inj H
  go_enter Tryd.func7, Tryd.ntmps7
  go_wp2_with (first | ((with_reducible refine gate_callee (f := 19) rfl ?_); refine goesL_ (some 11) rfl rfl Tryd.func19 (by kernel_rfl) rfl #[.int .i64 a1] rfl (by (try simp only [List.map_toArray, List.map_cons, List.map_nil]); first | done | rfl | (simp only [List.length_drop, List.length_take]; rfl)) ?_; (with_reducible refine (elem_field.calls a1 t102 t103 _ A4.out).mono ?_); rintro e w' ⟨rfl, ⟨nd, rfl⟩⟩; refine ⟨_, rfl, ?_⟩) | ((with_reducible refine gate_callee (f := 20) rfl ?_); refine goesL_ (some 20) rfl rfl Tryd.func20 (by kernel_rfl) rfl #[.int .u64 (IntKind.u64.wrap (a0)), .int .i64 t102, .int .i64 t103, .int .u64 (IntKind.u64.wrap (a2))] rfl (by (try simp only [List.map_toArray, List.map_cons, List.map_nil]); first | done | rfl | (simp only [List.length_drop, List.length_take]; rfl)) ?_; (with_reducible refine (ints_Set.calls k (IntKind.u64.wrap (a0)) t102 t103 (IntKind.u64.wrap (a2)) t104 _ A5.out).mono ?_); rintro e w6 ⟨rfl, hb⟩; refine ⟨_, rfl, ?_⟩; have n0_ := Aside0.mk (below_step (by repeat (first | (with_reducible first | exact HB.out | apply below_alloc | apply pw_below_drewN | apply below_drew1) | exact HB.out)) hb); clear HB; have HB := n0_; clear n0_; (try clear hb); (try clear hb2); (try clear hk); (try clear hi)))
  go_ret
  exact ⟨by first | rfl | (simp [errW_none, errW_some] <;> rfl) | (simp [*, errW_none, errW_some] <;> rfl), by repeat (first | (with_reducible first | exact HB.out | apply below_alloc | apply pw_below_drewN | apply below_drew1) | exact HB.out)⟩

/-! ### umlautref5_Of: function 8 -/
def umlautref5_Of.f (a0 : Int) : Option (Int × Int × Int × Bool) := some (wrap64 (a0 / 65536), wrap64 (Go.bits .and .u32 (a0 / 256) 255), wrap64 (Go.bits .and .u32 (a0 / 2) 127), ((Go.bits .and .u32 a0 1) == 1))
set_option maxHeartbeats 8000000 in
set_option maxRecDepth 100000 in
theorem umlautref5_Of.calls (a0 : Int) (r1 : Int) (r2 : Int) (r3 : Int) (r4 : Bool) (w : World) (h : umlautref5_Of.f a0 = some (r1, r2, r3, r4)) :
    Calls Tryd.prog 8 #[.int .u32 a0] w fun e w' => e = .returned (.agg #[.int .i64 r1, .int .i64 r2, .int .i64 r3, .bool r4]) ∧ Below w.heap.size w w' := by
  have hu26 := Tryd.underlying26
  have HB := Aside0.mk (Below.refl w.heap.size w)
  have H : (some (wrap64 (a0 / 65536), wrap64 (Go.bits .and .u32 (a0 / 256) 255), wrap64 (Go.bits .and .u32 (a0 / 2) 127), ((Go.bits .and .u32 a0 1) == 1))) = some (r1, r2, r3, r4) := h
  clear h
  simp only [Option.some.injEq, Prod.mk.injEq] at H
  obtain ⟨rfl, rfl, rfl, rfl⟩ := H
  go_enter Tryd.func8, Tryd.ntmps8
  go_wp2_with (first | ((with_reducible refine gate_dst (N := 2) rfl ?_); refine box_event ?hg (N := 2) ?hd (cs := #[.int .i64 0, .int .i64 0, .int .i64 0, .bool false]) (t := 26) ?hr ?_; (case hd => rfl); (case hg => rfl); (case hr => first | (go_simp; done) | (go_simp; rfl)); intro gb105 hg w2 hbox hb; have n0_ := Aside0.mk (below_step (by repeat (first | (with_reducible first | exact HB.out | apply below_alloc | apply pw_below_drewN | apply below_drew1) | exact HB.out)) hb); have n1_ := Aside0.mk (hbox); have n2_ := Aside0.mk ((by rw [hg]; exact (below_size (by repeat (first | (with_reducible first | exact HB.out | apply below_alloc | apply pw_below_drewN | apply below_drew1) | exact HB.out))) : w.heap.size ≤ gb105)); have n3_ := Aside0.mk ((by rw [hg]; exact (below_size (by repeat (first | (with_reducible first | exact HB.out | apply below_alloc | apply pw_below_drewN | apply below_drew1) | exact HB.out))) : w.heap.size ≤ gb105)); clear HB; have HB := n0_; have BK105 := n1_; have GW105 := n2_; have GE105 := n3_; clear n0_ n1_ n2_ n3_; clear hb hbox hg; have hcz3_0 : w2.cell? ⟨gb105, 0, none⟩ = some (.int .i64 0) := (blk_cell BK105.out 0).trans rfl; have hcz3_1 : w2.cell? ⟨gb105, 1, none⟩ = some (.int .i64 0) := (blk_cell BK105.out 1).trans rfl; have hcz3_2 : w2.cell? ⟨gb105, 2, none⟩ = some (.int .i64 0) := (blk_cell BK105.out 2).trans rfl; have hcz3_3 : w2.cell? ⟨gb105, 3, none⟩ = some (.bool false) := (blk_cell BK105.out 3).trans rfl; have hfz3_0 := blk_frozen BK105.out 0; have hfz3_1 := blk_frozen BK105.out 1; have hfz3_2 := blk_frozen BK105.out 2; have hfz3_3 := blk_frozen BK105.out 3))
  refine bodyPost_ret (results_cell_row rfl _ _ gb105 26 #[.int .i64 (wrap64 (a0 / 65536)), .int .i64 (wrap64 (Go.bits .and .u32 (a0 / 256) 255)), .int .i64 (wrap64 (Go.bits .and .u32 (a0 / 2) 127)), .bool ((Go.bits .and .u32 a0 1) == 1)] (0, 0) _ rfl (by (with_reducible repeat (first | refine blk_drewN ?_ _ | refine blk_drew ?_ | refine blk_alloc ?_ _)); refine blk_put (cs := #[.int .i64 (wrap64 (a0 / 65536)), .int .i64 (wrap64 (Go.bits .and .u32 (a0 / 256) 255)), .int .i64 (wrap64 (Go.bits .and .u32 (a0 / 2) 127)), .bool false]) ?_ 3 _ rfl; (with_reducible repeat (first | refine blk_drewN ?_ _ | refine blk_drew ?_ | refine blk_alloc ?_ _)); refine blk_put (cs := #[.int .i64 (wrap64 (a0 / 65536)), .int .i64 (wrap64 (Go.bits .and .u32 (a0 / 256) 255)), .int .i64 0, .bool false]) ?_ 2 _ rfl; (with_reducible repeat (first | refine blk_drewN ?_ _ | refine blk_drew ?_ | refine blk_alloc ?_ _)); refine blk_put (cs := #[.int .i64 (wrap64 (a0 / 65536)), .int .i64 0, .int .i64 0, .bool false]) ?_ 1 _ rfl; (with_reducible repeat (first | refine blk_drewN ?_ _ | refine blk_drew ?_ | refine blk_alloc ?_ _)); refine blk_put (cs := #[.int .i64 0, .int .i64 0, .int .i64 0, .bool false]) ?_ 0 _ rfl; (with_reducible repeat (first | refine blk_drewN ?_ _ | refine blk_drew ?_ | refine blk_alloc ?_ _)); exact BK105.out) Tryd.underlying26 rfl (by kernel_rfl)) rfl ?_
  exact ⟨by first | rfl | (simp [errW_none, errW_some] <;> rfl) | (simp [*, errW_none, errW_some] <;> rfl), by repeat (first | (with_reducible first | exact HB.out | apply below_alloc | apply pw_below_drewN | apply below_drew1 | refine below_set ?_ GE105.out) | exact HB.out)⟩

/-! ### umlautref5_Elem_Word: function 9 -/
def umlautref5_Elem_Word.f (a0_0 : Int) (a0_1 : Int) (a0_2 : Int) (a0_3 : Bool) : Option (Int) := if a0_3 = true then (some (Go.bits .or .u32 (Go.bits .or .u32 (Go.bits .or .u32 ((((a0_0) % 4294967296) * 65536) % 4294967296) ((((a0_1) % 4294967296) * 256) % 4294967296)) ((((a0_2) % 4294967296) * 2) % 4294967296)) 1)) else (some (Go.bits .or .u32 (Go.bits .or .u32 ((((a0_0) % 4294967296) * 65536) % 4294967296) ((((a0_1) % 4294967296) * 256) % 4294967296)) ((((a0_2) % 4294967296) * 2) % 4294967296)))
set_option maxHeartbeats 8000000 in
set_option maxRecDepth 100000 in
theorem umlautref5_Elem_Word.calls (a0_0 : Int) (a0_1 : Int) (a0_2 : Int) (a0_3 : Bool) (r : Int) (w : World) (h : umlautref5_Elem_Word.f a0_0 a0_1 a0_2 a0_3 = some r) :
    Calls Tryd.prog 9 #[.agg #[.int .i64 a0_0, .int .i64 a0_1, .int .i64 a0_2, .bool a0_3]] w fun e w' => e = .returned (.int .u32 r) ∧ Below w.heap.size w w' := by
  have hu26 := Tryd.underlying26
  have HB := Aside0.mk (Below.refl w.heap.size w)
  have H : (if a0_3 = true then (some (Go.bits .or .u32 (Go.bits .or .u32 (Go.bits .or .u32 ((((a0_0) % 4294967296) * 65536) % 4294967296) ((((a0_1) % 4294967296) * 256) % 4294967296)) ((((a0_2) % 4294967296) * 2) % 4294967296)) 1)) else (some (Go.bits .or .u32 (Go.bits .or .u32 ((((a0_0) % 4294967296) * 65536) % 4294967296) ((((a0_1) % 4294967296) * 256) % 4294967296)) ((((a0_2) % 4294967296) * 2) % 4294967296)))) = some r := h
  clear h
  by_cases c2 : a0_3 = true
  · subst c2
    have H1 : (some (Go.bits .or .u32 (Go.bits .or .u32 (Go.bits .or .u32 ((((a0_0) % 4294967296) * 65536) % 4294967296) ((((a0_1) % 4294967296) * 256) % 4294967296)) ((((a0_2) % 4294967296) * 2) % 4294967296)) 1)) = some r := by rw [if_pos rfl] at H; exact H
    clear H
    have H := H1
    clear H1
    obtain rfl := Option.some.inj H
    go_enter Tryd.func9, Tryd.ntmps9
    go_wp2_with (first | ((with_reducible refine gate_dst (N := 1) rfl ?_); refine box_event ?hg (N := 1) ?hd (cs := #[.int .i64 a0_0, .int .i64 a0_1, .int .i64 a0_2, .bool true]) (t := 26) ?hr ?_; (case hd => rfl); (case hg => rfl); (case hr => first | (go_simp; done) | (go_simp; rfl)); intro gb106 hg w3 hbox hb; have n0_ := Aside0.mk (below_step (by repeat (first | (with_reducible first | exact HB.out | apply below_alloc | apply pw_below_drewN | apply below_drew1) | exact HB.out)) hb); have n1_ := Aside0.mk (hbox); have n2_ := Aside0.mk ((by rw [hg]; exact (below_size (by repeat (first | (with_reducible first | exact HB.out | apply below_alloc | apply pw_below_drewN | apply below_drew1) | exact HB.out))) : w.heap.size ≤ gb106)); have n3_ := Aside0.mk ((by rw [hg]; exact (below_size (by repeat (first | (with_reducible first | exact HB.out | apply below_alloc | apply pw_below_drewN | apply below_drew1) | exact HB.out))) : w.heap.size ≤ gb106)); clear HB; have HB := n0_; have BK106 := n1_; have GW106 := n2_; have GE106 := n3_; clear n0_ n1_ n2_ n3_; clear hb hbox hg; have hcz4_0 : w3.cell? ⟨gb106, 0, none⟩ = some (.int .i64 a0_0) := (blk_cell BK106.out 0).trans rfl; have hcz4_1 : w3.cell? ⟨gb106, 1, none⟩ = some (.int .i64 a0_1) := (blk_cell BK106.out 1).trans rfl; have hcz4_2 : w3.cell? ⟨gb106, 2, none⟩ = some (.int .i64 a0_2) := (blk_cell BK106.out 2).trans rfl; have hcz4_3 : w3.cell? ⟨gb106, 3, none⟩ = some (.bool true) := (blk_cell BK106.out 3).trans rfl; have hfz4_0 := blk_frozen BK106.out 0; have hfz4_1 := blk_frozen BK106.out 1; have hfz4_2 := blk_frozen BK106.out 2; have hfz4_3 := blk_frozen BK106.out 3))
    go_ret
    exact ⟨by first | rfl | (simp [errW_none, errW_some] <;> rfl) | (simp [*, errW_none, errW_some] <;> rfl), by repeat (first | (with_reducible first | exact HB.out | apply below_alloc | apply pw_below_drewN | apply below_drew1 | refine below_set ?_ GE106.out) | exact HB.out)⟩
  · replace c2 := Bool.eq_false_iff.mpr c2
    subst c2
    have H1 : (some (Go.bits .or .u32 (Go.bits .or .u32 ((((a0_0) % 4294967296) * 65536) % 4294967296) ((((a0_1) % 4294967296) * 256) % 4294967296)) ((((a0_2) % 4294967296) * 2) % 4294967296))) = some r := by rw [if_neg (show ¬ (false = true) by decide)] at H; exact H
    clear H
    have H := H1
    clear H1
    obtain rfl := Option.some.inj H
    go_enter Tryd.func9, Tryd.ntmps9
    go_wp2_with (first | ((with_reducible refine gate_dst (N := 1) rfl ?_); refine box_event ?hg (N := 1) ?hd (cs := #[.int .i64 a0_0, .int .i64 a0_1, .int .i64 a0_2, .bool false]) (t := 26) ?hr ?_; (case hd => rfl); (case hg => rfl); (case hr => first | (go_simp; done) | (go_simp; rfl)); intro gb106 hg w5 hbox hb; have n0_ := Aside0.mk (below_step (by repeat (first | (with_reducible first | exact HB.out | apply below_alloc | apply pw_below_drewN | apply below_drew1) | exact HB.out)) hb); have n1_ := Aside0.mk (hbox); have n2_ := Aside0.mk ((by rw [hg]; exact (below_size (by repeat (first | (with_reducible first | exact HB.out | apply below_alloc | apply pw_below_drewN | apply below_drew1) | exact HB.out))) : w.heap.size ≤ gb106)); have n3_ := Aside0.mk ((by rw [hg]; exact (below_size (by repeat (first | (with_reducible first | exact HB.out | apply below_alloc | apply pw_below_drewN | apply below_drew1) | exact HB.out))) : w.heap.size ≤ gb106)); clear HB; have HB := n0_; have BK106 := n1_; have GW106 := n2_; have GE106 := n3_; clear n0_ n1_ n2_ n3_; clear hb hbox hg; have hcz6_0 : w5.cell? ⟨gb106, 0, none⟩ = some (.int .i64 a0_0) := (blk_cell BK106.out 0).trans rfl; have hcz6_1 : w5.cell? ⟨gb106, 1, none⟩ = some (.int .i64 a0_1) := (blk_cell BK106.out 1).trans rfl; have hcz6_2 : w5.cell? ⟨gb106, 2, none⟩ = some (.int .i64 a0_2) := (blk_cell BK106.out 2).trans rfl; have hcz6_3 : w5.cell? ⟨gb106, 3, none⟩ = some (.bool false) := (blk_cell BK106.out 3).trans rfl; have hfz6_0 := blk_frozen BK106.out 0; have hfz6_1 := blk_frozen BK106.out 1; have hfz6_2 := blk_frozen BK106.out 2; have hfz6_3 := blk_frozen BK106.out 3))
    go_ret
    exact ⟨by first | rfl | (simp [errW_none, errW_some] <;> rfl) | (simp [*, errW_none, errW_some] <;> rfl), by repeat (first | (with_reducible first | exact HB.out | apply below_alloc | apply pw_below_drewN | apply below_drew1 | refine below_set ?_ GE106.out) | exact HB.out)⟩

/-! ### elem_Make: function 11 -/
def elem_Make.l0 : Nat → Bool → Int → Int → Int → Int → Int → Option (Int × Int)
  | 0, _, _, _, _, _, _ => none
  | k + 1, x3, x10, x15, x16, x17, x19 => if x19 < 3 then (if 0 ≤ x19 then ((elem_field.f (wrap64 (x19 + 1))).bind fun bt107 => (if (pick3 x19 x15 x16 x17) < 0 then (some (0, 1)) else (if 0 ≤ bt107.2 then (if (pick3 x19 x15 x16 x17) ≥ (shl .i64 1 bt107.2) then (some (0, 1)) else ((elem_Elem_With.f k x10 (wrap64 (x19 + 1)) (pick3 x19 x15 x16 x17)).bind fun t109 => (elem_Make.l0 k x3 t109 x15 x16 x17 (wrap64 (x19 + 1))))) else (none)))) else (none)) else (if x3 = true then (some (Go.bits .or .u32 x10 1, 0)) else (some (x10, 0)))
def elem_Make.f (k : Nat) (a0 : Int) (a1 : Int) (a2 : Int) (a3 : Bool) : Option (Int × Int) := elem_Make.l0 k a3 0 a0 a1 a2 0
theorem elem_Make.mono_l : ∀ k, (∀ y0 y1 y2 y3 y4 y5, LeO (elem_Make.l0 k y0 y1 y2 y3 y4 y5) (elem_Make.l0 (k + 1) y0 y1 y2 y3 y4 y5))
  | 0 => fun _ _ _ _ _ _ r h => by simp [elem_Make.l0] at h
  | k + 1 => by
    have ih0 := elem_Make.mono_l k
    · intro y0 y1 y2 y3 y4 y5
      unfold elem_Make.l0
      repeat' first
      | (with_reducible exact ih0 _ _ _ _ _ _)
      | (with_reducible exact elem_Elem_With.mono _ _ _ _)
      | (with_reducible exact LeO.refl _)
      | (with_reducible exact LeO.none _)
      | (with_reducible refine LeO.ite ?_ ?_)
      | (with_reducible refine LeO.bind ?_ (fun _ => ?_))
      | exact ih0 _ _ _ _ _ _
      | exact elem_Elem_With.mono _ _ _ _
      | exact LeO.none _
      | refine LeO.ite ?_ ?_
      | refine LeO.bind ?_ (fun _ => ?_)
theorem elem_Make.mono : ∀ a0 a1 a2 a3 k, LeO (elem_Make.f k a0 a1 a2 a3) (elem_Make.f (k + 1) a0 a1 a2 a3) := by
  intro a0 a1 a2 a3 k
  have ih0 := elem_Make.mono_l k
  unfold elem_Make.f
  repeat' first
      | (with_reducible exact ih0 _ _ _ _ _ _)
      | (with_reducible exact elem_Elem_With.mono _ _ _ _)
      | (with_reducible exact LeO.refl _)
      | (with_reducible exact LeO.none _)
      | (with_reducible refine LeO.ite ?_ ?_)
      | (with_reducible refine LeO.bind ?_ (fun _ => ?_))
      | exact ih0 _ _ _ _ _ _
      | exact elem_Elem_With.mono _ _ _ _
      | exact LeO.none _
      | refine LeO.ite ?_ ?_
      | refine LeO.bind ?_ (fun _ => ?_)
set_option maxHeartbeats 8000000 in
set_option maxRecDepth 100000 in
theorem elem_Make.calls (k : Nat) (a0 : Int) (a1 : Int) (a2 : Int) (a3 : Bool) (r1 : Int) (r2 : Int) (w : World) (h : elem_Make.f k a0 a1 a2 a3 = some (r1, r2)) :
    Calls Tryd.prog 11 #[.int .i64 a0, .int .i64 a1, .int .i64 a2, .bool a3] w fun e w' => e = .returned (.tuple #[.int .u32 r1, .int .i64 r2]) ∧ Below w.heap.size w w' := by
  have hu46 := Tryd.underlying46
  have HB := Aside0.mk (Below.refl w.heap.size w)
  have H : (elem_Make.l0 k a3 0 a0 a1 a2 0) = some (r1, r2) := h
  clear h
  have H' := Aside0.mk H
  clear H
  go_enter Tryd.func11, Tryd.ntmps11
  go_wp2
  go_loopg [10, 19] k (fun kq v10 v19 w' => ∃ (x10_1 : Int) (x19_1 : Int), v10 = .int .u32 x10_1 ∧ v19 = .int .i64 x19_1 ∧ Aside0 (elem_Make.l0 kq a3 x10_1 a0 a1 a2 x19_1 = some (r1, r2)) ∧ Aside0 (kq ≤ k) ∧ Aside0 (Below w.heap.size w w'))
  case atStart => exact ⟨(0), (0), (by first | rfl | (simp; done) | (simp [*]; done)), (by first | rfl | (simp; done) | (simp [*]; done)), H', ⟨Nat.le_refl _⟩, ⟨by repeat (first | (with_reducible first | exact HB.out | apply below_alloc | apply pw_below_drewN | apply below_drew1) | exact HB.out)⟩⟩
  case round =>
    clear H'
    try clear c1
    try clear p2
    obtain ⟨x10_1, x19_1, rfl, rfl, HA, HK1, HB⟩ := hrel
    cases gk with
    | zero => exact absurd HA.out (by simp [elem_Make.l0])
    | succ k1 =>
      have H := HA.out
      clear HA
      simp only [elem_Make.l0] at H
      by_cases c5 : x19_1 < 3
      · rw [if_pos c5] at H
        have c5b0 : decide (x19_1 < 3) = true := decide_eq_true c5
        clear c5
        by_cases c6 : 0 ≤ x19_1
        · rw [if_pos c6] at H
          have c6b0 := eq_true c6
          have c6b1 : decide (0 ≤ x19_1) = true := decide_eq_true c6
          clear c6
          have c7b0 := eq_true (of_decide_eq_true (by first | (with_reducible assumption) | assumption) : x19_1 < 3)
          replace H := Option.bind_eq_some_iff.mp H
          obtain ⟨⟨t107, t108⟩, A80, H⟩ := H
          replace H : (if (pick3 x19_1 a0 a1 a2) < 0 then (some (0, 1)) else (if 0 ≤ t108 then (if (pick3 x19_1 a0 a1 a2) ≥ (shl .i64 1 t108) then (some (0, 1)) else ((elem_Elem_With.f k1 x10_1 (wrap64 (x19_1 + 1)) (pick3 x19_1 a0 a1 a2)).bind fun t109 => (elem_Make.l0 k1 a3 t109 a0 a1 a2 (wrap64 (x19_1 + 1))))) else (none))) = some (r1, r2) := H
          have A8 := Aside0.mk A80
          clear A80
          by_cases c9 : (pick3 x19_1 a0 a1 a2) < 0
          · rw [if_pos c9] at H
            have c9b0 : decide ((pick3 x19_1 a0 a1 a2) < 0) = true := decide_eq_true c9
            clear c9
            simp only [Option.some.injEq, Prod.mk.injEq] at H
            obtain ⟨rfl, rfl⟩ := H
            go_wp2_with (first | ((with_reducible refine gate_callee (f := 19) rfl ?_); refine goesL_ (some 26) rfl rfl Tryd.func19 (by kernel_rfl) rfl #[.int .i64 (wrap64 (x19_1 + 1))] rfl (by (try simp only [List.map_toArray, List.map_cons, List.map_nil]); first | done | rfl | (simp only [List.length_drop, List.length_take]; rfl)) ?_; (with_reducible refine (elem_field.calls (wrap64 (x19_1 + 1)) t107 t108 _ A8.out).mono ?_); rintro e w' ⟨rfl, ⟨nd, rfl⟩⟩; refine ⟨_, rfl, ?_⟩))
            go_ret2
            exact ⟨by first | rfl | (simp [errW_none, errW_some] <;> rfl) | (simp [*, errW_none, errW_some] <;> rfl), by repeat (first | (with_reducible first | exact HB.out | apply below_alloc | apply pw_below_drewN | apply below_drew1) | exact HB.out)⟩
          · rw [if_neg c9] at H
            have c9b0 : decide ((pick3 x19_1 a0 a1 a2) < 0) = false := decide_eq_false c9
            clear c9
            by_cases c10 : 0 ≤ t108
            · rw [if_pos c10] at H
              have c10b0 := eq_true c10
              have c10b1 : decide (0 ≤ t108) = true := decide_eq_true c10
              clear c10
              obtain ⟨ji11, hji11⟩ : ∃ j_ : Int, (shl .i64 1 t108) = j_ := ⟨_, rfl⟩
              replace H : (if (pick3 x19_1 a0 a1 a2) ≥ (ji11) then (some (0, 1)) else ((elem_Elem_With.f k1 x10_1 (wrap64 (x19_1 + 1)) (pick3 x19_1 a0 a1 a2)).bind fun t109 => (elem_Make.l0 k1 a3 t109 a0 a1 a2 (wrap64 (x19_1 + 1))))) = some (r1, r2) := by first | (rw [hji11] at H; exact H) | (simp only [hji11] at H ⊢; exact H)
              (try rw [hji11] at A8)
              have hji11_ : (IntKind.i64.wrap (1 * 2 ^ min t108.toNat 64)) = ji11 := hji11
              have hji11z : t108 ≤ 64 → (IntKind.i64.wrap (1 * 2 ^ t108.toNat)) = ji11 := shl_small hji11
              have hji11u : (IntKind.i64.wrap (2 ^ min t108.toNat 64)) = ji11 := by have h_ := hji11_; rw [Int.one_mul] at h_; exact h_
              have hji11v : t108 ≤ 64 → (IntKind.i64.wrap (2 ^ t108.toNat)) = ji11 := fun hle_ => by have h_ := hji11z hle_; rw [Int.one_mul] at h_; exact h_
              have hji11y : (wrap64 (1 * 2 ^ min t108.toNat 64)) = ji11 := (i64_w _).symm.trans hji11_
              have hji11x : t108 ≤ 64 → (wrap64 (1 * 2 ^ t108.toNat)) = ji11 := fun h_ => (i64_w _).symm.trans (hji11z h_)
              by_cases c12 : (pick3 x19_1 a0 a1 a2) ≥ (ji11)
              · rw [if_pos c12] at H
                have c12b0 : decide ((ji11) ≤ (pick3 x19_1 a0 a1 a2)) = true := decide_eq_true c12
                clear c12
                simp only [Option.some.injEq, Prod.mk.injEq] at H
                obtain ⟨rfl, rfl⟩ := H
                go_wp2_with (first | ((with_reducible refine gate_callee (f := 19) rfl ?_); refine goesL_ (some 26) rfl rfl Tryd.func19 (by kernel_rfl) rfl #[.int .i64 (wrap64 (x19_1 + 1))] rfl (by (try simp only [List.map_toArray, List.map_cons, List.map_nil]); first | done | rfl | (simp only [List.length_drop, List.length_take]; rfl)) ?_; (with_reducible refine (elem_field.calls (wrap64 (x19_1 + 1)) t107 t108 _ A8.out).mono ?_); rintro e w' ⟨rfl, ⟨nd, rfl⟩⟩; refine ⟨_, rfl, ?_⟩))
                go_ret2
                exact ⟨by first | rfl | (simp [errW_none, errW_some] <;> rfl) | (simp only [← hji11]; first | rfl | (simp [errW_none, errW_some] <;> rfl)) | (simp [*, errW_none, errW_some] <;> rfl), by repeat (first | (with_reducible first | exact HB.out | apply below_alloc | apply pw_below_drewN | apply below_drew1) | exact HB.out)⟩
              · rw [if_neg c12] at H
                have c12b0 : decide ((ji11) ≤ (pick3 x19_1 a0 a1 a2)) = false := decide_eq_false c12
                clear c12
                replace H := Option.bind_eq_some_iff.mp H
                obtain ⟨t109, A130, H⟩ := H
                replace H : (elem_Make.l0 k1 a3 t109 a0 a1 a2 (wrap64 (x19_1 + 1))) = some (r1, r2) := H
                have A13 := Aside0.mk A130
                clear A130
                have H' := Aside0.mk H
                clear H
                go_wp2_with (first | ((with_reducible refine gate_callee (f := 19) rfl ?_); refine goesL_ (some 26) rfl rfl Tryd.func19 (by kernel_rfl) rfl #[.int .i64 (wrap64 (x19_1 + 1))] rfl (by (try simp only [List.map_toArray, List.map_cons, List.map_nil]); first | done | rfl | (simp only [List.length_drop, List.length_take]; rfl)) ?_; (with_reducible refine (elem_field.calls (wrap64 (x19_1 + 1)) t107 t108 _ A8.out).mono ?_); rintro e w' ⟨rfl, ⟨nd, rfl⟩⟩; refine ⟨_, rfl, ?_⟩) | ((with_reducible refine gate_callee (f := 7) rfl ?_); refine goesL_ (some 41) rfl rfl Tryd.func7 (by kernel_rfl) rfl #[.int .u32 x10_1, .int .i64 (wrap64 (x19_1 + 1)), .int .i64 (pick3 x19_1 a0 a1 a2)] rfl (by (try simp only [List.map_toArray, List.map_cons, List.map_nil]); first | done | rfl | (simp only [List.length_drop, List.length_take]; rfl)) ?_; (with_reducible refine (elem_Elem_With.calls k1 x10_1 (wrap64 (x19_1 + 1)) (pick3 x19_1 a0 a1 a2) t109 _ A13.out).mono ?_); rintro e w14 ⟨rfl, hb⟩; refine ⟨_, rfl, ?_⟩; have n0_ := Aside0.mk (below_step (by repeat (first | (with_reducible first | exact HB.out | apply below_alloc | apply pw_below_drewN | apply below_drew1) | exact HB.out)) hb); clear HB; have HB := n0_; clear n0_; (try clear hb); (try clear hb2); (try clear hk); (try clear hi)))
                go_roundg k1
                case measure => have := HK1.out; omega
                case rel => exact ⟨(t109), (wrap64 (x19_1 + 1)), (by first | rfl | (simp; done) | (simp [*]; done)), (by first | rfl | (simp; done) | (simp [*]; done)), H', ⟨by have := HK1.out; omega⟩, ⟨by repeat (first | (with_reducible first | exact HB.out | apply below_alloc | apply pw_below_drewN | apply below_drew1) | exact HB.out)⟩⟩
            · rw [if_neg c10] at H
              exact absurd H (by simp)
        · rw [if_neg c6] at H
          exact absurd H (by simp)
      · rw [if_neg c5] at H
        have c5b0 : decide (x19_1 < 3) = false := decide_eq_false c5
        clear c5
        by_cases c15 : a3 = true
        · subst c15
          have H1 : (some (Go.bits .or .u32 x10_1 1, 0)) = some (r1, r2) := by rw [if_pos rfl] at H; exact H
          clear H
          have H := H1
          clear H1
          simp only [Option.some.injEq, Prod.mk.injEq] at H
          obtain ⟨rfl, rfl⟩ := H
          go_wp2
          go_ret2
          exact ⟨by first | rfl | (simp [errW_none, errW_some] <;> rfl) | (simp [*, errW_none, errW_some] <;> rfl), by repeat (first | (with_reducible first | exact HB.out | apply below_alloc | apply pw_below_drewN | apply below_drew1) | exact HB.out)⟩
        · replace c15 := Bool.eq_false_iff.mpr c15
          subst c15
          have H1 : (some (x10_1, 0)) = some (r1, r2) := by rw [if_neg (show ¬ (false = true) by decide)] at H; exact H
          clear H
          have H := H1
          clear H1
          simp only [Option.some.injEq, Prod.mk.injEq] at H
          obtain ⟨rfl, rfl⟩ := H
          go_wp2
          go_ret2
          exact ⟨by first | rfl | (simp [errW_none, errW_some] <;> rfl) | (simp [*, errW_none, errW_some] <;> rfl), by repeat (first | (with_reducible first | exact HB.out | apply below_alloc | apply pw_below_drewN | apply below_drew1) | exact HB.out)⟩

/-! ### ints_Get: function 21 -/
def ints_Get.f (k : Nat) (a0 : Int) (a1 : Int) (a2 : Int) : Option (Int) := (ints_mask.f k a1 a2).bind fun t110 => (some ((Go.bits .and .u64 a0 t110) / 2 ^ (mn (mx a1 0) 64).toNat))
theorem ints_Get.mono : ∀ a0 a1 a2 k, LeO (ints_Get.f k a0 a1 a2) (ints_Get.f (k + 1) a0 a1 a2) := by
  intro a0 a1 a2 k
  unfold ints_Get.f
  repeat' first
      | (with_reducible exact ints_mask.mono _ _ _)
      | (with_reducible exact LeO.refl _)
      | (with_reducible exact LeO.none _)
      | (with_reducible refine LeO.ite ?_ ?_)
      | (with_reducible refine LeO.bind ?_ (fun _ => ?_))
      | exact ints_mask.mono _ _ _
      | exact LeO.none _
      | refine LeO.ite ?_ ?_
      | refine LeO.bind ?_ (fun _ => ?_)
set_option maxHeartbeats 8000000 in
set_option maxRecDepth 100000 in
theorem ints_Get.calls (k : Nat) (a0 : Int) (a1 : Int) (a2 : Int) (r : Int) (w : World) (h : ints_Get.f k a0 a1 a2 = some r) :
    Calls Tryd.prog 21 #[.int .u64 a0, .int .i64 a1, .int .i64 a2] w fun e w' => e = .returned (.int .u64 r) ∧ Below w.heap.size w w' := by
  have HB := Aside0.mk (Below.refl w.heap.size w)
  have H : ((ints_mask.f k a1 a2).bind fun t110 => (some ((Go.bits .and .u64 a0 t110) / 2 ^ (mn (mx a1 0) 64).toNat))) = some r := h
  clear h
  replace H := Option.bind_eq_some_iff.mp H
  obtain ⟨t110, A40, H⟩ := H
  replace H : (some ((Go.bits .and .u64 a0 t110) / 2 ^ (mn (mx a1 0) 64).toNat)) = some r := H
  have A4 := Aside0.mk A40
  clear A40
  obtain ⟨ji5, hji5⟩ : ∃ j_ : Int, (mx a1 0) = j_ := ⟨_, rfl⟩
  replace H : (some ((Go.bits .and .u64 a0 t110) / 2 ^ (mn (ji5) 64).toNat)) = some r := by first | (rw [hji5] at H; exact H) | (simp only [hji5] at H ⊢; exact H)
  (try rw [hji5] at A4)
  (try (have hji5l : 0 ≤ ji5 := by (rw [← hji5]; unfold mx; (repeat' split) <;> omega)))
  (try (have hji5m : 0 ≤ ji5 := by omega))
  have hji5_ : (if a1 < 0 then 0 else a1) = ji5 := hji5
  obtain ⟨ji6, hji6⟩ : ∃ j_ : Int, (mn (ji5) 64) = j_ := ⟨_, rfl⟩
  replace H : (some ((Go.bits .and .u64 a0 t110) / 2 ^ (ji6).toNat)) = some r := by first | (rw [hji6] at H; exact H) | (simp only [hji6] at H ⊢; exact H)
  (try rw [hji6] at A4)
  have hji6_ : (if 64 < (ji5) then 64 else (ji5)) = ji6 := hji6
  obtain rfl := Option.some.inj H
  go_enter Tryd.func21, Tryd.ntmps21
  go_wp2_with (first | ((with_reducible refine gate_callee (f := 28) rfl ?_); refine goesL_ (some 10) rfl rfl Tryd.func28 (by kernel_rfl) rfl #[.int .i64 a1, .int .i64 a2] rfl (by (try simp only [List.map_toArray, List.map_cons, List.map_nil]); first | done | rfl | (simp only [List.length_drop, List.length_take]; rfl)) ?_; (with_reducible refine (ints_mask.calls k a1 a2 t110 _ A4.out).mono ?_); rintro e w' ⟨rfl, ⟨nd, rfl⟩⟩; refine ⟨_, rfl, ?_⟩))
  go_ret
  exact ⟨by first | rfl | (simp [errW_none, errW_some] <;> rfl) | (simp only [← hji5, ← hji6]; first | rfl | (simp [errW_none, errW_some] <;> rfl)) | (simp [*, errW_none, errW_some] <;> rfl), by repeat (first | (with_reducible first | exact HB.out | apply below_alloc | apply pw_below_drewN | apply below_drew1) | exact HB.out)⟩

/-! ### elem_Elem_Weight: function 12 -/
def elem_Elem_Weight.f (k : Nat) (a0 : Int) (a1 : Int) : Option (Int) := (elem_field.f a1).bind fun bt111 => ((ints_Get.f k (IntKind.u64.wrap (a0)) bt111.1 bt111.2).bind fun t113 => (some (wrap64 (t113))))
theorem elem_Elem_Weight.mono : ∀ a0 a1 k, LeO (elem_Elem_Weight.f k a0 a1) (elem_Elem_Weight.f (k + 1) a0 a1) := by
  intro a0 a1 k
  unfold elem_Elem_Weight.f
  repeat' first
      | (with_reducible exact ints_Get.mono _ _ _ _)
      | (with_reducible exact LeO.refl _)
      | (with_reducible exact LeO.none _)
      | (with_reducible refine LeO.ite ?_ ?_)
      | (with_reducible refine LeO.bind ?_ (fun _ => ?_))
      | exact ints_Get.mono _ _ _ _
      | exact LeO.none _
      | refine LeO.ite ?_ ?_
      | refine LeO.bind ?_ (fun _ => ?_)
set_option maxHeartbeats 8000000 in
set_option maxRecDepth 100000 in
theorem elem_Elem_Weight.calls (k : Nat) (a0 : Int) (a1 : Int) (r : Int) (w : World) (h : elem_Elem_Weight.f k a0 a1 = some r) :
    Calls Tryd.prog 12 #[.int .u32 a0, .int .i64 a1] w fun e w' => e = .returned (.int .i64 r) ∧ Below w.heap.size w w' := by
  have HB := Aside0.mk (Below.refl w.heap.size w)
  have H : ((elem_field.f a1).bind fun bt111 => ((ints_Get.f k (IntKind.u64.wrap (a0)) bt111.1 bt111.2).bind fun t113 => (some (wrap64 (t113))))) = some r := h
  clear h
  replace H := Option.bind_eq_some_iff.mp H
  obtain ⟨⟨t111, t112⟩, A30, H⟩ := H
  replace H : ((ints_Get.f k (IntKind.u64.wrap (a0)) t111 t112).bind fun t113 => (some (wrap64 (t113)))) = some r := H
  have A3 := Aside0.mk A30
  clear A30
  replace H := Option.bind_eq_some_iff.mp H
  obtain ⟨t113, A40, H⟩ := H
  replace H : (some (wrap64 (t113))) = some r := H
  have A4 := Aside0.mk A40
  clear A40
  obtain rfl := Option.some.inj H
  go_enter Tryd.func12, Tryd.ntmps12
  go_wp2_with (first | ((with_reducible refine gate_callee (f := 19) rfl ?_); refine goesL_ (some 9) rfl rfl Tryd.func19 (by kernel_rfl) rfl #[.int .i64 a1] rfl (by (try simp only [List.map_toArray, List.map_cons, List.map_nil]); first | done | rfl | (simp only [List.length_drop, List.length_take]; rfl)) ?_; (with_reducible refine (elem_field.calls a1 t111 t112 _ A3.out).mono ?_); rintro e w' ⟨rfl, ⟨nd, rfl⟩⟩; refine ⟨_, rfl, ?_⟩) | ((with_reducible refine gate_callee (f := 21) rfl ?_); refine goesL_ (some 16) rfl rfl Tryd.func21 (by kernel_rfl) rfl #[.int .u64 (IntKind.u64.wrap (a0)), .int .i64 t111, .int .i64 t112] rfl (by (try simp only [List.map_toArray, List.map_cons, List.map_nil]); first | done | rfl | (simp only [List.length_drop, List.length_take]; rfl)) ?_; (with_reducible refine (ints_Get.calls k (IntKind.u64.wrap (a0)) t111 t112 t113 _ A4.out).mono ?_); rintro e w5 ⟨rfl, hb⟩; refine ⟨_, rfl, ?_⟩; have n0_ := Aside0.mk (below_step (by repeat (first | (with_reducible first | exact HB.out | apply below_alloc | apply pw_below_drewN | apply below_drew1) | exact HB.out)) hb); clear HB; have HB := n0_; clear n0_; (try clear hb); (try clear hb2); (try clear hk); (try clear hi)))
  go_ret
  exact ⟨by first | rfl | (simp [errW_none, errW_some] <;> rfl) | (simp [*, errW_none, errW_some] <;> rfl), by repeat (first | (with_reducible first | exact HB.out | apply below_alloc | apply pw_below_drewN | apply below_drew1) | exact HB.out)⟩

/-! ### elem_Elem_Variable: function 13 -/
def elem_Elem_Variable.f (a0 : Int) : Option (Bool) := some (decide ((Go.bits .and .u32 a0 1) > 0))
set_option maxHeartbeats 8000000 in
set_option maxRecDepth 100000 in
theorem elem_Elem_Variable.calls (a0 : Int) (r : Bool) (w : World) (h : elem_Elem_Variable.f a0 = some r) :
    Calls Tryd.prog 13 #[.int .u32 a0] w fun e w' => e = .returned (.bool r) ∧ Drawn0 w w' := by
  have H : (some (decide ((Go.bits .and .u32 a0 1) > 0))) = some r := h
  clear h
  obtain rfl := Option.some.inj H
  go_enter Tryd.func13, Tryd.ntmps13
  go_wp2
  go_ret
  exact ⟨by first | rfl | (simp; done) | (simp [*]; done), by repeat (first | exact Drawn0.refl _ | apply Drawn0.step)⟩

-- GIVEN: function 22 (elem_hex)

/-! ### elem_Elem_Text: function 16 -/
def elem_Elem_Text.j0 : Nat → Int → ByteArray → Option (ByteArray)
  | 0, _, _ => none
  | k + 1, x0, x3 => (elem_Elem_Weight.f k x0 1).bind fun t115 => ((elem_hex.f t115 4).bind fun t116 => (if x3.size + t116.size ≤ 9223372036854775807 then (if (x3 ++ t116).size + 1 ≤ 9223372036854775807 then ((elem_Elem_Weight.f k x0 2).bind fun t117 => ((elem_hex.f t117 2).bind fun t118 => (if ((x3 ++ t116) ++ (⟨#[46]⟩ : ByteArray)).size + t118.size ≤ 9223372036854775807 then (if (((x3 ++ t116) ++ (⟨#[46]⟩ : ByteArray)) ++ t118).size + 1 ≤ 9223372036854775807 then ((elem_Elem_Weight.f k x0 3).bind fun t119 => ((elem_hex.f t119 2).bind fun t120 => (if ((((x3 ++ t116) ++ (⟨#[46]⟩ : ByteArray)) ++ t118) ++ (⟨#[46]⟩ : ByteArray)).size + t120.size ≤ 9223372036854775807 then (if (((((x3 ++ t116) ++ (⟨#[46]⟩ : ByteArray)) ++ t118) ++ (⟨#[46]⟩ : ByteArray)) ++ t120).size + 1 ≤ 9223372036854775807 then (some ((((((x3 ++ t116) ++ (⟨#[46]⟩ : ByteArray)) ++ t118) ++ (⟨#[46]⟩ : ByteArray)) ++ t120) ++ (⟨#[93]⟩ : ByteArray))) else (none)) else (none)))) else (none)) else (none)))) else (none)) else (none)))
def elem_Elem_Text.f (k : Nat) (a0 : Int) : Option (ByteArray) := (elem_Elem_Variable.f a0).bind fun t114 => (if t114 = true then (if 1 + 1 ≤ 9223372036854775807 then (elem_Elem_Text.j0 k a0 ((⟨#[91]⟩ : ByteArray) ++ (⟨#[42]⟩ : ByteArray))) else (none)) else (elem_Elem_Text.j0 k a0 (⟨#[91]⟩ : ByteArray)))
theorem elem_Elem_Text.mono_l : ∀ k, (∀ y0 y1, LeO (elem_Elem_Text.j0 k y0 y1) (elem_Elem_Text.j0 (k + 1) y0 y1))
  | 0 => fun _ _ r h => by simp [elem_Elem_Text.j0] at h
  | k + 1 => by
    have ih0 := elem_Elem_Text.mono_l k
    · intro y0 y1
      unfold elem_Elem_Text.j0
      repeat' first
      | (with_reducible exact ih0 _ _)
      | (with_reducible exact elem_Elem_Weight.mono _ _ _)
      | (with_reducible exact LeO.refl _)
      | (with_reducible exact LeO.none _)
      | (with_reducible refine LeO.ite ?_ ?_)
      | (with_reducible refine LeO.bind ?_ (fun _ => ?_))
      | exact ih0 _ _
      | exact elem_Elem_Weight.mono _ _ _
      | exact LeO.none _
      | refine LeO.ite ?_ ?_
      | refine LeO.bind ?_ (fun _ => ?_)
theorem elem_Elem_Text.mono : ∀ a0 k, LeO (elem_Elem_Text.f k a0) (elem_Elem_Text.f (k + 1) a0) := by
  intro a0 k
  have ih0 := elem_Elem_Text.mono_l k
  unfold elem_Elem_Text.f
  repeat' first
      | (with_reducible exact ih0 _ _)
      | (with_reducible exact elem_Elem_Weight.mono _ _ _)
      | (with_reducible exact LeO.refl _)
      | (with_reducible exact LeO.none _)
      | (with_reducible refine LeO.ite ?_ ?_)
      | (with_reducible refine LeO.bind ?_ (fun _ => ?_))
      | exact ih0 _ _
      | exact elem_Elem_Weight.mono _ _ _
      | exact LeO.none _
      | refine LeO.ite ?_ ?_
      | refine LeO.bind ?_ (fun _ => ?_)
set_option maxHeartbeats 8000000 in
set_option maxRecDepth 100000 in
theorem elem_Elem_Text.calls (k : Nat) (a0 : Int) (r : ByteArray) (w : World) (hG0 : GW w) (h : elem_Elem_Text.f k a0 = some r) :
    Calls Tryd.prog 16 #[.int .u32 a0] w fun e w' => e = .returned (.string r) ∧ Below w.heap.size w w' := by
  have HG := Aside0.mk hG0
  clear hG0
  have HB := Aside0.mk (Below.refl w.heap.size w)
  have H : ((elem_Elem_Variable.f a0).bind fun t114 => (if t114 = true then (if 1 + 1 ≤ 9223372036854775807 then (elem_Elem_Text.j0 k a0 ((⟨#[91]⟩ : ByteArray) ++ (⟨#[42]⟩ : ByteArray))) else (none)) else (elem_Elem_Text.j0 k a0 (⟨#[91]⟩ : ByteArray)))) = some r := h
  clear h
  replace H := Option.bind_eq_some_iff.mp H
  obtain ⟨t114, A20, H⟩ := H
  replace H : (if t114 = true then (if 1 + 1 ≤ 9223372036854775807 then (elem_Elem_Text.j0 k a0 ((⟨#[91]⟩ : ByteArray) ++ (⟨#[42]⟩ : ByteArray))) else (none)) else (elem_Elem_Text.j0 k a0 (⟨#[91]⟩ : ByteArray))) = some r := H
  have A2 := Aside0.mk A20
  clear A20
  have HC3 := Aside0.mk H
  clear H
  go_enter Tryd.func16, Tryd.ntmps16
  go_upto_if 5 with (first | ((with_reducible refine gate_callee (f := 13) rfl ?_); refine goesL_ (some 5) rfl rfl Tryd.func13 (by kernel_rfl) rfl #[.int .u32 a0] rfl (by (try simp only [List.map_toArray, List.map_cons, List.map_nil]); first | done | rfl | (simp only [List.length_drop, List.length_take]; rfl)) ?_; (with_reducible refine (elem_Elem_Variable.calls a0 t114 _ A2.out).mono ?_); rintro e w' ⟨rfl, ⟨nd, rfl⟩⟩; refine ⟨_, rfl, ?_⟩))
  (try simp only [Act.put, List.setIfInBounds_toArray, List.set_cons_zero, List.set_cons_succ])
  go_cut [3] (fun v3 wc => ∃ (kq : Nat) (x3_2 : ByteArray), v3 = .string x3_2 ∧ Aside0 (elem_Elem_Text.j0 kq a0 x3_2 = some r) ∧ Aside0 (kq ≤ k) ∧ Aside0 (Below w.heap.size w wc))
  case first =>
    have H := HC3.out
    clear HC3
    by_cases c4 : t114 = true
    · subst c4
      have H1 : (if 1 + 1 ≤ 9223372036854775807 then (elem_Elem_Text.j0 k a0 ((⟨#[91]⟩ : ByteArray) ++ (⟨#[42]⟩ : ByteArray))) else (none)) = some r := by rw [if_pos rfl] at H; exact H
      clear H
      have H := H1
      clear H1
      by_cases c5 : 1 + 1 ≤ 9223372036854775807
      · rw [if_pos c5] at H
        have c5b0 := eq_true c5
        have c5b1 : decide (1 + 1 ≤ 9223372036854775807) = true := decide_eq_true c5
        try have c5b2 : (9223372036854775807 < 1 + 1) = False := eq_false (Nat.not_lt.2 c5)
        have H' := Aside0.mk H
        clear H
        go_wp2
        go_meet
        case rel => exact ⟨_, ((⟨#[91]⟩ : ByteArray) ++ (⟨#[42]⟩ : ByteArray)), (by first | rfl | (simp; done) | (simp [*]; done)), H', ⟨by first | omega | exact Nat.le_refl _⟩, ⟨by repeat (first | (with_reducible first | exact HB.out | apply below_alloc | apply pw_below_drewN | apply below_drew1) | exact HB.out)⟩⟩
      · rw [if_neg c5] at H
        exact absurd H (by simp)
    · replace c4 := Bool.eq_false_iff.mpr c4
      subst c4
      have H1 : (elem_Elem_Text.j0 k a0 (⟨#[91]⟩ : ByteArray)) = some r := by rw [if_neg (show ¬ (false = true) by decide)] at H; exact H
      clear H
      have H := H1
      clear H1
      have H' := Aside0.mk H
      clear H
      go_wp2
      go_meet
      case rel => exact ⟨_, ((⟨#[91]⟩ : ByteArray)), (by first | rfl | (simp; done) | (simp [*]; done)), H', ⟨by first | omega | exact Nat.le_refl _⟩, ⟨by repeat (first | (with_reducible first | exact HB.out | apply below_alloc | apply pw_below_drewN | apply below_drew1) | exact HB.out)⟩⟩
  case rest =>
    clear HC3
    try clear c1
    try clear p2
    try clear c4
    try clear c5
    try clear c5b0
    try clear c5b1
    try clear c5b2
    obtain ⟨kq, x3_2, rfl, HA, HJ2, HB⟩ := hcut
    cases kq with
    | zero => exact absurd HA.out (by simp [elem_Elem_Text.j0])
    | succ kj2 =>
      have H := HA.out
      clear HA
      simp only [elem_Elem_Text.j0] at H
      replace H := Option.bind_eq_some_iff.mp H
      obtain ⟨t115, A60, H⟩ := H
      replace H : ((elem_hex.f t115 4).bind fun t116 => (if x3_2.size + t116.size ≤ 9223372036854775807 then (if (x3_2 ++ t116).size + 1 ≤ 9223372036854775807 then ((elem_Elem_Weight.f kj2 a0 2).bind fun t117 => ((elem_hex.f t117 2).bind fun t118 => (if ((x3_2 ++ t116) ++ (⟨#[46]⟩ : ByteArray)).size + t118.size ≤ 9223372036854775807 then (if (((x3_2 ++ t116) ++ (⟨#[46]⟩ : ByteArray)) ++ t118).size + 1 ≤ 9223372036854775807 then ((elem_Elem_Weight.f kj2 a0 3).bind fun t119 => ((elem_hex.f t119 2).bind fun t120 => (if ((((x3_2 ++ t116) ++ (⟨#[46]⟩ : ByteArray)) ++ t118) ++ (⟨#[46]⟩ : ByteArray)).size + t120.size ≤ 9223372036854775807 then (if (((((x3_2 ++ t116) ++ (⟨#[46]⟩ : ByteArray)) ++ t118) ++ (⟨#[46]⟩ : ByteArray)) ++ t120).size + 1 ≤ 9223372036854775807 then (some ((((((x3_2 ++ t116) ++ (⟨#[46]⟩ : ByteArray)) ++ t118) ++ (⟨#[46]⟩ : ByteArray)) ++ t120) ++ (⟨#[93]⟩ : ByteArray))) else (none)) else (none)))) else (none)) else (none)))) else (none)) else (none))) = some r := H
      have A6 := Aside0.mk A60
      clear A60
      replace H := Option.bind_eq_some_iff.mp H
      obtain ⟨t116, A70, H⟩ := H
      replace H : (if x3_2.size + t116.size ≤ 9223372036854775807 then (if (x3_2 ++ t116).size + 1 ≤ 9223372036854775807 then ((elem_Elem_Weight.f kj2 a0 2).bind fun t117 => ((elem_hex.f t117 2).bind fun t118 => (if ((x3_2 ++ t116) ++ (⟨#[46]⟩ : ByteArray)).size + t118.size ≤ 9223372036854775807 then (if (((x3_2 ++ t116) ++ (⟨#[46]⟩ : ByteArray)) ++ t118).size + 1 ≤ 9223372036854775807 then ((elem_Elem_Weight.f kj2 a0 3).bind fun t119 => ((elem_hex.f t119 2).bind fun t120 => (if ((((x3_2 ++ t116) ++ (⟨#[46]⟩ : ByteArray)) ++ t118) ++ (⟨#[46]⟩ : ByteArray)).size + t120.size ≤ 9223372036854775807 then (if (((((x3_2 ++ t116) ++ (⟨#[46]⟩ : ByteArray)) ++ t118) ++ (⟨#[46]⟩ : ByteArray)) ++ t120).size + 1 ≤ 9223372036854775807 then (some ((((((x3_2 ++ t116) ++ (⟨#[46]⟩ : ByteArray)) ++ t118) ++ (⟨#[46]⟩ : ByteArray)) ++ t120) ++ (⟨#[93]⟩ : ByteArray))) else (none)) else (none)))) else (none)) else (none)))) else (none)) else (none)) = some r := H
      have A7 := Aside0.mk A70
      clear A70
      by_cases c8 : x3_2.size + t116.size ≤ 9223372036854775807
      · rw [if_pos c8] at H
        have c8b0 := eq_true c8
        have c8b1 : decide (x3_2.size + t116.size ≤ 9223372036854775807) = true := decide_eq_true c8
        try have c8b2 : (9223372036854775807 < x3_2.size + t116.size) = False := eq_false (Nat.not_lt.2 c8)
        by_cases c9 : (x3_2 ++ t116).size + 1 ≤ 9223372036854775807
        · rw [if_pos c9] at H
          have c9b0 := eq_true c9
          have c9b1 : decide ((x3_2 ++ t116).size + 1 ≤ 9223372036854775807) = true := decide_eq_true c9
          try have c9b2 : (9223372036854775807 < (x3_2 ++ t116).size + 1) = False := eq_false (Nat.not_lt.2 c9)
          try have c9b3 : (9223372036854775807 < x3_2.size + t116.size + 1) = False := by (have z_ := c9b2; simp only [ByteArray.size_append] at z_; exact z_)
          replace H := Option.bind_eq_some_iff.mp H
          obtain ⟨t117, A100, H⟩ := H
          replace H : ((elem_hex.f t117 2).bind fun t118 => (if ((x3_2 ++ t116) ++ (⟨#[46]⟩ : ByteArray)).size + t118.size ≤ 9223372036854775807 then (if (((x3_2 ++ t116) ++ (⟨#[46]⟩ : ByteArray)) ++ t118).size + 1 ≤ 9223372036854775807 then ((elem_Elem_Weight.f kj2 a0 3).bind fun t119 => ((elem_hex.f t119 2).bind fun t120 => (if ((((x3_2 ++ t116) ++ (⟨#[46]⟩ : ByteArray)) ++ t118) ++ (⟨#[46]⟩ : ByteArray)).size + t120.size ≤ 9223372036854775807 then (if (((((x3_2 ++ t116) ++ (⟨#[46]⟩ : ByteArray)) ++ t118) ++ (⟨#[46]⟩ : ByteArray)) ++ t120).size + 1 ≤ 9223372036854775807 then (some ((((((x3_2 ++ t116) ++ (⟨#[46]⟩ : ByteArray)) ++ t118) ++ (⟨#[46]⟩ : ByteArray)) ++ t120) ++ (⟨#[93]⟩ : ByteArray))) else (none)) else (none)))) else (none)) else (none))) = some r := H
          have A10 := Aside0.mk A100
          clear A100
          replace H := Option.bind_eq_some_iff.mp H
          obtain ⟨t118, A110, H⟩ := H
          replace H : (if ((x3_2 ++ t116) ++ (⟨#[46]⟩ : ByteArray)).size + t118.size ≤ 9223372036854775807 then (if (((x3_2 ++ t116) ++ (⟨#[46]⟩ : ByteArray)) ++ t118).size + 1 ≤ 9223372036854775807 then ((elem_Elem_Weight.f kj2 a0 3).bind fun t119 => ((elem_hex.f t119 2).bind fun t120 => (if ((((x3_2 ++ t116) ++ (⟨#[46]⟩ : ByteArray)) ++ t118) ++ (⟨#[46]⟩ : ByteArray)).size + t120.size ≤ 9223372036854775807 then (if (((((x3_2 ++ t116) ++ (⟨#[46]⟩ : ByteArray)) ++ t118) ++ (⟨#[46]⟩ : ByteArray)) ++ t120).size + 1 ≤ 9223372036854775807 then (some ((((((x3_2 ++ t116) ++ (⟨#[46]⟩ : ByteArray)) ++ t118) ++ (⟨#[46]⟩ : ByteArray)) ++ t120) ++ (⟨#[93]⟩ : ByteArray))) else (none)) else (none)))) else (none)) else (none)) = some r := H
          have A11 := Aside0.mk A110
          clear A110
          by_cases c12 : ((x3_2 ++ t116) ++ (⟨#[46]⟩ : ByteArray)).size + t118.size ≤ 9223372036854775807
          · rw [if_pos c12] at H
            have c12b0 := eq_true c12
            have c12b1 : decide (((x3_2 ++ t116) ++ (⟨#[46]⟩ : ByteArray)).size + t118.size ≤ 9223372036854775807) = true := decide_eq_true c12
            try have c12b2 : (9223372036854775807 < ((x3_2 ++ t116) ++ (⟨#[46]⟩ : ByteArray)).size + t118.size) = False := eq_false (Nat.not_lt.2 c12)
            try have c12b3 : (9223372036854775807 < x3_2.size + t116.size + 1 + t118.size) = False := by (have z_ := c12b2; simp only [ByteArray.size_append] at z_; exact z_)
            by_cases c13 : (((x3_2 ++ t116) ++ (⟨#[46]⟩ : ByteArray)) ++ t118).size + 1 ≤ 9223372036854775807
            · rw [if_pos c13] at H
              have c13b0 := eq_true c13
              have c13b1 : decide ((((x3_2 ++ t116) ++ (⟨#[46]⟩ : ByteArray)) ++ t118).size + 1 ≤ 9223372036854775807) = true := decide_eq_true c13
              try have c13b2 : (9223372036854775807 < (((x3_2 ++ t116) ++ (⟨#[46]⟩ : ByteArray)) ++ t118).size + 1) = False := eq_false (Nat.not_lt.2 c13)
              try have c13b3 : (9223372036854775807 < x3_2.size + t116.size + 1 + t118.size + 1) = False := by (have z_ := c13b2; simp only [ByteArray.size_append] at z_; exact z_)
              replace H := Option.bind_eq_some_iff.mp H
              obtain ⟨t119, A140, H⟩ := H
              replace H : ((elem_hex.f t119 2).bind fun t120 => (if ((((x3_2 ++ t116) ++ (⟨#[46]⟩ : ByteArray)) ++ t118) ++ (⟨#[46]⟩ : ByteArray)).size + t120.size ≤ 9223372036854775807 then (if (((((x3_2 ++ t116) ++ (⟨#[46]⟩ : ByteArray)) ++ t118) ++ (⟨#[46]⟩ : ByteArray)) ++ t120).size + 1 ≤ 9223372036854775807 then (some ((((((x3_2 ++ t116) ++ (⟨#[46]⟩ : ByteArray)) ++ t118) ++ (⟨#[46]⟩ : ByteArray)) ++ t120) ++ (⟨#[93]⟩ : ByteArray))) else (none)) else (none))) = some r := H
              have A14 := Aside0.mk A140
              clear A140
              replace H := Option.bind_eq_some_iff.mp H
              obtain ⟨t120, A150, H⟩ := H
              replace H : (if ((((x3_2 ++ t116) ++ (⟨#[46]⟩ : ByteArray)) ++ t118) ++ (⟨#[46]⟩ : ByteArray)).size + t120.size ≤ 9223372036854775807 then (if (((((x3_2 ++ t116) ++ (⟨#[46]⟩ : ByteArray)) ++ t118) ++ (⟨#[46]⟩ : ByteArray)) ++ t120).size + 1 ≤ 9223372036854775807 then (some ((((((x3_2 ++ t116) ++ (⟨#[46]⟩ : ByteArray)) ++ t118) ++ (⟨#[46]⟩ : ByteArray)) ++ t120) ++ (⟨#[93]⟩ : ByteArray))) else (none)) else (none)) = some r := H
              have A15 := Aside0.mk A150
              clear A150
              by_cases c16 : ((((x3_2 ++ t116) ++ (⟨#[46]⟩ : ByteArray)) ++ t118) ++ (⟨#[46]⟩ : ByteArray)).size + t120.size ≤ 9223372036854775807
              · rw [if_pos c16] at H
                have c16b0 := eq_true c16
                have c16b1 : decide (((((x3_2 ++ t116) ++ (⟨#[46]⟩ : ByteArray)) ++ t118) ++ (⟨#[46]⟩ : ByteArray)).size + t120.size ≤ 9223372036854775807) = true := decide_eq_true c16
                try have c16b2 : (9223372036854775807 < ((((x3_2 ++ t116) ++ (⟨#[46]⟩ : ByteArray)) ++ t118) ++ (⟨#[46]⟩ : ByteArray)).size + t120.size) = False := eq_false (Nat.not_lt.2 c16)
                try have c16b3 : (9223372036854775807 < x3_2.size + t116.size + 1 + t118.size + 1 + t120.size) = False := by (have z_ := c16b2; simp only [ByteArray.size_append] at z_; exact z_)
                by_cases c17 : (((((x3_2 ++ t116) ++ (⟨#[46]⟩ : ByteArray)) ++ t118) ++ (⟨#[46]⟩ : ByteArray)) ++ t120).size + 1 ≤ 9223372036854775807
                · rw [if_pos c17] at H
                  have c17b0 := eq_true c17
                  have c17b1 : decide ((((((x3_2 ++ t116) ++ (⟨#[46]⟩ : ByteArray)) ++ t118) ++ (⟨#[46]⟩ : ByteArray)) ++ t120).size + 1 ≤ 9223372036854775807) = true := decide_eq_true c17
                  try have c17b2 : (9223372036854775807 < (((((x3_2 ++ t116) ++ (⟨#[46]⟩ : ByteArray)) ++ t118) ++ (⟨#[46]⟩ : ByteArray)) ++ t120).size + 1) = False := eq_false (Nat.not_lt.2 c17)
                  try have c17b3 : (9223372036854775807 < x3_2.size + t116.size + 1 + t118.size + 1 + t120.size + 1) = False := by (have z_ := c17b2; simp only [ByteArray.size_append] at z_; exact z_)
                  obtain rfl := Option.some.inj H
                  go_wp2_with (first | ((with_reducible refine gate_callee (f := 12) rfl ?_); refine goesL_ (some 10) rfl rfl Tryd.func12 (by kernel_rfl) rfl #[.int .u32 a0, .int .i64 1] rfl (by (try simp only [List.map_toArray, List.map_cons, List.map_nil]); first | done | rfl | (simp only [List.length_drop, List.length_take]; rfl)) ?_; (with_reducible refine (elem_Elem_Weight.calls kj2 a0 1 t115 _ A6.out).mono ?_); rintro e w18 ⟨rfl, hb⟩; refine ⟨_, rfl, ?_⟩; have n0_ := Aside0.mk (below_step (by repeat (first | (with_reducible first | exact HB.out | apply below_alloc | apply pw_below_drewN | apply below_drew1) | exact HB.out)) hb); clear HB; have HB := n0_; clear n0_; (try clear hb); (try clear hb2); (try clear hk); (try clear hi)) | ((with_reducible refine gate_callee (f := 22) rfl ?_); refine goesL_ (some 11) rfl rfl Tryd.func22 (by kernel_rfl) rfl #[.int .i64 t115, .int .i64 4] rfl (by (try simp only [List.map_toArray, List.map_cons, List.map_nil]); first | done | rfl | (simp only [List.length_drop, List.length_take]; rfl)) ?_; (with_reducible refine (elem_hex.calls t115 4 t116 _ ?side1 A7.out).mono ?_); (case side1 => exact GW.below HG.out (by repeat (first | (with_reducible first | exact HB.out | apply below_alloc | apply pw_below_drewN | apply below_drew1) | exact HB.out))); rintro e w19 ⟨rfl, hb⟩; refine ⟨_, rfl, ?_⟩; have n0_ := Aside0.mk (below_step (by repeat (first | (with_reducible first | exact HB.out | apply below_alloc | apply pw_below_drewN | apply below_drew1) | exact HB.out)) hb); clear HB; have HB := n0_; clear n0_; (try clear hb); (try clear hb2); (try clear hk); (try clear hi)) | ((with_reducible refine gate_callee (f := 12) rfl ?_); refine goesL_ (some 15) rfl rfl Tryd.func12 (by kernel_rfl) rfl #[.int .u32 a0, .int .i64 2] rfl (by (try simp only [List.map_toArray, List.map_cons, List.map_nil]); first | done | rfl | (simp only [List.length_drop, List.length_take]; rfl)) ?_; (with_reducible refine (elem_Elem_Weight.calls kj2 a0 2 t117 _ A10.out).mono ?_); rintro e w20 ⟨rfl, hb⟩; refine ⟨_, rfl, ?_⟩; have n0_ := Aside0.mk (below_step (by repeat (first | (with_reducible first | exact HB.out | apply below_alloc | apply pw_below_drewN | apply below_drew1) | exact HB.out)) hb); clear HB; have HB := n0_; clear n0_; (try clear hb); (try clear hb2); (try clear hk); (try clear hi)) | ((with_reducible refine gate_callee (f := 22) rfl ?_); refine goesL_ (some 16) rfl rfl Tryd.func22 (by kernel_rfl) rfl #[.int .i64 t117, .int .i64 2] rfl (by (try simp only [List.map_toArray, List.map_cons, List.map_nil]); first | done | rfl | (simp only [List.length_drop, List.length_take]; rfl)) ?_; (with_reducible refine (elem_hex.calls t117 2 t118 _ ?side1 A11.out).mono ?_); (case side1 => exact GW.below HG.out (by repeat (first | (with_reducible first | exact HB.out | apply below_alloc | apply pw_below_drewN | apply below_drew1) | exact HB.out))); rintro e w21 ⟨rfl, hb⟩; refine ⟨_, rfl, ?_⟩; have n0_ := Aside0.mk (below_step (by repeat (first | (with_reducible first | exact HB.out | apply below_alloc | apply pw_below_drewN | apply below_drew1) | exact HB.out)) hb); clear HB; have HB := n0_; clear n0_; (try clear hb); (try clear hb2); (try clear hk); (try clear hi)) | ((with_reducible refine gate_callee (f := 12) rfl ?_); refine goesL_ (some 20) rfl rfl Tryd.func12 (by kernel_rfl) rfl #[.int .u32 a0, .int .i64 3] rfl (by (try simp only [List.map_toArray, List.map_cons, List.map_nil]); first | done | rfl | (simp only [List.length_drop, List.length_take]; rfl)) ?_; (with_reducible refine (elem_Elem_Weight.calls kj2 a0 3 t119 _ A14.out).mono ?_); rintro e w22 ⟨rfl, hb⟩; refine ⟨_, rfl, ?_⟩; have n0_ := Aside0.mk (below_step (by repeat (first | (with_reducible first | exact HB.out | apply below_alloc | apply pw_below_drewN | apply below_drew1) | exact HB.out)) hb); clear HB; have HB := n0_; clear n0_; (try clear hb); (try clear hb2); (try clear hk); (try clear hi)) | ((with_reducible refine gate_callee (f := 22) rfl ?_); refine goesL_ (some 21) rfl rfl Tryd.func22 (by kernel_rfl) rfl #[.int .i64 t119, .int .i64 2] rfl (by (try simp only [List.map_toArray, List.map_cons, List.map_nil]); first | done | rfl | (simp only [List.length_drop, List.length_take]; rfl)) ?_; (with_reducible refine (elem_hex.calls t119 2 t120 _ ?side1 A15.out).mono ?_); (case side1 => exact GW.below HG.out (by repeat (first | (with_reducible first | exact HB.out | apply below_alloc | apply pw_below_drewN | apply below_drew1) | exact HB.out))); rintro e w23 ⟨rfl, hb⟩; refine ⟨_, rfl, ?_⟩; have n0_ := Aside0.mk (below_step (by repeat (first | (with_reducible first | exact HB.out | apply below_alloc | apply pw_below_drewN | apply below_drew1) | exact HB.out)) hb); clear HB; have HB := n0_; clear n0_; (try clear hb); (try clear hb2); (try clear hk); (try clear hi)))
                  go_ret
                  exact ⟨by first | rfl | (simp [errW_none, errW_some] <;> rfl) | (simp [*, errW_none, errW_some] <;> rfl), by repeat (first | (with_reducible first | exact HB.out | apply below_alloc | apply pw_below_drewN | apply below_drew1) | exact HB.out)⟩
                · rw [if_neg c17] at H
                  exact absurd H (by simp)
              · rw [if_neg c16] at H
                exact absurd H (by simp)
            · rw [if_neg c13] at H
              exact absurd H (by simp)
          · rw [if_neg c12] at H
            exact absurd H (by simp)
        · rw [if_neg c9] at H
          exact absurd H (by simp)
      · rw [if_neg c8] at H
        exact absurd H (by simp)

/-! ### umlautlaw3_awake: function 10 -/
def umlautlaw3_awake.f (k : Nat)  : Option (Bool) := (elem_Make.f k 256 32 2 false).bind fun bt121 => (if bt121.1 = 16785412 then (if bt121.2 = 0 then ((elem_Elem_Text.f k bt121.1).bind fun t123 => (if t123.toList = ([91, 48, 49, 48, 48, 46, 50, 48, 46, 48, 50, 93] : List UInt8) then ((elem_Elem_Weight.f k bt121.1 1).bind fun t124 => (some (t124 == 256))) else (some false))) else (some false)) else (some false))
theorem umlautlaw3_awake.mono : ∀ k, LeO (umlautlaw3_awake.f k ) (umlautlaw3_awake.f (k + 1) ) := by
  intro  k
  unfold umlautlaw3_awake.f
  repeat' first
      | (with_reducible exact elem_Elem_Text.mono _ _)
      | (with_reducible exact elem_Elem_Weight.mono _ _ _)
      | (with_reducible exact elem_Make.mono _ _ _ _ _)
      | (with_reducible exact LeO.refl _)
      | (with_reducible exact LeO.none _)
      | (with_reducible refine LeO.ite ?_ ?_)
      | (with_reducible refine LeO.bind ?_ (fun _ => ?_))
      | exact elem_Elem_Text.mono _ _
      | exact elem_Elem_Weight.mono _ _ _
      | exact elem_Make.mono _ _ _ _ _
      | exact LeO.none _
      | refine LeO.ite ?_ ?_
      | refine LeO.bind ?_ (fun _ => ?_)
set_option maxHeartbeats 8000000 in
set_option maxRecDepth 100000 in
theorem umlautlaw3_awake.calls (k : Nat)  (r : Bool) (w : World) (hG0 : GW w) (h : umlautlaw3_awake.f k  = some r) :
    Calls Tryd.prog 10 #[] w fun e w' => e = .returned (.bool r) ∧ Below w.heap.size w w' := by
  have HG := Aside0.mk hG0
  clear hG0
  have HB := Aside0.mk (Below.refl w.heap.size w)
  have H : ((elem_Make.f k 256 32 2 false).bind fun bt121 => (if bt121.1 = 16785412 then (if bt121.2 = 0 then ((elem_Elem_Text.f k bt121.1).bind fun t123 => (if t123.toList = ([91, 48, 49, 48, 48, 46, 50, 48, 46, 48, 50, 93] : List UInt8) then ((elem_Elem_Weight.f k bt121.1 1).bind fun t124 => (some (t124 == 256))) else (some false))) else (some false)) else (some false))) = some r := h
  clear h
  replace H := Option.bind_eq_some_iff.mp H
  obtain ⟨⟨t121, t122⟩, A10, H⟩ := H
  replace H : (if t121 = 16785412 then (if t122 = 0 then ((elem_Elem_Text.f k t121).bind fun t123 => (if t123.toList = ([91, 48, 49, 48, 48, 46, 50, 48, 46, 48, 50, 93] : List UInt8) then ((elem_Elem_Weight.f k t121 1).bind fun t124 => (some (t124 == 256))) else (some false))) else (some false)) else (some false)) = some r := H
  have A1 := Aside0.mk A10
  clear A10
  by_cases c2 : t121 = 16785412
  · rw [if_pos c2] at H
    have c2b0 : (t121 == 16785412) = true := beq_iff_eq.mpr c2
    have c2b1 : (t121 != 16785412) = false := bne_eq_false_iff_eq.mpr c2
    clear c2
    by_cases c3 : t122 = 0
    · rw [if_pos c3] at H
      have c3b0 : (t122 == 0) = true := beq_iff_eq.mpr c3
      have c3b1 : (t122 != 0) = false := bne_eq_false_iff_eq.mpr c3
      clear c3
      replace H := Option.bind_eq_some_iff.mp H
      obtain ⟨t123, A40, H⟩ := H
      replace H : (if t123.toList = ([91, 48, 49, 48, 48, 46, 50, 48, 46, 48, 50, 93] : List UInt8) then ((elem_Elem_Weight.f k t121 1).bind fun t124 => (some (t124 == 256))) else (some false)) = some r := H
      have A4 := Aside0.mk A40
      clear A40
      by_cases c5 : t123.toList = ([91, 48, 49, 48, 48, 46, 50, 48, 46, 48, 50, 93] : List UInt8)
      · rw [if_pos c5] at H
        have c5b0 : (t123.toList == ([91, 48, 49, 48, 48, 46, 50, 48, 46, 48, 50, 93] : List UInt8)) = true := beq_iff_eq.mpr c5
        have c5b1 : (t123.toList != ([91, 48, 49, 48, 48, 46, 50, 48, 46, 48, 50, 93] : List UInt8)) = false := bne_eq_false_iff_eq.mpr c5
        clear c5
        replace H := Option.bind_eq_some_iff.mp H
        obtain ⟨t124, A60, H⟩ := H
        replace H : (some (t124 == 256)) = some r := H
        have A6 := Aside0.mk A60
        clear A60
        obtain rfl := Option.some.inj H
        go_enter Tryd.func10, Tryd.ntmps10
        go_wp2_with (first | ((with_reducible refine gate_callee (f := 11) rfl ?_); refine goesL_ (some 4) rfl rfl Tryd.func11 (by kernel_rfl) rfl #[.int .i64 256, .int .i64 32, .int .i64 2, .bool false] rfl (by (try simp only [List.map_toArray, List.map_cons, List.map_nil]); first | done | rfl | (simp only [List.length_drop, List.length_take]; rfl)) ?_; (with_reducible refine (elem_Make.calls k 256 32 2 false t121 t122 _ A1.out).mono ?_); rintro e w7 ⟨rfl, hb⟩; refine ⟨_, rfl, ?_⟩; have n0_ := Aside0.mk (below_step (by repeat (first | (with_reducible first | exact HB.out | apply below_alloc | apply pw_below_drewN | apply below_drew1) | exact HB.out)) hb); clear HB; have HB := n0_; clear n0_; (try clear hb); (try clear hb2); (try clear hk); (try clear hi)) | (go_at_call 16; (with_reducible refine (elem_Elem_Text.calls k t121 t123 _ ?side1 A4.out).mono ?_); (case side1 => exact GW.below HG.out (by repeat (first | (with_reducible first | exact HB.out | apply below_alloc | apply pw_below_drewN | apply below_drew1) | exact HB.out))); rintro e w8 ⟨rfl, hb⟩; have n0_ := Aside0.mk (below_step (by repeat (first | (with_reducible first | exact HB.out | apply below_alloc | apply pw_below_drewN | apply below_drew1) | exact HB.out)) hb); clear HB; have HB := n0_; clear n0_; (try clear hb); (try clear hb2); (try clear hk); (try clear hi)) | (go_at_call 12; (with_reducible refine (elem_Elem_Weight.calls k t121 1 t124 _ A6.out).mono ?_); rintro e w9 ⟨rfl, hb⟩; have n0_ := Aside0.mk (below_step (by repeat (first | (with_reducible first | exact HB.out | apply below_alloc | apply pw_below_drewN | apply below_drew1) | exact HB.out)) hb); clear HB; have HB := n0_; clear n0_; (try clear hb); (try clear hb2); (try clear hk); (try clear hi)))
        go_ret
        exact ⟨by first | rfl | (simp [errW_none, errW_some] <;> rfl) | (simp [*, errW_none, errW_some] <;> rfl), by repeat (first | (with_reducible first | exact HB.out | apply below_alloc | apply pw_below_drewN | apply below_drew1) | exact HB.out)⟩
      · rw [if_neg c5] at H
        have c5b0 : (t123.toList == ([91, 48, 49, 48, 48, 46, 50, 48, 46, 48, 50, 93] : List UInt8)) = false := beq_eq_false_iff_ne.mpr c5
        have c5b1 : (t123.toList != ([91, 48, 49, 48, 48, 46, 50, 48, 46, 48, 50, 93] : List UInt8)) = true := bne_iff_ne.mpr c5
        obtain rfl := Option.some.inj H
        go_enter Tryd.func10, Tryd.ntmps10
        go_wp2_with (first | ((with_reducible refine gate_callee (f := 11) rfl ?_); refine goesL_ (some 4) rfl rfl Tryd.func11 (by kernel_rfl) rfl #[.int .i64 256, .int .i64 32, .int .i64 2, .bool false] rfl (by (try simp only [List.map_toArray, List.map_cons, List.map_nil]); first | done | rfl | (simp only [List.length_drop, List.length_take]; rfl)) ?_; (with_reducible refine (elem_Make.calls k 256 32 2 false t121 t122 _ A1.out).mono ?_); rintro e w10 ⟨rfl, hb⟩; refine ⟨_, rfl, ?_⟩; have n0_ := Aside0.mk (below_step (by repeat (first | (with_reducible first | exact HB.out | apply below_alloc | apply pw_below_drewN | apply below_drew1) | exact HB.out)) hb); clear HB; have HB := n0_; clear n0_; (try clear hb); (try clear hb2); (try clear hk); (try clear hi)) | (go_at_call 16; (with_reducible refine (elem_Elem_Text.calls k t121 t123 _ ?side1 A4.out).mono ?_); (case side1 => exact GW.below HG.out (by repeat (first | (with_reducible first | exact HB.out | apply below_alloc | apply pw_below_drewN | apply below_drew1) | exact HB.out))); rintro e w11 ⟨rfl, hb⟩; have n0_ := Aside0.mk (below_step (by repeat (first | (with_reducible first | exact HB.out | apply below_alloc | apply pw_below_drewN | apply below_drew1) | exact HB.out)) hb); clear HB; have HB := n0_; clear n0_; (try clear hb); (try clear hb2); (try clear hk); (try clear hi)))
        go_ret
        exact ⟨by first | rfl | (simp [errW_none, errW_some] <;> rfl) | (simp [*, errW_none, errW_some] <;> rfl), by repeat (first | (with_reducible first | exact HB.out | apply below_alloc | apply pw_below_drewN | apply below_drew1) | exact HB.out)⟩
    · rw [if_neg c3] at H
      have c3b0 : (t122 == 0) = false := beq_eq_false_iff_ne.mpr c3
      have c3b1 : (t122 != 0) = true := bne_iff_ne.mpr c3
      obtain rfl := Option.some.inj H
      go_enter Tryd.func10, Tryd.ntmps10
      go_wp2_with (first | ((with_reducible refine gate_callee (f := 11) rfl ?_); refine goesL_ (some 4) rfl rfl Tryd.func11 (by kernel_rfl) rfl #[.int .i64 256, .int .i64 32, .int .i64 2, .bool false] rfl (by (try simp only [List.map_toArray, List.map_cons, List.map_nil]); first | done | rfl | (simp only [List.length_drop, List.length_take]; rfl)) ?_; (with_reducible refine (elem_Make.calls k 256 32 2 false t121 t122 _ A1.out).mono ?_); rintro e w12 ⟨rfl, hb⟩; refine ⟨_, rfl, ?_⟩; have n0_ := Aside0.mk (below_step (by repeat (first | (with_reducible first | exact HB.out | apply below_alloc | apply pw_below_drewN | apply below_drew1) | exact HB.out)) hb); clear HB; have HB := n0_; clear n0_; (try clear hb); (try clear hb2); (try clear hk); (try clear hi)))
      go_ret
      exact ⟨by first | rfl | (simp [errW_none, errW_some] <;> rfl) | (simp [*, errW_none, errW_some] <;> rfl), by repeat (first | (with_reducible first | exact HB.out | apply below_alloc | apply pw_below_drewN | apply below_drew1) | exact HB.out)⟩
  · rw [if_neg c2] at H
    have c2b0 : (t121 == 16785412) = false := beq_eq_false_iff_ne.mpr c2
    have c2b1 : (t121 != 16785412) = true := bne_iff_ne.mpr c2
    obtain rfl := Option.some.inj H
    go_enter Tryd.func10, Tryd.ntmps10
    go_wp2_with (first | ((with_reducible refine gate_callee (f := 11) rfl ?_); refine goesL_ (some 4) rfl rfl Tryd.func11 (by kernel_rfl) rfl #[.int .i64 256, .int .i64 32, .int .i64 2, .bool false] rfl (by (try simp only [List.map_toArray, List.map_cons, List.map_nil]); first | done | rfl | (simp only [List.length_drop, List.length_take]; rfl)) ?_; (with_reducible refine (elem_Make.calls k 256 32 2 false t121 t122 _ A1.out).mono ?_); rintro e w13 ⟨rfl, hb⟩; refine ⟨_, rfl, ?_⟩; have n0_ := Aside0.mk (below_step (by repeat (first | (with_reducible first | exact HB.out | apply below_alloc | apply pw_below_drewN | apply below_drew1) | exact HB.out)) hb); clear HB; have HB := n0_; clear n0_; (try clear hb); (try clear hb2); (try clear hk); (try clear hi)))
    go_ret
    exact ⟨by first | rfl | (simp [errW_none, errW_some] <;> rfl) | (simp [*, errW_none, errW_some] <;> rfl), by repeat (first | (with_reducible first | exact HB.out | apply below_alloc | apply pw_below_drewN | apply below_drew1) | exact HB.out)⟩

end Go.Proofs.YtmgoncnjagihgaaDoor.XA
