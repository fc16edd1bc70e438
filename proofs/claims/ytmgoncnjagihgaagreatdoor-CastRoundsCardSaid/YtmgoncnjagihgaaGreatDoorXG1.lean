-- laid by a program of this session (its print of the translation over its own contracts)
import Derived.Test.YtmgoncnjagihgaaGreatDoorXG0
namespace Go.Proofs.YtmgoncnjagihgaaGreatDoor.XG
open Go.Proofs.YtmgoncnjagihgaaGreatDoor Go.Proofs.YtmgoncnjagihgaaGreatDoor.Given Go.Proofs.YtmgoncnjagihgaaGreatDoor.Lem
open Go.RowKit Go.Proofs.YtmgoncnjagihgaaGreatDoorW.PrintWords Go.Proofs.YtmgoncnjagihgaaGreatDoorW.PrintLast Go.Proofs.YtmgoncnjagihgaaGreatDoorW.PrintMore
attribute [local go_sem] max2_int min2_int max_two min_two max_three min_three max_four min_four   -- for this text's walks alone
set_option linter.unusedVariables false
set_option linter.unusedSimpArgs false

/-! ### umlautref1_Text: function 7 -/
mutual
def umlautref1_Text.l0 : Nat → Int → ByteArray → Option (ByteArray)
  | 0, _, _ => none
  | k + 1, x0, x3 => if x0 > 9 then (if 0 ≤ (Int.tmod x0 10) then (if (Int.tmod x0 10) ≤ (wrap64 ((Int.tmod x0 10) + 1)) then (if (wrap64 ((Int.tmod x0 10) + 1)) ≤ 10 then (if ((⟨#[48, 49, 50, 51, 52, 53, 54, 55, 56, 57]⟩ : ByteArray).extract ((Int.tmod x0 10) : Int).toNat ((wrap64 ((Int.tmod x0 10) + 1)) : Int).toNat).size + x3.size ≤ 9223372036854775807 then (umlautref1_Text.l0 k (wrap64 (Int.tdiv x0 10)) (((⟨#[48, 49, 50, 51, 52, 53, 54, 55, 56, 57]⟩ : ByteArray).extract ((Int.tmod x0 10) : Int).toNat ((wrap64 ((Int.tmod x0 10) + 1)) : Int).toNat) ++ x3)) else (none)) else (none)) else (none)) else (none)) else (if 0 ≤ x0 then (if x0 ≤ (wrap64 (x0 + 1)) then (if (wrap64 (x0 + 1)) ≤ 10 then (if ((⟨#[48, 49, 50, 51, 52, 53, 54, 55, 56, 57]⟩ : ByteArray).extract (x0 : Int).toNat ((wrap64 (x0 + 1)) : Int).toNat).size + x3.size ≤ 9223372036854775807 then (some (((⟨#[48, 49, 50, 51, 52, 53, 54, 55, 56, 57]⟩ : ByteArray).extract (x0 : Int).toNat ((wrap64 (x0 + 1)) : Int).toNat) ++ x3)) else (none)) else (none)) else (none)) else (none))
def umlautref1_Text.f : Nat → Int → Option (ByteArray)
  | 0, _ => none
  | k + 1, a0 => if a0 = (-9223372036854775808) then (some (⟨#[45, 57, 50, 50, 51, 51, 55, 50, 48, 51, 54, 56, 53, 52, 55, 55, 53, 56, 48, 56]⟩ : ByteArray)) else (if a0 < 0 then ((umlautref1_Text.f k (wrap64 (-a0))).bind fun t101 => (if 1 + t101.size ≤ 9223372036854775807 then (some ((⟨#[45]⟩ : ByteArray) ++ t101)) else (none))) else (umlautref1_Text.l0 k a0 (⟨#[]⟩ : ByteArray)))
end
theorem umlautref1_Text.mono_l : ∀ k, (∀ y0, LeO (umlautref1_Text.f k y0) (umlautref1_Text.f (k + 1) y0)) ∧ (∀ y0 y1, LeO (umlautref1_Text.l0 k y0 y1) (umlautref1_Text.l0 (k + 1) y0 y1))
  | 0 => ⟨fun _ r h => by simp [umlautref1_Text.f] at h, fun _ _ r h => by simp [umlautref1_Text.l0] at h⟩
  | k + 1 => by
    obtain ⟨ih0, ih1⟩ := umlautref1_Text.mono_l k
    refine ⟨?_, ?_⟩
    · intro y0
      unfold umlautref1_Text.f
      repeat' first
      | (with_reducible exact ih0 _)
      | (with_reducible exact ih1 _ _)
      | (with_reducible exact LeO.refl _)
      | (with_reducible exact LeO.none _)
      | (with_reducible refine LeO.ite ?_ ?_)
      | (with_reducible refine LeO.bind ?_ (fun _ => ?_))
      | exact ih0 _
      | exact ih1 _ _
      | exact LeO.none _
      | refine LeO.ite ?_ ?_
      | refine LeO.bind ?_ (fun _ => ?_)
    · intro y0 y1
      unfold umlautref1_Text.l0
      repeat' first
      | (with_reducible exact ih0 _)
      | (with_reducible exact ih1 _ _)
      | (with_reducible exact LeO.refl _)
      | (with_reducible exact LeO.none _)
      | (with_reducible refine LeO.ite ?_ ?_)
      | (with_reducible refine LeO.bind ?_ (fun _ => ?_))
      | exact ih0 _
      | exact ih1 _ _
      | exact LeO.none _
      | refine LeO.ite ?_ ?_
      | refine LeO.bind ?_ (fun _ => ?_)
theorem umlautref1_Text.mono : ∀ a0 k, LeO (umlautref1_Text.f k a0) (umlautref1_Text.f (k + 1) a0) := by
  intro a0 k
  obtain ⟨ih0, ih1⟩ := umlautref1_Text.mono_l k
  exact ih0 a0
set_option maxHeartbeats 8000000 in
set_option maxRecDepth 100000 in
theorem umlautref1_Text.calls (k : Nat) : ∀ (a0 : Int) (r : ByteArray) (w : World) (h : umlautref1_Text.f k a0 = some r),
    Calls Tryz.prog 7 #[.int .i64 a0] w fun e w' => e = .returned (.string r) ∧ Drawn0 w w' := by
  induction k using Nat.strongRecOn with
  | _ k ih =>
  intro a0 r w h
  cases k with
  | zero => exact absurd h (by simp [umlautref1_Text.f])
  | succ k =>
  simp only [umlautref1_Text.f] at h
  have H : (if a0 = (-9223372036854775808) then (some (⟨#[45, 57, 50, 50, 51, 51, 55, 50, 48, 51, 54, 56, 53, 52, 55, 55, 53, 56, 48, 56]⟩ : ByteArray)) else (if a0 < 0 then ((umlautref1_Text.f k (wrap64 (-a0))).bind fun t101 => (if 1 + t101.size ≤ 9223372036854775807 then (some ((⟨#[45]⟩ : ByteArray) ++ t101)) else (none))) else (umlautref1_Text.l0 k a0 (⟨#[]⟩ : ByteArray)))) = some r := h
  clear h
  by_cases c2 : a0 = (-9223372036854775808)
  · rw [if_pos c2] at H
    have c2b0 : (a0 == (-9223372036854775808)) = true := beq_iff_eq.mpr c2
    have c2b1 : (a0 != (-9223372036854775808)) = false := bne_eq_false_iff_eq.mpr c2
    clear c2
    obtain rfl := Option.some.inj H
    go_enter Tryz.func7, Tryz.ntmps7
    go_wp2
    go_ret
    exact ⟨by first | rfl | (simp; done) | (simp [*]; done), by repeat (first | exact Drawn0.refl _ | apply Drawn0.step)⟩
  · rw [if_neg c2] at H
    have c2b0 : (a0 == (-9223372036854775808)) = false := beq_eq_false_iff_ne.mpr c2
    have c2b1 : (a0 != (-9223372036854775808)) = true := bne_iff_ne.mpr c2
    by_cases c3 : a0 < 0
    · rw [if_pos c3] at H
      have c3b0 : decide (a0 < 0) = true := decide_eq_true c3
      clear c3
      replace H := Option.bind_eq_some_iff.mp H
      obtain ⟨t101, A40, H⟩ := H
      replace H : (if 1 + t101.size ≤ 9223372036854775807 then (some ((⟨#[45]⟩ : ByteArray) ++ t101)) else (none)) = some r := H
      have A4 := Aside0.mk A40
      clear A40
      by_cases c5 : 1 + t101.size ≤ 9223372036854775807
      · rw [if_pos c5] at H
        have c5b0 := eq_true c5
        have c5b1 : decide (1 + t101.size ≤ 9223372036854775807) = true := decide_eq_true c5
        try have c5b2 : (9223372036854775807 < 1 + t101.size) = False := eq_false (Nat.not_lt.2 c5)
        obtain rfl := Option.some.inj H
        go_enter Tryz.func7, Tryz.ntmps7
        go_wp2_with (first | ((with_reducible refine gate_callee (f := 7) rfl ?_); refine goesL_ (some 12) rfl rfl Tryz.func7 (by kernel_rfl) rfl #[.int .i64 (wrap64 (-a0))] rfl (by (try simp only [List.map_toArray, List.map_cons, List.map_nil]); first | done | rfl | (simp only [List.length_drop, List.length_take]; rfl)) ?_; (with_reducible refine (ih k (by omega) (wrap64 (-a0)) t101 _ A4.out).mono ?_); rintro e w' ⟨rfl, ⟨nd, rfl⟩⟩; refine ⟨_, rfl, ?_⟩))
        go_ret
        exact ⟨by first | rfl | (simp; done) | (simp [*]; done), by repeat (first | exact Drawn0.refl _ | apply Drawn0.step)⟩
      · rw [if_neg c5] at H
        exact absurd H (by simp)
    · rw [if_neg c3] at H
      have c3b0 : decide (a0 < 0) = false := decide_eq_false c3
      clear c3
      have H' := Aside0.mk H
      clear H
      go_enter Tryz.func7, Tryz.ntmps7
      go_wp2
      go_loopg [0, 3] k (fun kq v0 v3 w' => ∃ (x0_1 : Int) (x3_1 : ByteArray), v0 = .int .i64 x0_1 ∧ v3 = .string x3_1 ∧ Aside0 (umlautref1_Text.l0 kq x0_1 x3_1 = some r) ∧ Aside0 (kq ≤ k) ∧ Drawn0 w w')
      case atStart => exact ⟨(a0), ((⟨#[]⟩ : ByteArray)), (by first | rfl | (simp; done) | (simp [*]; done)), (by first | rfl | (simp; done) | (simp [*]; done)), H', ⟨Nat.le_refl _⟩, by repeat (first | exact Drawn0.refl _ | apply Drawn0.step)⟩
      case round =>
        clear H'
        try clear c2
        try clear c2b0
        try clear c2b1
        try clear p2
        try clear c3
        try clear c3b0
        try clear c5
        try clear c5b0
        try clear c5b1
        try clear c5b2
        obtain ⟨x0_1, x3_1, rfl, rfl, HA, HK1, ⟨m1, rfl⟩⟩ := hrel
        cases gk with
        | zero => exact absurd HA.out (by simp [umlautref1_Text.l0])
        | succ k1 =>
          have H := HA.out
          clear HA
          simp only [umlautref1_Text.l0] at H
          by_cases c6 : x0_1 > 9
          · rw [if_pos c6] at H
            have c6b0 : decide (9 < x0_1) = true := decide_eq_true c6
            clear c6
            obtain ⟨ji7, hji7⟩ : ∃ j_ : Int, (Int.tmod x0_1 10) = j_ := ⟨_, rfl⟩
            replace H : (if 0 ≤ (ji7) then (if (ji7) ≤ (wrap64 ((ji7) + 1)) then (if (wrap64 ((ji7) + 1)) ≤ 10 then (if ((⟨#[48, 49, 50, 51, 52, 53, 54, 55, 56, 57]⟩ : ByteArray).extract ((ji7) : Int).toNat ((wrap64 ((ji7) + 1)) : Int).toNat).size + x3_1.size ≤ 9223372036854775807 then (umlautref1_Text.l0 k1 (wrap64 (Int.tdiv x0_1 10)) (((⟨#[48, 49, 50, 51, 52, 53, 54, 55, 56, 57]⟩ : ByteArray).extract ((ji7) : Int).toNat ((wrap64 ((ji7) + 1)) : Int).toNat) ++ x3_1)) else (none)) else (none)) else (none)) else (none)) = some r := by first | (rw [hji7] at H; exact H) | (simp only [hji7] at H ⊢; exact H)
            by_cases c8 : 0 ≤ (ji7)
            · rw [if_pos c8] at H
              have c8b0 := eq_true c8
              have c8b1 : decide (0 ≤ (ji7)) = true := decide_eq_true c8
              clear c8
              by_cases c9 : (ji7) ≤ (wrap64 ((ji7) + 1))
              · rw [if_pos c9] at H
                have c9b0 := eq_true c9
                have c9b1 : decide ((ji7) ≤ (wrap64 ((ji7) + 1))) = true := decide_eq_true c9
                by_cases c10 : (wrap64 ((ji7) + 1)) ≤ 10
                · rw [if_pos c10] at H
                  have c10b0 := eq_true c10
                  have c10b1 : decide ((wrap64 ((ji7) + 1)) ≤ 10) = true := decide_eq_true c10
                  by_cases c11 : ((⟨#[48, 49, 50, 51, 52, 53, 54, 55, 56, 57]⟩ : ByteArray).extract ((ji7) : Int).toNat ((wrap64 ((ji7) + 1)) : Int).toNat).size + x3_1.size ≤ 9223372036854775807
                  · rw [if_pos c11] at H
                    have c11b0 := eq_true c11
                    have c11b1 : decide (((⟨#[48, 49, 50, 51, 52, 53, 54, 55, 56, 57]⟩ : ByteArray).extract ((ji7) : Int).toNat ((wrap64 ((ji7) + 1)) : Int).toNat).size + x3_1.size ≤ 9223372036854775807) = true := decide_eq_true c11
                    try have c11b2 : (9223372036854775807 < ((⟨#[48, 49, 50, 51, 52, 53, 54, 55, 56, 57]⟩ : ByteArray).extract ((ji7) : Int).toNat ((wrap64 ((ji7) + 1)) : Int).toNat).size + x3_1.size) = False := eq_false (Nat.not_lt.2 c11)
                    try have c11b4 : (9223372036854775807 < ((⟨#[48, 49, 50, 51, 52, 53, 54, 55, 56, 57]⟩ : ByteArray).extract ((ji7) : Int).toNat ((wrap64 ((ji7) + 1)) : Int).toNat).size + x3_1.size) = False := by (have z_ := c11b2; simp only [ByteArray.size_append, ByteArray.size_extract] at z_; simp only [Nat.sub_zero, Nat.min_self] at z_; exact z_)
                    have H' := Aside0.mk H
                    clear H
                    go_wp2
                    go_roundg k1
                    case measure => have := HK1.out; omega
                    case rel => exact ⟨(wrap64 (Int.tdiv x0_1 10)), (((⟨#[48, 49, 50, 51, 52, 53, 54, 55, 56, 57]⟩ : ByteArray).extract ((ji7) : Int).toNat ((wrap64 ((ji7) + 1)) : Int).toNat) ++ x3_1), (by first | rfl | (simp; done) | (simp [*]; done)), (by first | rfl | (simp; done) | (simp only [← hji7] <;> (first | rfl | simp)) | (simp [*]; done)), H', ⟨by have := HK1.out; omega⟩, by repeat (first | exact Drawn0.refl _ | apply Drawn0.step)⟩
                  · rw [if_neg c11] at H
                    exact absurd H (by simp)
                · rw [if_neg c10] at H
                  exact absurd H (by simp)
              · rw [if_neg c9] at H
                exact absurd H (by simp)
            · rw [if_neg c8] at H
              exact absurd H (by simp)
          · rw [if_neg c6] at H
            have c6b0 : decide (9 < x0_1) = false := decide_eq_false c6
            clear c6
            by_cases c12 : 0 ≤ x0_1
            · rw [if_pos c12] at H
              have c12b0 := eq_true c12
              have c12b1 : decide (0 ≤ x0_1) = true := decide_eq_true c12
              clear c12
              by_cases c13 : x0_1 ≤ (wrap64 (x0_1 + 1))
              · rw [if_pos c13] at H
                have c13b0 := eq_true c13
                have c13b1 : decide (x0_1 ≤ (wrap64 (x0_1 + 1))) = true := decide_eq_true c13
                by_cases c14 : (wrap64 (x0_1 + 1)) ≤ 10
                · rw [if_pos c14] at H
                  have c14b0 := eq_true c14
                  have c14b1 : decide ((wrap64 (x0_1 + 1)) ≤ 10) = true := decide_eq_true c14
                  by_cases c15 : ((⟨#[48, 49, 50, 51, 52, 53, 54, 55, 56, 57]⟩ : ByteArray).extract (x0_1 : Int).toNat ((wrap64 (x0_1 + 1)) : Int).toNat).size + x3_1.size ≤ 9223372036854775807
                  · rw [if_pos c15] at H
                    have c15b0 := eq_true c15
                    have c15b1 : decide (((⟨#[48, 49, 50, 51, 52, 53, 54, 55, 56, 57]⟩ : ByteArray).extract (x0_1 : Int).toNat ((wrap64 (x0_1 + 1)) : Int).toNat).size + x3_1.size ≤ 9223372036854775807) = true := decide_eq_true c15
                    try have c15b2 : (9223372036854775807 < ((⟨#[48, 49, 50, 51, 52, 53, 54, 55, 56, 57]⟩ : ByteArray).extract (x0_1 : Int).toNat ((wrap64 (x0_1 + 1)) : Int).toNat).size + x3_1.size) = False := eq_false (Nat.not_lt.2 c15)
                    try have c15b4 : (9223372036854775807 < ((⟨#[48, 49, 50, 51, 52, 53, 54, 55, 56, 57]⟩ : ByteArray).extract (x0_1 : Int).toNat ((wrap64 (x0_1 + 1)) : Int).toNat).size + x3_1.size) = False := by (have z_ := c15b2; simp only [ByteArray.size_append, ByteArray.size_extract] at z_; simp only [Nat.sub_zero, Nat.min_self] at z_; exact z_)
                    obtain rfl := Option.some.inj H
                    go_wp2
                    go_ret
                    exact ⟨by first | rfl | (simp; done) | (simp [*]; done), by repeat (first | exact Drawn0.refl _ | apply Drawn0.step)⟩
                  · rw [if_neg c15] at H
                    exact absurd H (by simp)
                · rw [if_neg c14] at H
                  exact absurd H (by simp)
              · rw [if_neg c13] at H
                exact absurd H (by simp)
            · rw [if_neg c12] at H
              exact absurd H (by simp)

-- GIVEN: function 8 (cast_To)

-- GIVEN: function 9 (umlautref11_Text)

-- GIVEN: function 10 (umlautlaw13_awake)

/-! ### umlautlaw13_CastRounds: function 3 -/
mutual
def umlautlaw13_CastRounds.l0 : Nat → Int → Int → Int → Int → ByteArray → ByteArray → Int → Option (Bool)
  | 0, _, _, _, _, _, _, _ => none
  | k + 1, x0, x1, x2, x3, x9, x10, x11 => if x11 < (Go.bits .and .i64 x3 7) then (if x10.size + 1 ≤ 9223372036854775807 then (umlautlaw13_CastRounds.l0 k x0 x1 x2 x3 x9 (x10 ++ (⟨#[48]⟩ : ByteArray)) (wrap64 (x11 + 1))) else (none)) else (if x10.size + x9.size ≤ 9223372036854775807 then (if x0 < 0 then (if 1 + x10.size ≤ 9223372036854775807 then (if 1 ≤ (x9.size : Int) then (if ((⟨#[45]⟩ : ByteArray) ++ x10).size + (x9.extract 1 x9.size).size ≤ 9223372036854775807 then (umlautlaw13_CastRounds.j1 k x0 x1 x2 x9 (((⟨#[45]⟩ : ByteArray) ++ x10) ++ (x9.extract 1 x9.size))) else (none)) else (none)) else (none)) else (umlautlaw13_CastRounds.j1 k x0 x1 x2 x9 (x10 ++ x9))) else (none))
def umlautlaw13_CastRounds.j1 : Nat → Int → Int → Int → ByteArray → ByteArray → Option (Bool)
  | 0, _, _, _, _, _ => none
  | k + 1, x0, x1, x2, x9, x12 => umlautlaw13_CastRounds.l1 k x0 x1 x2 x9 x12 0
def umlautlaw13_CastRounds.l1 : Nat → Int → Int → Int → ByteArray → ByteArray → Int → Option (Bool)
  | 0, _, _, _, _, _, _ => none
  | k + 1, x0, x1, x2, x9, x12, x13 => if x13 < (Go.bits .and .i64 x1 7) then (if 1 + x12.size ≤ 9223372036854775807 then (umlautlaw13_CastRounds.l1 k x0 x1 x2 x9 ((⟨#[32]⟩ : ByteArray) ++ x12) (wrap64 (x13 + 1))) else (none)) else (umlautlaw13_CastRounds.l2 k x0 x2 x9 x12 0)
def umlautlaw13_CastRounds.l2 : Nat → Int → Int → ByteArray → ByteArray → Int → Option (Bool)
  | 0, _, _, _, _, _ => none
  | k + 1, x0, x2, x9, x12, x14 => if x14 < (Go.bits .and .i64 x2 7) then (if x12.size + 1 ≤ 9223372036854775807 then (umlautlaw13_CastRounds.l2 k x0 x2 x9 (x12 ++ (⟨#[32]⟩ : ByteArray)) (wrap64 (x14 + 1))) else (none)) else ((XC.umlautref11_Text.f x12).bind fun bt103 => ((XC.cast_To.f k bt103.1 bt103.2.1 bt103.2.2 2).bind fun bt106 => ((XC.cast_To.f k bt106.1 bt106.2.1 bt106.2.2.1 3).bind fun bt111 => ((XC.cast_To.f k bt106.1 bt106.2.1 bt106.2.2.1 1).bind fun bt116 => (if x12.size + 1 ≤ 9223372036854775807 then ((XC.umlautref11_Text.f (x12 ++ (⟨#[120]⟩ : ByteArray))).bind fun bt121 => ((XC.cast_To.f k bt121.1 bt121.2.1 bt121.2.2 2).bind fun bt124 => (if bt106.2.2.2 = 0 then (if bt106.2.1 = x0 then (if bt111.2.2.2 = 0 then (if bt111.2.2.1.toList = x9.toList then (if bt116.2.2.2 = 0 then (if ((bt116.2.1 == 1) == (x0 != 0)) = true then (if bt124.2.2.2 = 20 then (if bt124.1 = 0 then ((XC.umlautlaw13_awake.f k).bind fun t129 => (some t129)) else (some false)) else (some false)) else (some false)) else (some false)) else (some false)) else (some false)) else (some false)) else (some false)))) else (none))))))
end
def umlautlaw13_CastRounds.f (k : Nat) (a0 : Int) (a1 : Int) (a2 : Int) (a3 : Int) : Option (Bool) := (umlautref1_Text.f k a0).bind fun t102 => (umlautlaw13_CastRounds.l0 k a0 a1 a2 a3 t102 (⟨#[]⟩ : ByteArray) 0)
theorem umlautlaw13_CastRounds.mono_l : ∀ k, (∀ y0 y1 y2 y3 y4 y5 y6, LeO (umlautlaw13_CastRounds.l0 k y0 y1 y2 y3 y4 y5 y6) (umlautlaw13_CastRounds.l0 (k + 1) y0 y1 y2 y3 y4 y5 y6)) ∧ (∀ y0 y1 y2 y3 y4, LeO (umlautlaw13_CastRounds.j1 k y0 y1 y2 y3 y4) (umlautlaw13_CastRounds.j1 (k + 1) y0 y1 y2 y3 y4)) ∧ (∀ y0 y1 y2 y3 y4 y5, LeO (umlautlaw13_CastRounds.l1 k y0 y1 y2 y3 y4 y5) (umlautlaw13_CastRounds.l1 (k + 1) y0 y1 y2 y3 y4 y5)) ∧ (∀ y0 y1 y2 y3 y4, LeO (umlautlaw13_CastRounds.l2 k y0 y1 y2 y3 y4) (umlautlaw13_CastRounds.l2 (k + 1) y0 y1 y2 y3 y4))
  | 0 => ⟨fun _ _ _ _ _ _ _ r h => by simp [umlautlaw13_CastRounds.l0] at h, fun _ _ _ _ _ r h => by simp [umlautlaw13_CastRounds.j1] at h, fun _ _ _ _ _ _ r h => by simp [umlautlaw13_CastRounds.l1] at h, fun _ _ _ _ _ r h => by simp [umlautlaw13_CastRounds.l2] at h⟩
  | k + 1 => by
    obtain ⟨ih0, ih1, ih2, ih3⟩ := umlautlaw13_CastRounds.mono_l k
    refine ⟨?_, ?_, ?_, ?_⟩
    · intro y0 y1 y2 y3 y4 y5 y6
      unfold umlautlaw13_CastRounds.l0
      repeat' first
      | (with_reducible exact ih0 _ _ _ _ _ _ _)
      | (with_reducible exact ih1 _ _ _ _ _)
      | (with_reducible exact ih2 _ _ _ _ _ _)
      | (with_reducible exact ih3 _ _ _ _ _)
      | (with_reducible exact XC.cast_To.mono _ _ _ _ _)
      | (with_reducible exact XC.umlautlaw13_awake.mono _)
      | (with_reducible exact umlautref1_Text.mono _ _)
      | (with_reducible exact LeO.refl _)
      | (with_reducible exact LeO.none _)
      | (with_reducible refine LeO.ite ?_ ?_)
      | (with_reducible refine LeO.bind ?_ (fun _ => ?_))
      | exact ih0 _ _ _ _ _ _ _
      | exact ih1 _ _ _ _ _
      | exact ih2 _ _ _ _ _ _
      | exact ih3 _ _ _ _ _
      | exact XC.cast_To.mono _ _ _ _ _
      | exact XC.umlautlaw13_awake.mono _
      | exact umlautref1_Text.mono _ _
      | exact LeO.none _
      | refine LeO.ite ?_ ?_
      | refine LeO.bind ?_ (fun _ => ?_)
    · intro y0 y1 y2 y3 y4
      unfold umlautlaw13_CastRounds.j1
      repeat' first
      | (with_reducible exact ih0 _ _ _ _ _ _ _)
      | (with_reducible exact ih1 _ _ _ _ _)
      | (with_reducible exact ih2 _ _ _ _ _ _)
      | (with_reducible exact ih3 _ _ _ _ _)
      | (with_reducible exact XC.cast_To.mono _ _ _ _ _)
      | (with_reducible exact XC.umlautlaw13_awake.mono _)
      | (with_reducible exact umlautref1_Text.mono _ _)
      | (with_reducible exact LeO.refl _)
      | (with_reducible exact LeO.none _)
      | (with_reducible refine LeO.ite ?_ ?_)
      | (with_reducible refine LeO.bind ?_ (fun _ => ?_))
      | exact ih0 _ _ _ _ _ _ _
      | exact ih1 _ _ _ _ _
      | exact ih2 _ _ _ _ _ _
      | exact ih3 _ _ _ _ _
      | exact XC.cast_To.mono _ _ _ _ _
      | exact XC.umlautlaw13_awake.mono _
      | exact umlautref1_Text.mono _ _
      | exact LeO.none _
      | refine LeO.ite ?_ ?_
      | refine LeO.bind ?_ (fun _ => ?_)
    · intro y0 y1 y2 y3 y4 y5
      unfold umlautlaw13_CastRounds.l1
      repeat' first
      | (with_reducible exact ih0 _ _ _ _ _ _ _)
      | (with_reducible exact ih1 _ _ _ _ _)
      | (with_reducible exact ih2 _ _ _ _ _ _)
      | (with_reducible exact ih3 _ _ _ _ _)
      | (with_reducible exact XC.cast_To.mono _ _ _ _ _)
      | (with_reducible exact XC.umlautlaw13_awake.mono _)
      | (with_reducible exact umlautref1_Text.mono _ _)
      | (with_reducible exact LeO.refl _)
      | (with_reducible exact LeO.none _)
      | (with_reducible refine LeO.ite ?_ ?_)
      | (with_reducible refine LeO.bind ?_ (fun _ => ?_))
      | exact ih0 _ _ _ _ _ _ _
      | exact ih1 _ _ _ _ _
      | exact ih2 _ _ _ _ _ _
      | exact ih3 _ _ _ _ _
      | exact XC.cast_To.mono _ _ _ _ _
      | exact XC.umlautlaw13_awake.mono _
      | exact umlautref1_Text.mono _ _
      | exact LeO.none _
      | refine LeO.ite ?_ ?_
      | refine LeO.bind ?_ (fun _ => ?_)
    · intro y0 y1 y2 y3 y4
      unfold umlautlaw13_CastRounds.l2
      repeat' first
      | (with_reducible exact ih0 _ _ _ _ _ _ _)
      | (with_reducible exact ih1 _ _ _ _ _)
      | (with_reducible exact ih2 _ _ _ _ _ _)
      | (with_reducible exact ih3 _ _ _ _ _)
      | (with_reducible exact XC.cast_To.mono _ _ _ _ _)
      | (with_reducible exact XC.umlautlaw13_awake.mono _)
      | (with_reducible exact umlautref1_Text.mono _ _)
      | (with_reducible exact LeO.refl _)
      | (with_reducible exact LeO.none _)
      | (with_reducible refine LeO.ite ?_ ?_)
      | (with_reducible refine LeO.bind ?_ (fun _ => ?_))
      | exact ih0 _ _ _ _ _ _ _
      | exact ih1 _ _ _ _ _
      | exact ih2 _ _ _ _ _ _
      | exact ih3 _ _ _ _ _
      | exact XC.cast_To.mono _ _ _ _ _
      | exact XC.umlautlaw13_awake.mono _
      | exact umlautref1_Text.mono _ _
      | exact LeO.none _
      | refine LeO.ite ?_ ?_
      | refine LeO.bind ?_ (fun _ => ?_)
theorem umlautlaw13_CastRounds.mono : ∀ a0 a1 a2 a3 k, LeO (umlautlaw13_CastRounds.f k a0 a1 a2 a3) (umlautlaw13_CastRounds.f (k + 1) a0 a1 a2 a3) := by
  intro a0 a1 a2 a3 k
  obtain ⟨ih0, ih1, ih2, ih3⟩ := umlautlaw13_CastRounds.mono_l k
  unfold umlautlaw13_CastRounds.f
  repeat' first
      | (with_reducible exact ih0 _ _ _ _ _ _ _)
      | (with_reducible exact ih1 _ _ _ _ _)
      | (with_reducible exact ih2 _ _ _ _ _ _)
      | (with_reducible exact ih3 _ _ _ _ _)
      | (with_reducible exact XC.cast_To.mono _ _ _ _ _)
      | (with_reducible exact XC.umlautlaw13_awake.mono _)
      | (with_reducible exact umlautref1_Text.mono _ _)
      | (with_reducible exact LeO.refl _)
      | (with_reducible exact LeO.none _)
      | (with_reducible refine LeO.ite ?_ ?_)
      | (with_reducible refine LeO.bind ?_ (fun _ => ?_))
      | exact ih0 _ _ _ _ _ _ _
      | exact ih1 _ _ _ _ _
      | exact ih2 _ _ _ _ _ _
      | exact ih3 _ _ _ _ _
      | exact XC.cast_To.mono _ _ _ _ _
      | exact XC.umlautlaw13_awake.mono _
      | exact umlautref1_Text.mono _ _
      | exact LeO.none _
      | refine LeO.ite ?_ ?_
      | refine LeO.bind ?_ (fun _ => ?_)
set_option maxHeartbeats 8000000 in
set_option maxRecDepth 100000 in
theorem umlautlaw13_CastRounds.calls (k : Nat) (a0 : Int) (a1 : Int) (a2 : Int) (a3 : Int) (r : Bool) (w : World) (hG0 : GW w) (h : umlautlaw13_CastRounds.f k a0 a1 a2 a3 = some r) (hT : r = true) :
    Calls Tryz.prog 3 #[.int .i64 a0, .int .i64 a1, .int .i64 a2, .int .i64 a3] w fun e w' => e = .returned (.bool r) ∧ Below w.heap.size w w' := by
  have hu24 := Tryz.underlying24
  have HT := Aside0.mk hT
  clear hT
  have HG := Aside0.mk hG0
  clear hG0
  have HB := Aside0.mk (Below.refl w.heap.size w)
  have H : ((umlautref1_Text.f k a0).bind fun t102 => (umlautlaw13_CastRounds.l0 k a0 a1 a2 a3 t102 (⟨#[]⟩ : ByteArray) 0)) = some r := h
  clear h
  replace H := Option.bind_eq_some_iff.mp H
  obtain ⟨t102, A50, H⟩ := H
  replace H : (umlautlaw13_CastRounds.l0 k a0 a1 a2 a3 t102 (⟨#[]⟩ : ByteArray) 0) = some r := H
  have A5 := Aside0.mk A50
  clear A50
  have H' := Aside0.mk H
  clear H
  go_enter Tryz.func3, Tryz.ntmps3
  go_wp2_with (first | ((with_reducible refine gate_callee (f := 7) rfl ?_); refine goesL_ (some 24) rfl rfl Tryz.func7 (by kernel_rfl) rfl #[.int .i64 a0] rfl (by (try simp only [List.map_toArray, List.map_cons, List.map_nil]); first | done | rfl | (simp only [List.length_drop, List.length_take]; rfl)) ?_; (with_reducible refine (umlautref1_Text.calls k a0 t102 _ A5.out).mono ?_); rintro e w' ⟨rfl, ⟨nd, rfl⟩⟩; refine ⟨_, rfl, ?_⟩))
  go_loopg [10, 11] k (fun kq v10 v11 w' => ∃ (x10_1 : ByteArray) (x11_1 : Int), v10 = .string x10_1 ∧ v11 = .int .i64 x11_1 ∧ Aside0 (umlautlaw13_CastRounds.l0 kq a0 a1 a2 a3 t102 x10_1 x11_1 = some r) ∧ Aside0 (kq ≤ k) ∧ Aside0 (Below w.heap.size w w'))
  case atStart => exact ⟨((⟨#[]⟩ : ByteArray)), (0), (by first | rfl | (simp; done) | (simp [*]; done)), (by first | rfl | (simp; done) | (simp [*]; done)), H', ⟨Nat.le_refl _⟩, ⟨by repeat (first | (with_reducible first | exact HB.out | apply below_alloc | apply pw_below_drewN | apply below_drew1) | exact HB.out)⟩⟩
  case round =>
    clear H'
    try clear p2
    try clear c3
    obtain ⟨x10_1, x11_1, rfl, rfl, HA, HK1, HB⟩ := hrel
    cases gk with
    | zero => exact absurd HA.out (by simp [umlautlaw13_CastRounds.l0])
    | succ k1 =>
      have H := HA.out
      clear HA
      simp only [umlautlaw13_CastRounds.l0] at H
      by_cases c6 : x11_1 < (Go.bits .and .i64 a3 7)
      · rw [if_pos c6] at H
        have c6b0 : decide (x11_1 < (Go.bits .and .i64 a3 7)) = true := decide_eq_true c6
        clear c6
        by_cases c7 : x10_1.size + 1 ≤ 9223372036854775807
        · rw [if_pos c7] at H
          have c7b0 := eq_true c7
          have c7b1 : decide (x10_1.size + 1 ≤ 9223372036854775807) = true := decide_eq_true c7
          try have c7b2 : (9223372036854775807 < x10_1.size + 1) = False := eq_false (Nat.not_lt.2 c7)
          have H' := Aside0.mk H
          clear H
          go_wp2
          go_roundg k1
          case measure => have := HK1.out; omega
          case rel => exact ⟨(x10_1 ++ (⟨#[48]⟩ : ByteArray)), (wrap64 (x11_1 + 1)), (by first | rfl | (simp; done) | (simp [*]; done)), (by first | rfl | (simp; done) | (simp [*]; done)), H', ⟨by have := HK1.out; omega⟩, ⟨by repeat (first | (with_reducible first | exact HB.out | apply below_alloc | apply pw_below_drewN | apply below_drew1) | exact HB.out)⟩⟩
        · rw [if_neg c7] at H
          exact absurd H (by simp)
      · rw [if_neg c6] at H
        have c6b0 : decide (x11_1 < (Go.bits .and .i64 a3 7)) = false := decide_eq_false c6
        clear c6
        by_cases c8 : x10_1.size + t102.size ≤ 9223372036854775807
        · rw [if_pos c8] at H
          have c8b0 := eq_true c8
          have c8b1 : decide (x10_1.size + t102.size ≤ 9223372036854775807) = true := decide_eq_true c8
          try have c8b2 : (9223372036854775807 < x10_1.size + t102.size) = False := eq_false (Nat.not_lt.2 c8)
          have HC9 := Aside0.mk H
          clear H
          go_upto_if 37 with (fail)
          go_cut [12] (fun v12 wc => ∃ (kq : Nat) (x12_8 : ByteArray), v12 = .string x12_8 ∧ Aside0 (umlautlaw13_CastRounds.j1 kq a0 a1 a2 t102 x12_8 = some r) ∧ Aside0 (kq ≤ k1) ∧ Aside0 (Below w.heap.size w wc))
          case first =>
            have H := HC9.out
            clear HC9
            by_cases c10 : a0 < 0
            · rw [if_pos c10] at H
              have c10b0 : decide (a0 < 0) = true := decide_eq_true c10
              clear c10
              (first | rw [c10b0] | (simp only [i64_w, i32_w]; rw [c10b0]) | skip)
              by_cases c11 : 1 + x10_1.size ≤ 9223372036854775807
              · rw [if_pos c11] at H
                have c11b0 := eq_true c11
                have c11b1 : decide (1 + x10_1.size ≤ 9223372036854775807) = true := decide_eq_true c11
                try have c11b2 : (9223372036854775807 < 1 + x10_1.size) = False := eq_false (Nat.not_lt.2 c11)
                by_cases c12 : 1 ≤ (t102.size : Int)
                · rw [if_pos c12] at H
                  have c12b0 := eq_true c12
                  have c12b1 : decide (1 ≤ (t102.size : Int)) = true := decide_eq_true c12
                  clear c12
                  by_cases c13 : ((⟨#[45]⟩ : ByteArray) ++ x10_1).size + (t102.extract 1 t102.size).size ≤ 9223372036854775807
                  · rw [if_pos c13] at H
                    have c13b0 := eq_true c13
                    have c13b1 : decide (((⟨#[45]⟩ : ByteArray) ++ x10_1).size + (t102.extract 1 t102.size).size ≤ 9223372036854775807) = true := decide_eq_true c13
                    try have c13b2 : (9223372036854775807 < ((⟨#[45]⟩ : ByteArray) ++ x10_1).size + (t102.extract 1 t102.size).size) = False := eq_false (Nat.not_lt.2 c13)
                    try have c13b3 : (9223372036854775807 < 1 + x10_1.size + (t102.extract 1 t102.size).size) = False := by (have z_ := c13b2; simp only [ByteArray.size_append] at z_; exact z_)
                    try have c13b4 : (9223372036854775807 < 1 + x10_1.size + (t102.extract 1 t102.size).size) = False := by (have z_ := c13b2; simp only [ByteArray.size_append, ByteArray.size_extract] at z_; simp only [Nat.sub_zero, Nat.min_self] at z_; exact z_)
                    have H' := Aside0.mk H
                    clear H
                    go_wp2
                    go_meet
                    case rel => exact ⟨_, (((⟨#[45]⟩ : ByteArray) ++ x10_1) ++ (t102.extract 1 t102.size)), (by first | rfl | (simp; done) | (simp [*]; done)), H', ⟨by have := HK1.out; first | omega | exact Nat.le_refl _⟩, ⟨by repeat (first | (with_reducible first | exact HB.out | apply below_alloc | apply pw_below_drewN | apply below_drew1) | exact HB.out)⟩⟩
                  · rw [if_neg c13] at H
                    exact absurd H (by simp)
                · rw [if_neg c12] at H
                  exact absurd H (by simp)
              · rw [if_neg c11] at H
                exact absurd H (by simp)
            · rw [if_neg c10] at H
              have c10b0 : decide (a0 < 0) = false := decide_eq_false c10
              clear c10
              (first | rw [c10b0] | (simp only [i64_w, i32_w]; rw [c10b0]) | skip)
              have H' := Aside0.mk H
              clear H
              go_wp2
              go_meet
              case rel => exact ⟨_, (x10_1 ++ t102), (by first | rfl | (simp; done) | (simp [*]; done)), H', ⟨by have := HK1.out; first | omega | exact Nat.le_refl _⟩, ⟨by repeat (first | (with_reducible first | exact HB.out | apply below_alloc | apply pw_below_drewN | apply below_drew1) | exact HB.out)⟩⟩
          case rest =>
            clear HC9
            try clear c1
            try clear p2
            try clear c3
            try clear c6
            try clear c6b0
            try clear p6
            try clear c7
            try clear c7b0
            try clear c7b1
            try clear c7b2
            try clear c8
            try clear c8b0
            try clear c8b1
            try clear c8b2
            try clear c10
            try clear c10b0
            try clear c11
            try clear c11b0
            try clear c11b1
            try clear c11b2
            try clear c12
            try clear c12b0
            try clear c12b1
            try clear c13
            try clear c13b0
            try clear c13b1
            try clear c13b2
            try clear p2
            obtain ⟨kq, x12_8, rfl, HA, HJ8, HB⟩ := hcut
            cases kq with
            | zero => exact absurd HA.out (by simp [umlautlaw13_CastRounds.j1])
            | succ kj8 =>
              have H := HA.out
              clear HA
              simp only [umlautlaw13_CastRounds.j1] at H
              have H' := Aside0.mk H
              clear H
              go_wp2
              go_loopg [12, 13] kj8 (fun kq v12 v13 w' => ∃ (x12_3 : ByteArray) (x13_3 : Int), v12 = .string x12_3 ∧ v13 = .int .i64 x13_3 ∧ Aside0 (umlautlaw13_CastRounds.l1 kq a0 a1 a2 t102 x12_3 x13_3 = some r) ∧ Aside0 (kq ≤ kj8) ∧ Aside0 (Below w.heap.size w w'))
              case atStart => exact ⟨(x12_8), (0), (by first | rfl | (simp; done) | (simp [*]; done)), (by first | rfl | (simp; done) | (simp [*]; done)), H', ⟨Nat.le_refl _⟩, ⟨by repeat (first | (with_reducible first | exact HB.out | apply below_alloc | apply pw_below_drewN | apply below_drew1) | exact HB.out)⟩⟩
              case round =>
                clear H'
                try clear c1
                try clear p2
                try clear c3
                try clear c6
                try clear c6b0
                try clear p6
                try clear c7
                try clear c7b0
                try clear c7b1
                try clear c7b2
                try clear c8
                try clear c8b0
                try clear c8b1
                try clear c8b2
                try clear c10
                try clear c10b0
                try clear c11
                try clear c11b0
                try clear c11b1
                try clear c11b2
                try clear c12
                try clear c12b0
                try clear c12b1
                try clear c13
                try clear c13b0
                try clear c13b1
                try clear c13b2
                try clear p2
                try clear p6
                obtain ⟨x12_3, x13_3, rfl, rfl, HA, HK3, HB⟩ := hrel
                cases gk with
                | zero => exact absurd HA.out (by simp [umlautlaw13_CastRounds.l1])
                | succ k3 =>
                  have H := HA.out
                  clear HA
                  simp only [umlautlaw13_CastRounds.l1] at H
                  by_cases c14 : x13_3 < (Go.bits .and .i64 a1 7)
                  · rw [if_pos c14] at H
                    have c14b0 : decide (x13_3 < (Go.bits .and .i64 a1 7)) = true := decide_eq_true c14
                    clear c14
                    by_cases c15 : 1 + x12_3.size ≤ 9223372036854775807
                    · rw [if_pos c15] at H
                      have c15b0 := eq_true c15
                      have c15b1 : decide (1 + x12_3.size ≤ 9223372036854775807) = true := decide_eq_true c15
                      try have c15b2 : (9223372036854775807 < 1 + x12_3.size) = False := eq_false (Nat.not_lt.2 c15)
                      have H' := Aside0.mk H
                      clear H
                      go_wp2
                      go_roundg k3
                      case measure => have := HK1.out; have := HJ8.out; have := HK3.out; omega
                      case rel => exact ⟨((⟨#[32]⟩ : ByteArray) ++ x12_3), (wrap64 (x13_3 + 1)), (by first | rfl | (simp; done) | (simp [*]; done)), (by first | rfl | (simp; done) | (simp [*]; done)), H', ⟨by have := HK1.out; have := HJ8.out; have := HK3.out; omega⟩, ⟨by repeat (first | (with_reducible first | exact HB.out | apply below_alloc | apply pw_below_drewN | apply below_drew1) | exact HB.out)⟩⟩
                    · rw [if_neg c15] at H
                      exact absurd H (by simp)
                  · rw [if_neg c14] at H
                    have c14b0 : decide (x13_3 < (Go.bits .and .i64 a1 7)) = false := decide_eq_false c14
                    clear c14
                    have H' := Aside0.mk H
                    clear H
                    go_wp2
                    go_loopg [12, 14] k3 (fun kq v12 v14 w' => ∃ (x12_4 : ByteArray) (x14_4 : Int), v12 = .string x12_4 ∧ v14 = .int .i64 x14_4 ∧ Aside0 (umlautlaw13_CastRounds.l2 kq a0 a2 t102 x12_4 x14_4 = some r) ∧ Aside0 (kq ≤ k3) ∧ Aside0 (Below w.heap.size w w'))
                    case atStart => exact ⟨(x12_3), (0), (by first | rfl | (simp; done) | (simp [*]; done)), (by first | rfl | (simp; done) | (simp [*]; done)), H', ⟨Nat.le_refl _⟩, ⟨by repeat (first | (with_reducible first | exact HB.out | apply below_alloc | apply pw_below_drewN | apply below_drew1) | exact HB.out)⟩⟩
                    case round =>
                      clear H'
                      try clear c1
                      try clear p2
                      try clear c3
                      try clear c6
                      try clear c6b0
                      try clear p6
                      try clear c7
                      try clear c7b0
                      try clear c7b1
                      try clear c7b2
                      try clear c8
                      try clear c8b0
                      try clear c8b1
                      try clear c8b2
                      try clear c10
                      try clear c10b0
                      try clear c11
                      try clear c11b0
                      try clear c11b1
                      try clear c11b2
                      try clear c12
                      try clear c12b0
                      try clear c12b1
                      try clear c13
                      try clear c13b0
                      try clear c13b1
                      try clear c13b2
                      try clear c14
                      try clear c14b0
                      try clear c15
                      try clear c15b0
                      try clear c15b1
                      try clear c15b2
                      try clear p2
                      try clear p6
                      obtain ⟨x12_4, x14_4, rfl, rfl, HA, HK4, HB⟩ := hrel
                      cases gk with
                      | zero => exact absurd HA.out (by simp [umlautlaw13_CastRounds.l2])
                      | succ k4 =>
                        have H := HA.out
                        clear HA
                        simp only [umlautlaw13_CastRounds.l2] at H
                        by_cases c16 : x14_4 < (Go.bits .and .i64 a2 7)
                        · rw [if_pos c16] at H
                          have c16b0 : decide (x14_4 < (Go.bits .and .i64 a2 7)) = true := decide_eq_true c16
                          clear c16
                          by_cases c17 : x12_4.size + 1 ≤ 9223372036854775807
                          · rw [if_pos c17] at H
                            have c17b0 := eq_true c17
                            have c17b1 : decide (x12_4.size + 1 ≤ 9223372036854775807) = true := decide_eq_true c17
                            try have c17b2 : (9223372036854775807 < x12_4.size + 1) = False := eq_false (Nat.not_lt.2 c17)
                            have H' := Aside0.mk H
                            clear H
                            go_wp2
                            go_roundg k4
                            case measure => have := HK1.out; have := HJ8.out; have := HK3.out; have := HK4.out; omega
                            case rel => exact ⟨(x12_4 ++ (⟨#[32]⟩ : ByteArray)), (wrap64 (x14_4 + 1)), (by first | rfl | (simp; done) | (simp [*]; done)), (by first | rfl | (simp; done) | (simp [*]; done)), H', ⟨by have := HK1.out; have := HJ8.out; have := HK3.out; have := HK4.out; omega⟩, ⟨by repeat (first | (with_reducible first | exact HB.out | apply below_alloc | apply pw_below_drewN | apply below_drew1) | exact HB.out)⟩⟩
                          · rw [if_neg c17] at H
                            exact absurd H (by simp)
                        · rw [if_neg c16] at H
                          have c16b0 : decide (x14_4 < (Go.bits .and .i64 a2 7)) = false := decide_eq_false c16
                          clear c16
                          replace H := Option.bind_eq_some_iff.mp H
                          obtain ⟨⟨t103, t104, t105⟩, A180, H⟩ := H
                          replace H : ((XC.cast_To.f k4 t103 t104 t105 2).bind fun bt106 => ((XC.cast_To.f k4 bt106.1 bt106.2.1 bt106.2.2.1 3).bind fun bt111 => ((XC.cast_To.f k4 bt106.1 bt106.2.1 bt106.2.2.1 1).bind fun bt116 => (if x12_4.size + 1 ≤ 9223372036854775807 then ((XC.umlautref11_Text.f (x12_4 ++ (⟨#[120]⟩ : ByteArray))).bind fun bt121 => ((XC.cast_To.f k4 bt121.1 bt121.2.1 bt121.2.2 2).bind fun bt124 => (if bt106.2.2.2 = 0 then (if bt106.2.1 = a0 then (if bt111.2.2.2 = 0 then (if bt111.2.2.1.toList = t102.toList then (if bt116.2.2.2 = 0 then (if ((bt116.2.1 == 1) == (a0 != 0)) = true then (if bt124.2.2.2 = 20 then (if bt124.1 = 0 then ((XC.umlautlaw13_awake.f k4).bind fun t129 => (some t129)) else (some false)) else (some false)) else (some false)) else (some false)) else (some false)) else (some false)) else (some false)) else (some false)))) else (none))))) = some r := H
                          have A18 := Aside0.mk A180
                          clear A180
                          replace H := Option.bind_eq_some_iff.mp H
                          obtain ⟨⟨t106, t107, t108, t109⟩, A190, H⟩ := H
                          replace H : ((XC.cast_To.f k4 t106 t107 t108 3).bind fun bt111 => ((XC.cast_To.f k4 t106 t107 t108 1).bind fun bt116 => (if x12_4.size + 1 ≤ 9223372036854775807 then ((XC.umlautref11_Text.f (x12_4 ++ (⟨#[120]⟩ : ByteArray))).bind fun bt121 => ((XC.cast_To.f k4 bt121.1 bt121.2.1 bt121.2.2 2).bind fun bt124 => (if t109 = 0 then (if t107 = a0 then (if bt111.2.2.2 = 0 then (if bt111.2.2.1.toList = t102.toList then (if bt116.2.2.2 = 0 then (if ((bt116.2.1 == 1) == (a0 != 0)) = true then (if bt124.2.2.2 = 20 then (if bt124.1 = 0 then ((XC.umlautlaw13_awake.f k4).bind fun t129 => (some t129)) else (some false)) else (some false)) else (some false)) else (some false)) else (some false)) else (some false)) else (some false)) else (some false)))) else (none)))) = some r := H
                          have A19 := Aside0.mk A190
                          clear A190
                          replace H := Option.bind_eq_some_iff.mp H
                          obtain ⟨⟨t111, t112, t113, t114⟩, A200, H⟩ := H
                          replace H : ((XC.cast_To.f k4 t106 t107 t108 1).bind fun bt116 => (if x12_4.size + 1 ≤ 9223372036854775807 then ((XC.umlautref11_Text.f (x12_4 ++ (⟨#[120]⟩ : ByteArray))).bind fun bt121 => ((XC.cast_To.f k4 bt121.1 bt121.2.1 bt121.2.2 2).bind fun bt124 => (if t109 = 0 then (if t107 = a0 then (if t114 = 0 then (if t113.toList = t102.toList then (if bt116.2.2.2 = 0 then (if ((bt116.2.1 == 1) == (a0 != 0)) = true then (if bt124.2.2.2 = 20 then (if bt124.1 = 0 then ((XC.umlautlaw13_awake.f k4).bind fun t129 => (some t129)) else (some false)) else (some false)) else (some false)) else (some false)) else (some false)) else (some false)) else (some false)) else (some false)))) else (none))) = some r := H
                          have A20 := Aside0.mk A200
                          clear A200
                          replace H := Option.bind_eq_some_iff.mp H
                          obtain ⟨⟨t116, t117, t118, t119⟩, A210, H⟩ := H
                          replace H : (if x12_4.size + 1 ≤ 9223372036854775807 then ((XC.umlautref11_Text.f (x12_4 ++ (⟨#[120]⟩ : ByteArray))).bind fun bt121 => ((XC.cast_To.f k4 bt121.1 bt121.2.1 bt121.2.2 2).bind fun bt124 => (if t109 = 0 then (if t107 = a0 then (if t114 = 0 then (if t113.toList = t102.toList then (if t119 = 0 then (if ((t117 == 1) == (a0 != 0)) = true then (if bt124.2.2.2 = 20 then (if bt124.1 = 0 then ((XC.umlautlaw13_awake.f k4).bind fun t129 => (some t129)) else (some false)) else (some false)) else (some false)) else (some false)) else (some false)) else (some false)) else (some false)) else (some false)))) else (none)) = some r := H
                          have A21 := Aside0.mk A210
                          clear A210
                          by_cases c22 : x12_4.size + 1 ≤ 9223372036854775807
                          · rw [if_pos c22] at H
                            have c22b0 := eq_true c22
                            have c22b1 : decide (x12_4.size + 1 ≤ 9223372036854775807) = true := decide_eq_true c22
                            try have c22b2 : (9223372036854775807 < x12_4.size + 1) = False := eq_false (Nat.not_lt.2 c22)
                            replace H := Option.bind_eq_some_iff.mp H
                            obtain ⟨⟨t121, t122, t123⟩, A230, H⟩ := H
                            replace H : ((XC.cast_To.f k4 t121 t122 t123 2).bind fun bt124 => (if t109 = 0 then (if t107 = a0 then (if t114 = 0 then (if t113.toList = t102.toList then (if t119 = 0 then (if ((t117 == 1) == (a0 != 0)) = true then (if bt124.2.2.2 = 20 then (if bt124.1 = 0 then ((XC.umlautlaw13_awake.f k4).bind fun t129 => (some t129)) else (some false)) else (some false)) else (some false)) else (some false)) else (some false)) else (some false)) else (some false)) else (some false))) = some r := H
                            have A23 := Aside0.mk A230
                            clear A230
                            replace H := Option.bind_eq_some_iff.mp H
                            obtain ⟨⟨t124, t125, t126, t127⟩, A240, H⟩ := H
                            replace H : (if t109 = 0 then (if t107 = a0 then (if t114 = 0 then (if t113.toList = t102.toList then (if t119 = 0 then (if ((t117 == 1) == (a0 != 0)) = true then (if t127 = 20 then (if t124 = 0 then ((XC.umlautlaw13_awake.f k4).bind fun t129 => (some t129)) else (some false)) else (some false)) else (some false)) else (some false)) else (some false)) else (some false)) else (some false)) else (some false)) = some r := H
                            have A24 := Aside0.mk A240
                            clear A240
                            by_cases c25 : t109 = 0
                            · rw [if_pos c25] at H
                              have c25b0 : (t109 == 0) = true := beq_iff_eq.mpr c25
                              have c25b1 : (t109 != 0) = false := bne_eq_false_iff_eq.mpr c25
                              clear c25
                              by_cases c26 : t107 = a0
                              · rw [if_pos c26] at H
                                have c26b0 : (t107 == a0) = true := beq_iff_eq.mpr c26
                                have c26b1 : (t107 != a0) = false := bne_eq_false_iff_eq.mpr c26
                                clear c26
                                by_cases c27 : t114 = 0
                                · rw [if_pos c27] at H
                                  have c27b0 : (t114 == 0) = true := beq_iff_eq.mpr c27
                                  have c27b1 : (t114 != 0) = false := bne_eq_false_iff_eq.mpr c27
                                  clear c27
                                  by_cases c28 : t113.toList = t102.toList
                                  · rw [if_pos c28] at H
                                    have c28b0 : (t113.toList == t102.toList) = true := beq_iff_eq.mpr c28
                                    have c28b1 : (t113.toList != t102.toList) = false := bne_eq_false_iff_eq.mpr c28
                                    clear c28
                                    by_cases c29 : t119 = 0
                                    · rw [if_pos c29] at H
                                      have c29b0 : (t119 == 0) = true := beq_iff_eq.mpr c29
                                      have c29b1 : (t119 != 0) = false := bne_eq_false_iff_eq.mpr c29
                                      clear c29
                                      by_cases c30 : ((t117 == 1) == (a0 != 0)) = true
                                      · rw [if_pos c30] at H
                                        have c30b0 : ((t117 == 1) == (a0 != 0)) = true := c30
                                        (try (have c30b1 : decide ((t117 == 1) = (a0 != 0)) = true := by simpa using c30))
                                        (try (have c30b2 : ((t117 == 1) == (a0 != 0)) = true := by simpa using c30))
                                        clear c30
                                        by_cases c31 : t127 = 20
                                        · rw [if_pos c31] at H
                                          have c31b0 : (t127 == 20) = true := beq_iff_eq.mpr c31
                                          have c31b1 : (t127 != 20) = false := bne_eq_false_iff_eq.mpr c31
                                          clear c31
                                          by_cases c32 : t124 = 0
                                          · rw [if_pos c32] at H
                                            have c32b0 : (t124 == 0) = true := beq_iff_eq.mpr c32
                                            have c32b1 : (t124 != 0) = false := bne_eq_false_iff_eq.mpr c32
                                            clear c32
                                            replace H := Option.bind_eq_some_iff.mp H
                                            obtain ⟨t129, A330, H⟩ := H
                                            replace H : (some t129) = some r := H
                                            have A33 := Aside0.mk A330
                                            clear A330
                                            obtain rfl := Option.some.inj H
                                            go_wp2_with (first | ((with_reducible refine gate_callee (f := 9) rfl ?_); refine goesL_ (some 61) rfl rfl Tryz.func9 (by kernel_rfl) rfl #[.string x12_4] rfl (by (try simp only [List.map_toArray, List.map_cons, List.map_nil]); first | done | rfl | (simp only [List.length_drop, List.length_take]; rfl)) ?_; (with_reducible refine (XC.umlautref11_Text.calls x12_4 t103 t104 t105 _ A18.out).mono ?_); rintro e w34 ⟨rfl, hb⟩; refine ⟨_, rfl, ?_⟩; have n0_ := Aside0.mk (below_step (by repeat (first | (with_reducible first | exact HB.out | apply below_alloc | apply pw_below_drewN | apply below_drew1) | exact HB.out)) hb); clear HB; have HB := n0_; clear n0_; (try clear hb); (try clear hb2); (try clear hk); (try clear hi)) | ((with_reducible refine gate_callee (f := 8) rfl ?_); refine goesL_ (some 62) rfl rfl Tryz.func8 (by kernel_rfl) rfl #[.agg #[.int .i64 t103, .int .i64 t104, .string t105], .int .i64 2] rfl (by (try simp only [List.map_toArray, List.map_cons, List.map_nil]); first | done | rfl | (simp only [List.length_drop, List.length_take]; rfl)) ?_; (with_reducible refine (XC.cast_To.calls k4 t103 t104 t105 2 t106 t107 t108 t109 _ ?side1 A19.out).mono ?_); (case side1 => exact GW.below HG.out (by repeat (first | (with_reducible first | exact HB.out | apply below_alloc | apply pw_below_drewN | apply below_drew1) | exact HB.out))); rintro e w35 ⟨rfl, hb⟩; refine ⟨_, rfl, ?_⟩; have n0_ := Aside0.mk (below_step (by repeat (first | (with_reducible first | exact HB.out | apply below_alloc | apply pw_below_drewN | apply below_drew1) | exact HB.out)) hb); clear HB; have HB := n0_; clear n0_; (try clear hb); (try clear hb2); (try clear hk); (try clear hi)) | ((with_reducible refine gate_dst (N := 15) rfl ?_); refine box_event ?hg (N := 15) ?hd (cs := #[.int .i64 0, .int .i64 0, .string (⟨#[]⟩ : ByteArray)]) (t := 24) ?hr ?_; (case hd => rfl); (case hg => rfl); (case hr => first | (go_simp; done) | (go_simp; rfl)); intro gb110 hg w36 hbox hb; have n0_ := Aside0.mk (below_step (by repeat (first | (with_reducible first | exact HB.out | apply below_alloc | apply pw_below_drewN | apply below_drew1) | exact HB.out)) hb); have n1_ := Aside0.mk (hbox); have n2_ := Aside0.mk ((by rw [hg]; exact (below_size (by repeat (first | (with_reducible first | exact HB.out | apply below_alloc | apply pw_below_drewN | apply below_drew1) | exact HB.out))) : w.heap.size ≤ gb110)); have n3_ := Aside0.mk ((by rw [hg]; exact (below_size (by repeat (first | (with_reducible first | exact HB.out | apply below_alloc | apply pw_below_drewN | apply below_drew1) | exact HB.out))) : w.heap.size ≤ gb110)); clear HB; have HB := n0_; have BK110 := n1_; have GW110 := n2_; have GE110 := n3_; clear n0_ n1_ n2_ n3_; clear hb hbox hg; have hcz37_0 : w36.cell? ⟨gb110, 0, none⟩ = some (.int .i64 0) := (blk_cell BK110.out 0).trans rfl; have hcz37_1 : w36.cell? ⟨gb110, 1, none⟩ = some (.int .i64 0) := (blk_cell BK110.out 1).trans rfl; have hcz37_2 : w36.cell? ⟨gb110, 2, none⟩ = some (.string (⟨#[]⟩ : ByteArray)) := (blk_cell BK110.out 2).trans rfl; have hfz37_0 := blk_frozen BK110.out 0; have hfz37_1 := blk_frozen BK110.out 1; have hfz37_2 := blk_frozen BK110.out 2) | ((with_reducible refine gate_callee (f := 8) rfl ?_); refine goesL_ (some 67) rfl rfl Tryz.func8 (by kernel_rfl) rfl #[.agg #[.int .i64 t106, .int .i64 t107, .string t108], .int .i64 3] rfl (by (try simp only [List.map_toArray, List.map_cons, List.map_nil]); first | done | rfl | (simp only [List.length_drop, List.length_take]; rfl)) ?_; (with_reducible refine (XC.cast_To.calls k4 t106 t107 t108 3 t111 t112 t113 t114 _ ?side1 A20.out).mono ?_); (case side1 => exact GW.below HG.out (by repeat (first | (with_reducible first | exact HB.out | apply below_alloc | apply pw_below_drewN | apply below_drew1 | refine below_set ?_ GE110.out) | exact HB.out))); rintro e w38 ⟨rfl, hb⟩; refine ⟨_, rfl, ?_⟩; have n0_ := Aside0.mk (blk_below (g := gb110) (o := .cells #[.int .i64 t106, .int .i64 t107, .string t108] 24 (0, 0)) (by (with_reducible repeat (first | refine blk_drewN ?_ _ | refine blk_drew ?_ | refine blk_alloc ?_ _)); refine blk_put (cs := #[.int .i64 t106, .int .i64 t107, .string (⟨#[]⟩ : ByteArray)]) ?_ 2 _ rfl; (with_reducible repeat (first | refine blk_drewN ?_ _ | refine blk_drew ?_ | refine blk_alloc ?_ _)); refine blk_put (cs := #[.int .i64 t106, .int .i64 0, .string (⟨#[]⟩ : ByteArray)]) ?_ 1 _ rfl; (with_reducible repeat (first | refine blk_drewN ?_ _ | refine blk_drew ?_ | refine blk_alloc ?_ _)); refine blk_put (cs := #[.int .i64 0, .int .i64 0, .string (⟨#[]⟩ : ByteArray)]) ?_ 0 _ rfl; (with_reducible repeat (first | refine blk_drewN ?_ _ | refine blk_drew ?_ | refine blk_alloc ?_ _)); exact BK110.out) hb); have n1_ := Aside0.mk (below_step (by repeat (first | (with_reducible first | exact HB.out | apply below_alloc | apply pw_below_drewN | apply below_drew1 | refine below_set ?_ GE110.out) | exact HB.out)) hb); clear BK110; clear HB; have BK110 := n0_; have HB := n1_; clear n0_ n1_; (try clear hb); (try clear hb2); (try clear hk); (try clear hi)) | ((with_reducible refine gate_dst (N := 17) rfl ?_); refine box_event ?hg (N := 17) ?hd (cs := #[.int .i64 0, .int .i64 0, .string (⟨#[]⟩ : ByteArray)]) (t := 24) ?hr ?_; (case hd => rfl); (case hg => rfl); (case hr => first | (go_simp; done) | (go_simp; rfl)); intro gb115 hg w39 hbox hb; have n0_ := Aside0.mk (blk_below (g := gb110) (o := .cells #[.int .i64 t106, .int .i64 t107, .string t108] 24 (0, 0)) (by (with_reducible repeat (first | refine blk_drewN ?_ _ | refine blk_drew ?_ | refine blk_alloc ?_ _)); exact BK110.out) hb); have n1_ := Aside0.mk (below_step (by repeat (first | (with_reducible first | exact HB.out | apply below_alloc | apply pw_below_drewN | apply below_drew1 | refine below_set ?_ GE110.out) | exact HB.out)) hb); have n2_ := Aside0.mk (hbox); have n3_ := Aside0.mk ((by rw [hg]; exact (below_size (by repeat (first | (with_reducible first | exact HB.out | apply below_alloc | apply pw_below_drewN | apply below_drew1 | refine below_set ?_ GE110.out) | exact HB.out))) : w.heap.size ≤ gb115)); have n4_ := Aside0.mk ((by rw [hg]; exact (below_size (by repeat (first | (with_reducible first | exact HB.out | apply below_alloc | apply pw_below_drewN | apply below_drew1 | refine below_set ?_ GE110.out) | exact HB.out))) : w.heap.size ≤ gb115)); have n5_ := Aside0.mk ((by rw [hg]; exact Nat.ne_of_lt (blk_lt (g := gb110) (o := .cells #[.int .i64 t106, .int .i64 t107, .string t108] 24 (0, 0)) (by (with_reducible repeat (first | refine blk_drewN ?_ _ | refine blk_drew ?_ | refine blk_alloc ?_ _)); exact BK110.out)) : gb110 ≠ gb115)); have n6_ := Aside0.mk ((by rw [hg]; exact Nat.ne_of_gt (blk_lt (g := gb110) (o := .cells #[.int .i64 t106, .int .i64 t107, .string t108] 24 (0, 0)) (by (with_reducible repeat (first | refine blk_drewN ?_ _ | refine blk_drew ?_ | refine blk_alloc ?_ _)); exact BK110.out)) : gb115 ≠ gb110)); clear BK110; clear HB; have BK110 := n0_; have HB := n1_; have BK115 := n2_; have GW115 := n3_; have GE115 := n4_; have NB110_115 := n5_; have NB115_110 := n6_; clear n0_ n1_ n2_ n3_ n4_ n5_ n6_; clear hb hbox hg; have hnb40 := NB115_110.out; have hnc40 := NB110_115.out; have hcz41_0 : w39.cell? ⟨gb115, 0, none⟩ = some (.int .i64 0) := (blk_cell BK115.out 0).trans rfl; have hcz41_1 : w39.cell? ⟨gb115, 1, none⟩ = some (.int .i64 0) := (blk_cell BK115.out 1).trans rfl; have hcz41_2 : w39.cell? ⟨gb115, 2, none⟩ = some (.string (⟨#[]⟩ : ByteArray)) := (blk_cell BK115.out 2).trans rfl; have hfz41_0 := blk_frozen BK115.out 0; have hfz41_1 := blk_frozen BK115.out 1; have hfz41_2 := blk_frozen BK115.out 2; have hcz42_0 : w39.cell? ⟨gb110, 0, none⟩ = some (.int .i64 t106) := (blk_cell BK110.out 0).trans rfl; have hcz42_1 : w39.cell? ⟨gb110, 1, none⟩ = some (.int .i64 t107) := (blk_cell BK110.out 1).trans rfl; have hcz42_2 : w39.cell? ⟨gb110, 2, none⟩ = some (.string t108) := (blk_cell BK110.out 2).trans rfl; have hfz42_0 := blk_frozen BK110.out 0; have hfz42_1 := blk_frozen BK110.out 1; have hfz42_2 := blk_frozen BK110.out 2) | ((with_reducible refine gate_callee (f := 8) rfl ?_); refine goesL_ (some 72) rfl rfl Tryz.func8 (by kernel_rfl) rfl #[.agg #[.int .i64 t106, .int .i64 t107, .string t108], .int .i64 1] rfl (by (try simp only [List.map_toArray, List.map_cons, List.map_nil]); first | done | rfl | (simp only [List.length_drop, List.length_take]; rfl)) ?_; (with_reducible refine (XC.cast_To.calls k4 t106 t107 t108 1 t116 t117 t118 t119 _ ?side1 A21.out).mono ?_); (case side1 => exact GW.below HG.out (by repeat (first | (with_reducible first | exact HB.out | apply below_alloc | apply pw_below_drewN | apply below_drew1 | refine below_set ?_ GE110.out | refine below_set ?_ GE115.out) | exact HB.out))); rintro e w43 ⟨rfl, hb⟩; refine ⟨_, rfl, ?_⟩; have n0_ := Aside0.mk (blk_below (g := gb110) (o := .cells #[.int .i64 t106, .int .i64 t107, .string t108] 24 (0, 0)) (by (with_reducible repeat (first | refine blk_drewN ?_ _ | refine blk_drew ?_ | refine blk_alloc ?_ _)); refine blk_far ?_ NB110_115.out _; (with_reducible repeat (first | refine blk_drewN ?_ _ | refine blk_drew ?_ | refine blk_alloc ?_ _)); refine blk_far ?_ NB110_115.out _; (with_reducible repeat (first | refine blk_drewN ?_ _ | refine blk_drew ?_ | refine blk_alloc ?_ _)); refine blk_far ?_ NB110_115.out _; (with_reducible repeat (first | refine blk_drewN ?_ _ | refine blk_drew ?_ | refine blk_alloc ?_ _)); exact BK110.out) hb); have n1_ := Aside0.mk (blk_below (g := gb115) (o := .cells #[.int .i64 t111, .int .i64 t112, .string t113] 24 (0, 0)) (by (with_reducible repeat (first | refine blk_drewN ?_ _ | refine blk_drew ?_ | refine blk_alloc ?_ _)); refine blk_put (cs := #[.int .i64 t111, .int .i64 t112, .string (⟨#[]⟩ : ByteArray)]) ?_ 2 _ rfl; (with_reducible repeat (first | refine blk_drewN ?_ _ | refine blk_drew ?_ | refine blk_alloc ?_ _)); refine blk_put (cs := #[.int .i64 t111, .int .i64 0, .string (⟨#[]⟩ : ByteArray)]) ?_ 1 _ rfl; (with_reducible repeat (first | refine blk_drewN ?_ _ | refine blk_drew ?_ | refine blk_alloc ?_ _)); refine blk_put (cs := #[.int .i64 0, .int .i64 0, .string (⟨#[]⟩ : ByteArray)]) ?_ 0 _ rfl; (with_reducible repeat (first | refine blk_drewN ?_ _ | refine blk_drew ?_ | refine blk_alloc ?_ _)); exact BK115.out) hb); have n2_ := Aside0.mk (below_step (by repeat (first | (with_reducible first | exact HB.out | apply below_alloc | apply pw_below_drewN | apply below_drew1 | refine below_set ?_ GE110.out | refine below_set ?_ GE115.out) | exact HB.out)) hb); clear BK110; clear BK115; clear HB; have BK110 := n0_; have BK115 := n1_; have HB := n2_; clear n0_ n1_ n2_; (try clear hb); (try clear hb2); (try clear hk); (try clear hi)) | ((with_reducible refine gate_dst (N := 19) rfl ?_); refine box_event ?hg (N := 19) ?hd (cs := #[.int .i64 0, .int .i64 0, .string (⟨#[]⟩ : ByteArray)]) (t := 24) ?hr ?_; (case hd => rfl); (case hg => rfl); (case hr => first | (go_simp; done) | (go_simp; rfl)); intro gb120 hg w44 hbox hb; have n0_ := Aside0.mk (blk_below (g := gb110) (o := .cells #[.int .i64 t106, .int .i64 t107, .string t108] 24 (0, 0)) (by (with_reducible repeat (first | refine blk_drewN ?_ _ | refine blk_drew ?_ | refine blk_alloc ?_ _)); exact BK110.out) hb); have n1_ := Aside0.mk (blk_below (g := gb115) (o := .cells #[.int .i64 t111, .int .i64 t112, .string t113] 24 (0, 0)) (by (with_reducible repeat (first | refine blk_drewN ?_ _ | refine blk_drew ?_ | refine blk_alloc ?_ _)); exact BK115.out) hb); have n2_ := Aside0.mk (below_step (by repeat (first | (with_reducible first | exact HB.out | apply below_alloc | apply pw_below_drewN | apply below_drew1 | refine below_set ?_ GE110.out | refine below_set ?_ GE115.out) | exact HB.out)) hb); have n3_ := Aside0.mk (hbox); have n4_ := Aside0.mk ((by rw [hg]; exact (below_size (by repeat (first | (with_reducible first | exact HB.out | apply below_alloc | apply pw_below_drewN | apply below_drew1 | refine below_set ?_ GE110.out | refine below_set ?_ GE115.out) | exact HB.out))) : w.heap.size ≤ gb120)); have n5_ := Aside0.mk ((by rw [hg]; exact (below_size (by repeat (first | (with_reducible first | exact HB.out | apply below_alloc | apply pw_below_drewN | apply below_drew1 | refine below_set ?_ GE110.out | refine below_set ?_ GE115.out) | exact HB.out))) : w.heap.size ≤ gb120)); have n6_ := Aside0.mk ((by rw [hg]; exact Nat.ne_of_lt (blk_lt (g := gb110) (o := .cells #[.int .i64 t106, .int .i64 t107, .string t108] 24 (0, 0)) (by (with_reducible repeat (first | refine blk_drewN ?_ _ | refine blk_drew ?_ | refine blk_alloc ?_ _)); exact BK110.out)) : gb110 ≠ gb120)); have n7_ := Aside0.mk ((by rw [hg]; exact Nat.ne_of_gt (blk_lt (g := gb110) (o := .cells #[.int .i64 t106, .int .i64 t107, .string t108] 24 (0, 0)) (by (with_reducible repeat (first | refine blk_drewN ?_ _ | refine blk_drew ?_ | refine blk_alloc ?_ _)); exact BK110.out)) : gb120 ≠ gb110)); have n8_ := Aside0.mk ((by rw [hg]; exact Nat.ne_of_lt (blk_lt (g := gb115) (o := .cells #[.int .i64 t111, .int .i64 t112, .string t113] 24 (0, 0)) (by (with_reducible repeat (first | refine blk_drewN ?_ _ | refine blk_drew ?_ | refine blk_alloc ?_ _)); exact BK115.out)) : gb115 ≠ gb120)); have n9_ := Aside0.mk ((by rw [hg]; exact Nat.ne_of_gt (blk_lt (g := gb115) (o := .cells #[.int .i64 t111, .int .i64 t112, .string t113] 24 (0, 0)) (by (with_reducible repeat (first | refine blk_drewN ?_ _ | refine blk_drew ?_ | refine blk_alloc ?_ _)); exact BK115.out)) : gb120 ≠ gb115)); clear BK110; clear BK115; clear HB; have BK110 := n0_; have BK115 := n1_; have HB := n2_; have BK120 := n3_; have GW120 := n4_; have GE120 := n5_; have NB110_120 := n6_; have NB120_110 := n7_; have NB115_120 := n8_; have NB120_115 := n9_; clear n0_ n1_ n2_ n3_ n4_ n5_ n6_ n7_ n8_ n9_; clear hb hbox hg; have hnb45 := NB120_110.out; have hnc45 := NB110_120.out; have hnb46 := NB120_115.out; have hnc46 := NB115_120.out; have hcz47_0 : w44.cell? ⟨gb120, 0, none⟩ = some (.int .i64 0) := (blk_cell BK120.out 0).trans rfl; have hcz47_1 : w44.cell? ⟨gb120, 1, none⟩ = some (.int .i64 0) := (blk_cell BK120.out 1).trans rfl; have hcz47_2 : w44.cell? ⟨gb120, 2, none⟩ = some (.string (⟨#[]⟩ : ByteArray)) := (blk_cell BK120.out 2).trans rfl; have hfz47_0 := blk_frozen BK120.out 0; have hfz47_1 := blk_frozen BK120.out 1; have hfz47_2 := blk_frozen BK120.out 2) | ((with_reducible refine gate_callee (f := 9) rfl ?_); refine goesL_ (some 78) rfl rfl Tryz.func9 (by kernel_rfl) rfl #[.string (x12_4 ++ (⟨#[120]⟩ : ByteArray))] rfl (by (try simp only [List.map_toArray, List.map_cons, List.map_nil]); first | done | rfl | (simp only [List.length_drop, List.length_take]; rfl)) ?_; (with_reducible refine (XC.umlautref11_Text.calls (x12_4 ++ (⟨#[120]⟩ : ByteArray)) t121 t122 t123 _ A23.out).mono ?_); rintro e w48 ⟨rfl, hb⟩; refine ⟨_, rfl, ?_⟩; have n0_ := Aside0.mk (blk_below (g := gb110) (o := .cells #[.int .i64 t106, .int .i64 t107, .string t108] 24 (0, 0)) (by (with_reducible repeat (first | refine blk_drewN ?_ _ | refine blk_drew ?_ | refine blk_alloc ?_ _)); refine blk_far ?_ NB110_120.out _; (with_reducible repeat (first | refine blk_drewN ?_ _ | refine blk_drew ?_ | refine blk_alloc ?_ _)); refine blk_far ?_ NB110_120.out _; (with_reducible repeat (first | refine blk_drewN ?_ _ | refine blk_drew ?_ | refine blk_alloc ?_ _)); refine blk_far ?_ NB110_120.out _; (with_reducible repeat (first | refine blk_drewN ?_ _ | refine blk_drew ?_ | refine blk_alloc ?_ _)); exact BK110.out) hb); have n1_ := Aside0.mk (blk_below (g := gb115) (o := .cells #[.int .i64 t111, .int .i64 t112, .string t113] 24 (0, 0)) (by (with_reducible repeat (first | refine blk_drewN ?_ _ | refine blk_drew ?_ | refine blk_alloc ?_ _)); refine blk_far ?_ NB115_120.out _; (with_reducible repeat (first | refine blk_drewN ?_ _ | refine blk_drew ?_ | refine blk_alloc ?_ _)); refine blk_far ?_ NB115_120.out _; (with_reducible repeat (first | refine blk_drewN ?_ _ | refine blk_drew ?_ | refine blk_alloc ?_ _)); refine blk_far ?_ NB115_120.out _; (with_reducible repeat (first | refine blk_drewN ?_ _ | refine blk_drew ?_ | refine blk_alloc ?_ _)); exact BK115.out) hb); have n2_ := Aside0.mk (blk_below (g := gb120) (o := .cells #[.int .i64 t116, .int .i64 t117, .string t118] 24 (0, 0)) (by (with_reducible repeat (first | refine blk_drewN ?_ _ | refine blk_drew ?_ | refine blk_alloc ?_ _)); refine blk_put (cs := #[.int .i64 t116, .int .i64 t117, .string (⟨#[]⟩ : ByteArray)]) ?_ 2 _ rfl; (with_reducible repeat (first | refine blk_drewN ?_ _ | refine blk_drew ?_ | refine blk_alloc ?_ _)); refine blk_put (cs := #[.int .i64 t116, .int .i64 0, .string (⟨#[]⟩ : ByteArray)]) ?_ 1 _ rfl; (with_reducible repeat (first | refine blk_drewN ?_ _ | refine blk_drew ?_ | refine blk_alloc ?_ _)); refine blk_put (cs := #[.int .i64 0, .int .i64 0, .string (⟨#[]⟩ : ByteArray)]) ?_ 0 _ rfl; (with_reducible repeat (first | refine blk_drewN ?_ _ | refine blk_drew ?_ | refine blk_alloc ?_ _)); exact BK120.out) hb); have n3_ := Aside0.mk (below_step (by repeat (first | (with_reducible first | exact HB.out | apply below_alloc | apply pw_below_drewN | apply below_drew1 | refine below_set ?_ GE110.out | refine below_set ?_ GE115.out | refine below_set ?_ GE120.out) | exact HB.out)) hb); clear BK110; clear BK115; clear BK120; clear HB; have BK110 := n0_; have BK115 := n1_; have BK120 := n2_; have HB := n3_; clear n0_ n1_ n2_ n3_; (try clear hb); (try clear hb2); (try clear hk); (try clear hi)) | ((with_reducible refine gate_callee (f := 8) rfl ?_); refine goesL_ (some 79) rfl rfl Tryz.func8 (by kernel_rfl) rfl #[.agg #[.int .i64 t121, .int .i64 t122, .string t123], .int .i64 2] rfl (by (try simp only [List.map_toArray, List.map_cons, List.map_nil]); first | done | rfl | (simp only [List.length_drop, List.length_take]; rfl)) ?_; (with_reducible refine (XC.cast_To.calls k4 t121 t122 t123 2 t124 t125 t126 t127 _ ?side1 A24.out).mono ?_); (case side1 => exact GW.below HG.out (by repeat (first | (with_reducible first | exact HB.out | apply below_alloc | apply pw_below_drewN | apply below_drew1 | refine below_set ?_ GE110.out | refine below_set ?_ GE115.out | refine below_set ?_ GE120.out) | exact HB.out))); rintro e w49 ⟨rfl, hb⟩; refine ⟨_, rfl, ?_⟩; have n0_ := Aside0.mk (blk_below (g := gb110) (o := .cells #[.int .i64 t106, .int .i64 t107, .string t108] 24 (0, 0)) (by (with_reducible repeat (first | refine blk_drewN ?_ _ | refine blk_drew ?_ | refine blk_alloc ?_ _)); exact BK110.out) hb); have n1_ := Aside0.mk (blk_below (g := gb115) (o := .cells #[.int .i64 t111, .int .i64 t112, .string t113] 24 (0, 0)) (by (with_reducible repeat (first | refine blk_drewN ?_ _ | refine blk_drew ?_ | refine blk_alloc ?_ _)); exact BK115.out) hb); have n2_ := Aside0.mk (blk_below (g := gb120) (o := .cells #[.int .i64 t116, .int .i64 t117, .string t118] 24 (0, 0)) (by (with_reducible repeat (first | refine blk_drewN ?_ _ | refine blk_drew ?_ | refine blk_alloc ?_ _)); exact BK120.out) hb); have n3_ := Aside0.mk (below_step (by repeat (first | (with_reducible first | exact HB.out | apply below_alloc | apply pw_below_drewN | apply below_drew1 | refine below_set ?_ GE110.out | refine below_set ?_ GE115.out | refine below_set ?_ GE120.out) | exact HB.out)) hb); clear BK110; clear BK115; clear BK120; clear HB; have BK110 := n0_; have BK115 := n1_; have BK120 := n2_; have HB := n3_; clear n0_ n1_ n2_ n3_; (try clear hb); (try clear hb2); (try clear hk); (try clear hi)) | ((with_reducible refine gate_dst (N := 21) rfl ?_); refine box_event ?hg (N := 21) ?hd (cs := #[.int .i64 0, .int .i64 0, .string (⟨#[]⟩ : ByteArray)]) (t := 24) ?hr ?_; (case hd => rfl); (case hg => rfl); (case hr => first | (go_simp; done) | (go_simp; rfl)); intro gb128 hg w50 hbox hb; have n0_ := Aside0.mk (blk_below (g := gb110) (o := .cells #[.int .i64 t106, .int .i64 t107, .string t108] 24 (0, 0)) (by (with_reducible repeat (first | refine blk_drewN ?_ _ | refine blk_drew ?_ | refine blk_alloc ?_ _)); exact BK110.out) hb); have n1_ := Aside0.mk (blk_below (g := gb115) (o := .cells #[.int .i64 t111, .int .i64 t112, .string t113] 24 (0, 0)) (by (with_reducible repeat (first | refine blk_drewN ?_ _ | refine blk_drew ?_ | refine blk_alloc ?_ _)); exact BK115.out) hb); have n2_ := Aside0.mk (blk_below (g := gb120) (o := .cells #[.int .i64 t116, .int .i64 t117, .string t118] 24 (0, 0)) (by (with_reducible repeat (first | refine blk_drewN ?_ _ | refine blk_drew ?_ | refine blk_alloc ?_ _)); exact BK120.out) hb); have n3_ := Aside0.mk (below_step (by repeat (first | (with_reducible first | exact HB.out | apply below_alloc | apply pw_below_drewN | apply below_drew1 | refine below_set ?_ GE110.out | refine below_set ?_ GE115.out | refine below_set ?_ GE120.out) | exact HB.out)) hb); have n4_ := Aside0.mk (hbox); have n5_ := Aside0.mk ((by rw [hg]; exact (below_size (by repeat (first | (with_reducible first | exact HB.out | apply below_alloc | apply pw_below_drewN | apply below_drew1 | refine below_set ?_ GE110.out | refine below_set ?_ GE115.out | refine below_set ?_ GE120.out) | exact HB.out))) : w.heap.size ≤ gb128)); have n6_ := Aside0.mk ((by rw [hg]; exact (below_size (by repeat (first | (with_reducible first | exact HB.out | apply below_alloc | apply pw_below_drewN | apply below_drew1 | refine below_set ?_ GE110.out | refine below_set ?_ GE115.out | refine below_set ?_ GE120.out) | exact HB.out))) : w.heap.size ≤ gb128)); have n7_ := Aside0.mk ((by rw [hg]; exact Nat.ne_of_lt (blk_lt (g := gb110) (o := .cells #[.int .i64 t106, .int .i64 t107, .string t108] 24 (0, 0)) (by (with_reducible repeat (first | refine blk_drewN ?_ _ | refine blk_drew ?_ | refine blk_alloc ?_ _)); exact BK110.out)) : gb110 ≠ gb128)); have n8_ := Aside0.mk ((by rw [hg]; exact Nat.ne_of_gt (blk_lt (g := gb110) (o := .cells #[.int .i64 t106, .int .i64 t107, .string t108] 24 (0, 0)) (by (with_reducible repeat (first | refine blk_drewN ?_ _ | refine blk_drew ?_ | refine blk_alloc ?_ _)); exact BK110.out)) : gb128 ≠ gb110)); have n9_ := Aside0.mk ((by rw [hg]; exact Nat.ne_of_lt (blk_lt (g := gb115) (o := .cells #[.int .i64 t111, .int .i64 t112, .string t113] 24 (0, 0)) (by (with_reducible repeat (first | refine blk_drewN ?_ _ | refine blk_drew ?_ | refine blk_alloc ?_ _)); exact BK115.out)) : gb115 ≠ gb128)); have n10_ := Aside0.mk ((by rw [hg]; exact Nat.ne_of_gt (blk_lt (g := gb115) (o := .cells #[.int .i64 t111, .int .i64 t112, .string t113] 24 (0, 0)) (by (with_reducible repeat (first | refine blk_drewN ?_ _ | refine blk_drew ?_ | refine blk_alloc ?_ _)); exact BK115.out)) : gb128 ≠ gb115)); have n11_ := Aside0.mk ((by rw [hg]; exact Nat.ne_of_lt (blk_lt (g := gb120) (o := .cells #[.int .i64 t116, .int .i64 t117, .string t118] 24 (0, 0)) (by (with_reducible repeat (first | refine blk_drewN ?_ _ | refine blk_drew ?_ | refine blk_alloc ?_ _)); exact BK120.out)) : gb120 ≠ gb128)); have n12_ := Aside0.mk ((by rw [hg]; exact Nat.ne_of_gt (blk_lt (g := gb120) (o := .cells #[.int .i64 t116, .int .i64 t117, .string t118] 24 (0, 0)) (by (with_reducible repeat (first | refine blk_drewN ?_ _ | refine blk_drew ?_ | refine blk_alloc ?_ _)); exact BK120.out)) : gb128 ≠ gb120)); clear BK110; clear BK115; clear BK120; clear HB; have BK110 := n0_; have BK115 := n1_; have BK120 := n2_; have HB := n3_; have BK128 := n4_; have GW128 := n5_; have GE128 := n6_; have NB110_128 := n7_; have NB128_110 := n8_; have NB115_128 := n9_; have NB128_115 := n10_; have NB120_128 := n11_; have NB128_120 := n12_; clear n0_ n1_ n2_ n3_ n4_ n5_ n6_ n7_ n8_ n9_ n10_ n11_ n12_; clear hb hbox hg; have hnb51 := NB128_110.out; have hnc51 := NB110_128.out; have hnb52 := NB128_115.out; have hnc52 := NB115_128.out; have hnb53 := NB128_120.out; have hnc53 := NB120_128.out; have hcz54_0 : w50.cell? ⟨gb128, 0, none⟩ = some (.int .i64 0) := (blk_cell BK128.out 0).trans rfl; have hcz54_1 : w50.cell? ⟨gb128, 1, none⟩ = some (.int .i64 0) := (blk_cell BK128.out 1).trans rfl; have hcz54_2 : w50.cell? ⟨gb128, 2, none⟩ = some (.string (⟨#[]⟩ : ByteArray)) := (blk_cell BK128.out 2).trans rfl; have hfz54_0 := blk_frozen BK128.out 0; have hfz54_1 := blk_frozen BK128.out 1; have hfz54_2 := blk_frozen BK128.out 2; have hcz55_0 : w50.cell? ⟨gb110, 0, none⟩ = some (.int .i64 t106) := (blk_cell BK110.out 0).trans rfl; have hcz55_1 : w50.cell? ⟨gb110, 1, none⟩ = some (.int .i64 t107) := (blk_cell BK110.out 1).trans rfl; have hcz55_2 : w50.cell? ⟨gb110, 2, none⟩ = some (.string t108) := (blk_cell BK110.out 2).trans rfl; have hfz55_0 := blk_frozen BK110.out 0; have hfz55_1 := blk_frozen BK110.out 1; have hfz55_2 := blk_frozen BK110.out 2; have hcz56_0 : w50.cell? ⟨gb115, 0, none⟩ = some (.int .i64 t111) := (blk_cell BK115.out 0).trans rfl; have hcz56_1 : w50.cell? ⟨gb115, 1, none⟩ = some (.int .i64 t112) := (blk_cell BK115.out 1).trans rfl; have hcz56_2 : w50.cell? ⟨gb115, 2, none⟩ = some (.string t113) := (blk_cell BK115.out 2).trans rfl; have hfz56_0 := blk_frozen BK115.out 0; have hfz56_1 := blk_frozen BK115.out 1; have hfz56_2 := blk_frozen BK115.out 2; have hcz57_0 : w50.cell? ⟨gb120, 0, none⟩ = some (.int .i64 t116) := (blk_cell BK120.out 0).trans rfl; have hcz57_1 : w50.cell? ⟨gb120, 1, none⟩ = some (.int .i64 t117) := (blk_cell BK120.out 1).trans rfl; have hcz57_2 : w50.cell? ⟨gb120, 2, none⟩ = some (.string t118) := (blk_cell BK120.out 2).trans rfl; have hfz57_0 := blk_frozen BK120.out 0; have hfz57_1 := blk_frozen BK120.out 1; have hfz57_2 := blk_frozen BK120.out 2) | (go_at_call 10; (with_reducible refine (XC.umlautlaw13_awake.calls k4  t129 _ ?side1 A33.out).mono ?_); (case side1 => exact GW.below HG.out (by repeat (first | (with_reducible first | exact HB.out | apply below_alloc | apply pw_below_drewN | apply below_drew1 | refine below_set ?_ GE110.out | refine below_set ?_ GE115.out | refine below_set ?_ GE120.out | refine below_set ?_ GE128.out) | exact HB.out))); rintro e w58 ⟨rfl, hb⟩; have n0_ := Aside0.mk (blk_below (g := gb110) (o := .cells #[.int .i64 t106, .int .i64 t107, .string t108] 24 (0, 0)) (by (with_reducible repeat (first | refine blk_drewN ?_ _ | refine blk_drew ?_ | refine blk_alloc ?_ _)); refine blk_far ?_ NB110_128.out _; (with_reducible repeat (first | refine blk_drewN ?_ _ | refine blk_drew ?_ | refine blk_alloc ?_ _)); refine blk_far ?_ NB110_128.out _; (with_reducible repeat (first | refine blk_drewN ?_ _ | refine blk_drew ?_ | refine blk_alloc ?_ _)); refine blk_far ?_ NB110_128.out _; (with_reducible repeat (first | refine blk_drewN ?_ _ | refine blk_drew ?_ | refine blk_alloc ?_ _)); exact BK110.out) hb); have n1_ := Aside0.mk (blk_below (g := gb115) (o := .cells #[.int .i64 t111, .int .i64 t112, .string t113] 24 (0, 0)) (by (with_reducible repeat (first | refine blk_drewN ?_ _ | refine blk_drew ?_ | refine blk_alloc ?_ _)); refine blk_far ?_ NB115_128.out _; (with_reducible repeat (first | refine blk_drewN ?_ _ | refine blk_drew ?_ | refine blk_alloc ?_ _)); refine blk_far ?_ NB115_128.out _; (with_reducible repeat (first | refine blk_drewN ?_ _ | refine blk_drew ?_ | refine blk_alloc ?_ _)); refine blk_far ?_ NB115_128.out _; (with_reducible repeat (first | refine blk_drewN ?_ _ | refine blk_drew ?_ | refine blk_alloc ?_ _)); exact BK115.out) hb); have n2_ := Aside0.mk (blk_below (g := gb120) (o := .cells #[.int .i64 t116, .int .i64 t117, .string t118] 24 (0, 0)) (by (with_reducible repeat (first | refine blk_drewN ?_ _ | refine blk_drew ?_ | refine blk_alloc ?_ _)); refine blk_far ?_ NB120_128.out _; (with_reducible repeat (first | refine blk_drewN ?_ _ | refine blk_drew ?_ | refine blk_alloc ?_ _)); refine blk_far ?_ NB120_128.out _; (with_reducible repeat (first | refine blk_drewN ?_ _ | refine blk_drew ?_ | refine blk_alloc ?_ _)); refine blk_far ?_ NB120_128.out _; (with_reducible repeat (first | refine blk_drewN ?_ _ | refine blk_drew ?_ | refine blk_alloc ?_ _)); exact BK120.out) hb); have n3_ := Aside0.mk (blk_below (g := gb128) (o := .cells #[.int .i64 t124, .int .i64 t125, .string t126] 24 (0, 0)) (by (with_reducible repeat (first | refine blk_drewN ?_ _ | refine blk_drew ?_ | refine blk_alloc ?_ _)); refine blk_put (cs := #[.int .i64 t124, .int .i64 t125, .string (⟨#[]⟩ : ByteArray)]) ?_ 2 _ rfl; (with_reducible repeat (first | refine blk_drewN ?_ _ | refine blk_drew ?_ | refine blk_alloc ?_ _)); refine blk_put (cs := #[.int .i64 t124, .int .i64 0, .string (⟨#[]⟩ : ByteArray)]) ?_ 1 _ rfl; (with_reducible repeat (first | refine blk_drewN ?_ _ | refine blk_drew ?_ | refine blk_alloc ?_ _)); refine blk_put (cs := #[.int .i64 0, .int .i64 0, .string (⟨#[]⟩ : ByteArray)]) ?_ 0 _ rfl; (with_reducible repeat (first | refine blk_drewN ?_ _ | refine blk_drew ?_ | refine blk_alloc ?_ _)); exact BK128.out) hb); have n4_ := Aside0.mk (below_step (by repeat (first | (with_reducible first | exact HB.out | apply below_alloc | apply pw_below_drewN | apply below_drew1 | refine below_set ?_ GE110.out | refine below_set ?_ GE115.out | refine below_set ?_ GE120.out | refine below_set ?_ GE128.out) | exact HB.out)) hb); clear BK110; clear BK115; clear BK120; clear BK128; clear HB; have BK110 := n0_; have BK115 := n1_; have BK120 := n2_; have BK128 := n3_; have HB := n4_; clear n0_ n1_ n2_ n3_ n4_; (try clear hb); (try clear hb2); (try clear hk); (try clear hi)))
                                            go_ret
                                            exact ⟨by first | rfl | (simp [errW_none, errW_some] <;> rfl) | (simp [*, errW_none, errW_some] <;> rfl), by repeat (first | (with_reducible first | exact HB.out | apply below_alloc | apply pw_below_drewN | apply below_drew1 | refine below_set ?_ GE110.out | refine below_set ?_ GE115.out | refine below_set ?_ GE120.out | refine below_set ?_ GE128.out) | exact HB.out)⟩
                                          · rw [if_neg c32] at H
                                            have c32b0 : (t124 == 0) = false := beq_eq_false_iff_ne.mpr c32
                                            have c32b1 : (t124 != 0) = true := bne_iff_ne.mpr c32
                                            exact absurd (H.trans (congrArg some HT.out)) (by decide)
                                        · rw [if_neg c31] at H
                                          have c31b0 : (t127 == 20) = false := beq_eq_false_iff_ne.mpr c31
                                          have c31b1 : (t127 != 20) = true := bne_iff_ne.mpr c31
                                          exact absurd (H.trans (congrArg some HT.out)) (by decide)
                                      · rw [if_neg c30] at H
                                        have c30b0 : ((t117 == 1) == (a0 != 0)) = false := by simpa using c30
                                        (try (have c30b1 : decide ((t117 == 1) = (a0 != 0)) = false := by simpa using c30))
                                        (try (have c30b2 : ((t117 == 1) == (a0 != 0)) = false := by simpa using c30))
                                        (try (have c30b3 : ¬ ((t117 == 1) = (a0 != 0)) := by simpa using c30))
                                        clear c30
                                        exact absurd (H.trans (congrArg some HT.out)) (by decide)
                                    · rw [if_neg c29] at H
                                      have c29b0 : (t119 == 0) = false := beq_eq_false_iff_ne.mpr c29
                                      have c29b1 : (t119 != 0) = true := bne_iff_ne.mpr c29
                                      exact absurd (H.trans (congrArg some HT.out)) (by decide)
                                  · rw [if_neg c28] at H
                                    have c28b0 : (t113.toList == t102.toList) = false := beq_eq_false_iff_ne.mpr c28
                                    have c28b1 : (t113.toList != t102.toList) = true := bne_iff_ne.mpr c28
                                    exact absurd (H.trans (congrArg some HT.out)) (by decide)
                                · rw [if_neg c27] at H
                                  have c27b0 : (t114 == 0) = false := beq_eq_false_iff_ne.mpr c27
                                  have c27b1 : (t114 != 0) = true := bne_iff_ne.mpr c27
                                  exact absurd (H.trans (congrArg some HT.out)) (by decide)
                              · rw [if_neg c26] at H
                                have c26b0 : (t107 == a0) = false := beq_eq_false_iff_ne.mpr c26
                                have c26b1 : (t107 != a0) = true := bne_iff_ne.mpr c26
                                exact absurd (H.trans (congrArg some HT.out)) (by decide)
                            · rw [if_neg c25] at H
                              have c25b0 : (t109 == 0) = false := beq_eq_false_iff_ne.mpr c25
                              have c25b1 : (t109 != 0) = true := bne_iff_ne.mpr c25
                              exact absurd (H.trans (congrArg some HT.out)) (by decide)
                          · rw [if_neg c22] at H
                            exact absurd H (by simp)
        · rw [if_neg c8] at H
          exact absurd H (by simp)

/-- THE ONE PURE STATEMENT of umlautlaw13_CastRounds: yours. -/
def umlautlaw13_CastRounds.Pure : Prop := ∀ (a0 : Int) (a1 : Int) (a2 : Int) (a3 : Int), (Lit.int .i64 a0).wf = true → (Lit.int .i64 a1).wf = true → (Lit.int .i64 a2).wf = true → (Lit.int .i64 a3).wf = true → ∃ k, umlautlaw13_CastRounds.f k a0 a1 a2 a3 = some true
theorem umlautlaw13_CastRounds.walk (P : umlautlaw13_CastRounds.Pure) (a0 : Int) (a1 : Int) (a2 : Int) (a3 : Int) (w : World) (hG0 : GW w) (w0 : (Lit.int .i64 a0).wf = true) (w1 : (Lit.int .i64 a1).wf = true) (w2 : (Lit.int .i64 a2).wf = true) (w3 : (Lit.int .i64 a3).wf = true) :
    Calls Tryz.prog 3 #[.int .i64 a0, .int .i64 a1, .int .i64 a2, .int .i64 a3] w fun e w' => e = .returned (.bool true) ∧ Below w.heap.size w w' := by
  obtain ⟨k, h⟩ := P a0 a1 a2 a3 w0 w1 w2 w3
  refine (umlautlaw13_CastRounds.calls k a0 a1 a2 a3 true w hG0 h rfl).mono ?_
  rintro e w' ⟨rfl, hd⟩
  exact ⟨rfl, hd⟩

end Go.Proofs.YtmgoncnjagihgaaGreatDoor.XG
