-- laid by a program of this session (its print of the translation over its own contracts)
import Derived.Test.YtmgoncnjagihgaaGreatDoorXD0
namespace Go.Proofs.YtmgoncnjagihgaaGreatDoor.XD
open Go.Proofs.YtmgoncnjagihgaaGreatDoor Go.Proofs.YtmgoncnjagihgaaGreatDoor.Given Go.Proofs.YtmgoncnjagihgaaGreatDoor.Lem
open Go.RowKit Go.Proofs.YtmgoncnjagihgaaGreatDoorW.PrintWords Go.Proofs.YtmgoncnjagihgaaGreatDoorW.PrintLast Go.Proofs.YtmgoncnjagihgaaGreatDoorW.PrintMore
attribute [local go_sem] max2_int min2_int max_two min_two max_three min_three max_four min_four   -- for this text's walks alone
set_option linter.unusedVariables false
set_option linter.unusedSimpArgs false

-- GIVEN: function 10 (umlautlaw13_awake)

-- GIVEN: function 14 (cast_Binary)

-- GIVEN: function 15 (umlautref11_Int)

/-! ### umlautlaw13_CastBits: function 5 -/
def umlautlaw13_CastBits.f (k : Nat) (a0 : Int) (a1 : Int) : Option (Bool) := (XC.umlautref11_Int.f a0).bind fun bt101 => ((XC.umlautref11_Int.f a1).bind fun bt104 => ((cast_Binary.f k 16 bt101.1 bt101.2.1 bt101.2.2 bt104.1 bt104.2.1 bt104.2.2 0).bind fun bt107 => ((XC.umlautref11_Int.f a1).bind fun bt112 => ((cast_Binary.f k 16 bt107.1 bt107.2.1 bt107.2.2.1 bt112.1 bt112.2.1 bt112.2.2 0).bind fun bt115 => ((XC.umlautref11_Int.f a0).bind fun bt120 => ((XC.umlautref11_Int.f a1).bind fun bt123 => ((cast_Binary.f k 14 bt120.1 bt120.2.1 bt120.2.2 bt123.1 bt123.2.1 bt123.2.2 0).bind fun bt126 => ((XC.umlautref11_Int.f a0).bind fun bt131 => ((XC.umlautref11_Int.f a1).bind fun bt134 => ((cast_Binary.f k 15 bt131.1 bt131.2.1 bt131.2.2 bt134.1 bt134.2.1 bt134.2.2 0).bind fun bt137 => (if bt107.2.2.2 = 0 then (if bt115.2.2.2 = 0 then (if bt126.2.2.2 = 0 then (if bt137.2.2.2 = 0 then (if bt115.2.1 = a0 then (if bt107.2.1 = (Go.bits .xor .i64 a0 a1) then (if (wrap64 (bt126.2.1 + bt137.2.1)) = (wrap64 (a0 + a1)) then (if (wrap64 (bt137.2.1 - bt126.2.1)) = bt107.2.1 then ((XC.umlautlaw13_awake.f k).bind fun t142 => (some t142)) else (some false)) else (some false)) else (some false)) else (some false)) else (some false)) else (some false)) else (some false)) else (some false))))))))))))
theorem umlautlaw13_CastBits.mono : ∀ a0 a1 k, LeO (umlautlaw13_CastBits.f k a0 a1) (umlautlaw13_CastBits.f (k + 1) a0 a1) := by
  intro a0 a1 k
  unfold umlautlaw13_CastBits.f
  repeat' first
      | (with_reducible exact XC.umlautlaw13_awake.mono _)
      | (with_reducible exact cast_Binary.mono _ _ _ _ _ _ _ _ _)
      | (with_reducible exact LeO.refl _)
      | (with_reducible exact LeO.none _)
      | (with_reducible refine LeO.ite ?_ ?_)
      | (with_reducible refine LeO.bind ?_ (fun _ => ?_))
      | exact XC.umlautlaw13_awake.mono _
      | exact cast_Binary.mono _ _ _ _ _ _ _ _ _
      | exact LeO.none _
      | refine LeO.ite ?_ ?_
      | refine LeO.bind ?_ (fun _ => ?_)
def umlautlaw13_CastBits.T2 : Bool × List (List Nat × List Nat) := (true, [([], []), ([], []), ([1], [1]), ([0, 2, 2], [0, 2]), ([3], [3]), ([4], [4]), ([4], [4]), ([], []), ([7, 5, 3, 0, 1, 2, 3, 4, 5, 7], [5, 7]), ([6, 8, 0, 1, 2, 3, 4, 5, 6, 7, 8], [6])])
def umlautlaw13_CastBits.B2 : List Nat := [0, 0, 2, 7, 15, 31, 31, 0, 191, 511]
theorem umlautlaw13_CastBits.tab2 : rtab .any (opsOf Tryz.f5 2) = umlautlaw13_CastBits.T2 := by kernel_rfl
theorem umlautlaw13_CastBits.bits2 : waitsOk umlautlaw13_CastBits.T2.2 umlautlaw13_CastBits.B2 = true := by kernel_rfl
set_option maxHeartbeats 8000000 in
set_option maxRecDepth 100000 in
theorem umlautlaw13_CastBits.calls (k : Nat) (a0 : Int) (a1 : Int) (r : Bool) (w : World) (hG0 : GW w) (h : umlautlaw13_CastBits.f k a0 a1 = some r) (hT : r = true) :
    Calls Tryz.prog 5 #[.int .i64 a0, .int .i64 a1] w fun e w' => e = .returned (.bool r) ∧ Below w.heap.size w w' := by
  have hu24 := Tryz.underlying24
  have HT := Aside0.mk hT
  clear hT
  have HG := Aside0.mk hG0
  clear hG0
  have HB := Aside0.mk (Below.refl w.heap.size w)
  have H : ((XC.umlautref11_Int.f a0).bind fun bt101 => ((XC.umlautref11_Int.f a1).bind fun bt104 => ((cast_Binary.f k 16 bt101.1 bt101.2.1 bt101.2.2 bt104.1 bt104.2.1 bt104.2.2 0).bind fun bt107 => ((XC.umlautref11_Int.f a1).bind fun bt112 => ((cast_Binary.f k 16 bt107.1 bt107.2.1 bt107.2.2.1 bt112.1 bt112.2.1 bt112.2.2 0).bind fun bt115 => ((XC.umlautref11_Int.f a0).bind fun bt120 => ((XC.umlautref11_Int.f a1).bind fun bt123 => ((cast_Binary.f k 14 bt120.1 bt120.2.1 bt120.2.2 bt123.1 bt123.2.1 bt123.2.2 0).bind fun bt126 => ((XC.umlautref11_Int.f a0).bind fun bt131 => ((XC.umlautref11_Int.f a1).bind fun bt134 => ((cast_Binary.f k 15 bt131.1 bt131.2.1 bt131.2.2 bt134.1 bt134.2.1 bt134.2.2 0).bind fun bt137 => (if bt107.2.2.2 = 0 then (if bt115.2.2.2 = 0 then (if bt126.2.2.2 = 0 then (if bt137.2.2.2 = 0 then (if bt115.2.1 = a0 then (if bt107.2.1 = (Go.bits .xor .i64 a0 a1) then (if (wrap64 (bt126.2.1 + bt137.2.1)) = (wrap64 (a0 + a1)) then (if (wrap64 (bt137.2.1 - bt126.2.1)) = bt107.2.1 then ((XC.umlautlaw13_awake.f k).bind fun t142 => (some t142)) else (some false)) else (some false)) else (some false)) else (some false)) else (some false)) else (some false)) else (some false)) else (some false))))))))))))) = some r := h
  clear h
  replace H := Option.bind_eq_some_iff.mp H
  obtain ⟨⟨t101, t102, t103⟩, A30, H⟩ := H
  replace H : ((XC.umlautref11_Int.f a1).bind fun bt104 => ((cast_Binary.f k 16 t101 t102 t103 bt104.1 bt104.2.1 bt104.2.2 0).bind fun bt107 => ((XC.umlautref11_Int.f a1).bind fun bt112 => ((cast_Binary.f k 16 bt107.1 bt107.2.1 bt107.2.2.1 bt112.1 bt112.2.1 bt112.2.2 0).bind fun bt115 => ((XC.umlautref11_Int.f a0).bind fun bt120 => ((XC.umlautref11_Int.f a1).bind fun bt123 => ((cast_Binary.f k 14 bt120.1 bt120.2.1 bt120.2.2 bt123.1 bt123.2.1 bt123.2.2 0).bind fun bt126 => ((XC.umlautref11_Int.f a0).bind fun bt131 => ((XC.umlautref11_Int.f a1).bind fun bt134 => ((cast_Binary.f k 15 bt131.1 bt131.2.1 bt131.2.2 bt134.1 bt134.2.1 bt134.2.2 0).bind fun bt137 => (if bt107.2.2.2 = 0 then (if bt115.2.2.2 = 0 then (if bt126.2.2.2 = 0 then (if bt137.2.2.2 = 0 then (if bt115.2.1 = a0 then (if bt107.2.1 = (Go.bits .xor .i64 a0 a1) then (if (wrap64 (bt126.2.1 + bt137.2.1)) = (wrap64 (a0 + a1)) then (if (wrap64 (bt137.2.1 - bt126.2.1)) = bt107.2.1 then ((XC.umlautlaw13_awake.f k).bind fun t142 => (some t142)) else (some false)) else (some false)) else (some false)) else (some false)) else (some false)) else (some false)) else (some false)) else (some false)))))))))))) = some r := H
  have A3 := Aside0.mk A30
  clear A30
  replace H := Option.bind_eq_some_iff.mp H
  obtain ⟨⟨t104, t105, t106⟩, A40, H⟩ := H
  replace H : ((cast_Binary.f k 16 t101 t102 t103 t104 t105 t106 0).bind fun bt107 => ((XC.umlautref11_Int.f a1).bind fun bt112 => ((cast_Binary.f k 16 bt107.1 bt107.2.1 bt107.2.2.1 bt112.1 bt112.2.1 bt112.2.2 0).bind fun bt115 => ((XC.umlautref11_Int.f a0).bind fun bt120 => ((XC.umlautref11_Int.f a1).bind fun bt123 => ((cast_Binary.f k 14 bt120.1 bt120.2.1 bt120.2.2 bt123.1 bt123.2.1 bt123.2.2 0).bind fun bt126 => ((XC.umlautref11_Int.f a0).bind fun bt131 => ((XC.umlautref11_Int.f a1).bind fun bt134 => ((cast_Binary.f k 15 bt131.1 bt131.2.1 bt131.2.2 bt134.1 bt134.2.1 bt134.2.2 0).bind fun bt137 => (if bt107.2.2.2 = 0 then (if bt115.2.2.2 = 0 then (if bt126.2.2.2 = 0 then (if bt137.2.2.2 = 0 then (if bt115.2.1 = a0 then (if bt107.2.1 = (Go.bits .xor .i64 a0 a1) then (if (wrap64 (bt126.2.1 + bt137.2.1)) = (wrap64 (a0 + a1)) then (if (wrap64 (bt137.2.1 - bt126.2.1)) = bt107.2.1 then ((XC.umlautlaw13_awake.f k).bind fun t142 => (some t142)) else (some false)) else (some false)) else (some false)) else (some false)) else (some false)) else (some false)) else (some false)) else (some false))))))))))) = some r := H
  have A4 := Aside0.mk A40
  clear A40
  replace H := Option.bind_eq_some_iff.mp H
  obtain ⟨⟨t107, t108, t109, t110⟩, A50, H⟩ := H
  replace H : ((XC.umlautref11_Int.f a1).bind fun bt112 => ((cast_Binary.f k 16 t107 t108 t109 bt112.1 bt112.2.1 bt112.2.2 0).bind fun bt115 => ((XC.umlautref11_Int.f a0).bind fun bt120 => ((XC.umlautref11_Int.f a1).bind fun bt123 => ((cast_Binary.f k 14 bt120.1 bt120.2.1 bt120.2.2 bt123.1 bt123.2.1 bt123.2.2 0).bind fun bt126 => ((XC.umlautref11_Int.f a0).bind fun bt131 => ((XC.umlautref11_Int.f a1).bind fun bt134 => ((cast_Binary.f k 15 bt131.1 bt131.2.1 bt131.2.2 bt134.1 bt134.2.1 bt134.2.2 0).bind fun bt137 => (if t110 = 0 then (if bt115.2.2.2 = 0 then (if bt126.2.2.2 = 0 then (if bt137.2.2.2 = 0 then (if bt115.2.1 = a0 then (if t108 = (Go.bits .xor .i64 a0 a1) then (if (wrap64 (bt126.2.1 + bt137.2.1)) = (wrap64 (a0 + a1)) then (if (wrap64 (bt137.2.1 - bt126.2.1)) = t108 then ((XC.umlautlaw13_awake.f k).bind fun t142 => (some t142)) else (some false)) else (some false)) else (some false)) else (some false)) else (some false)) else (some false)) else (some false)) else (some false)))))))))) = some r := H
  have A5 := Aside0.mk A50
  clear A50
  replace H := Option.bind_eq_some_iff.mp H
  obtain ⟨⟨t112, t113, t114⟩, A60, H⟩ := H
  replace H : ((cast_Binary.f k 16 t107 t108 t109 t112 t113 t114 0).bind fun bt115 => ((XC.umlautref11_Int.f a0).bind fun bt120 => ((XC.umlautref11_Int.f a1).bind fun bt123 => ((cast_Binary.f k 14 bt120.1 bt120.2.1 bt120.2.2 bt123.1 bt123.2.1 bt123.2.2 0).bind fun bt126 => ((XC.umlautref11_Int.f a0).bind fun bt131 => ((XC.umlautref11_Int.f a1).bind fun bt134 => ((cast_Binary.f k 15 bt131.1 bt131.2.1 bt131.2.2 bt134.1 bt134.2.1 bt134.2.2 0).bind fun bt137 => (if t110 = 0 then (if bt115.2.2.2 = 0 then (if bt126.2.2.2 = 0 then (if bt137.2.2.2 = 0 then (if bt115.2.1 = a0 then (if t108 = (Go.bits .xor .i64 a0 a1) then (if (wrap64 (bt126.2.1 + bt137.2.1)) = (wrap64 (a0 + a1)) then (if (wrap64 (bt137.2.1 - bt126.2.1)) = t108 then ((XC.umlautlaw13_awake.f k).bind fun t142 => (some t142)) else (some false)) else (some false)) else (some false)) else (some false)) else (some false)) else (some false)) else (some false)) else (some false))))))))) = some r := H
  have A6 := Aside0.mk A60
  clear A60
  replace H := Option.bind_eq_some_iff.mp H
  obtain ⟨⟨t115, t116, t117, t118⟩, A70, H⟩ := H
  replace H : ((XC.umlautref11_Int.f a0).bind fun bt120 => ((XC.umlautref11_Int.f a1).bind fun bt123 => ((cast_Binary.f k 14 bt120.1 bt120.2.1 bt120.2.2 bt123.1 bt123.2.1 bt123.2.2 0).bind fun bt126 => ((XC.umlautref11_Int.f a0).bind fun bt131 => ((XC.umlautref11_Int.f a1).bind fun bt134 => ((cast_Binary.f k 15 bt131.1 bt131.2.1 bt131.2.2 bt134.1 bt134.2.1 bt134.2.2 0).bind fun bt137 => (if t110 = 0 then (if t118 = 0 then (if bt126.2.2.2 = 0 then (if bt137.2.2.2 = 0 then (if t116 = a0 then (if t108 = (Go.bits .xor .i64 a0 a1) then (if (wrap64 (bt126.2.1 + bt137.2.1)) = (wrap64 (a0 + a1)) then (if (wrap64 (bt137.2.1 - bt126.2.1)) = t108 then ((XC.umlautlaw13_awake.f k).bind fun t142 => (some t142)) else (some false)) else (some false)) else (some false)) else (some false)) else (some false)) else (some false)) else (some false)) else (some false)))))))) = some r := H
  have A7 := Aside0.mk A70
  clear A70
  replace H := Option.bind_eq_some_iff.mp H
  obtain ⟨⟨t120, t121, t122⟩, A80, H⟩ := H
  replace H : ((XC.umlautref11_Int.f a1).bind fun bt123 => ((cast_Binary.f k 14 t120 t121 t122 bt123.1 bt123.2.1 bt123.2.2 0).bind fun bt126 => ((XC.umlautref11_Int.f a0).bind fun bt131 => ((XC.umlautref11_Int.f a1).bind fun bt134 => ((cast_Binary.f k 15 bt131.1 bt131.2.1 bt131.2.2 bt134.1 bt134.2.1 bt134.2.2 0).bind fun bt137 => (if t110 = 0 then (if t118 = 0 then (if bt126.2.2.2 = 0 then (if bt137.2.2.2 = 0 then (if t116 = a0 then (if t108 = (Go.bits .xor .i64 a0 a1) then (if (wrap64 (bt126.2.1 + bt137.2.1)) = (wrap64 (a0 + a1)) then (if (wrap64 (bt137.2.1 - bt126.2.1)) = t108 then ((XC.umlautlaw13_awake.f k).bind fun t142 => (some t142)) else (some false)) else (some false)) else (some false)) else (some false)) else (some false)) else (some false)) else (some false)) else (some false))))))) = some r := H
  have A8 := Aside0.mk A80
  clear A80
  replace H := Option.bind_eq_some_iff.mp H
  obtain ⟨⟨t123, t124, t125⟩, A90, H⟩ := H
  replace H : ((cast_Binary.f k 14 t120 t121 t122 t123 t124 t125 0).bind fun bt126 => ((XC.umlautref11_Int.f a0).bind fun bt131 => ((XC.umlautref11_Int.f a1).bind fun bt134 => ((cast_Binary.f k 15 bt131.1 bt131.2.1 bt131.2.2 bt134.1 bt134.2.1 bt134.2.2 0).bind fun bt137 => (if t110 = 0 then (if t118 = 0 then (if bt126.2.2.2 = 0 then (if bt137.2.2.2 = 0 then (if t116 = a0 then (if t108 = (Go.bits .xor .i64 a0 a1) then (if (wrap64 (bt126.2.1 + bt137.2.1)) = (wrap64 (a0 + a1)) then (if (wrap64 (bt137.2.1 - bt126.2.1)) = t108 then ((XC.umlautlaw13_awake.f k).bind fun t142 => (some t142)) else (some false)) else (some false)) else (some false)) else (some false)) else (some false)) else (some false)) else (some false)) else (some false)))))) = some r := H
  have A9 := Aside0.mk A90
  clear A90
  replace H := Option.bind_eq_some_iff.mp H
  obtain ⟨⟨t126, t127, t128, t129⟩, A100, H⟩ := H
  replace H : ((XC.umlautref11_Int.f a0).bind fun bt131 => ((XC.umlautref11_Int.f a1).bind fun bt134 => ((cast_Binary.f k 15 bt131.1 bt131.2.1 bt131.2.2 bt134.1 bt134.2.1 bt134.2.2 0).bind fun bt137 => (if t110 = 0 then (if t118 = 0 then (if t129 = 0 then (if bt137.2.2.2 = 0 then (if t116 = a0 then (if t108 = (Go.bits .xor .i64 a0 a1) then (if (wrap64 (t127 + bt137.2.1)) = (wrap64 (a0 + a1)) then (if (wrap64 (bt137.2.1 - t127)) = t108 then ((XC.umlautlaw13_awake.f k).bind fun t142 => (some t142)) else (some false)) else (some false)) else (some false)) else (some false)) else (some false)) else (some false)) else (some false)) else (some false))))) = some r := H
  have A10 := Aside0.mk A100
  clear A100
  replace H := Option.bind_eq_some_iff.mp H
  obtain ⟨⟨t131, t132, t133⟩, A110, H⟩ := H
  replace H : ((XC.umlautref11_Int.f a1).bind fun bt134 => ((cast_Binary.f k 15 t131 t132 t133 bt134.1 bt134.2.1 bt134.2.2 0).bind fun bt137 => (if t110 = 0 then (if t118 = 0 then (if t129 = 0 then (if bt137.2.2.2 = 0 then (if t116 = a0 then (if t108 = (Go.bits .xor .i64 a0 a1) then (if (wrap64 (t127 + bt137.2.1)) = (wrap64 (a0 + a1)) then (if (wrap64 (bt137.2.1 - t127)) = t108 then ((XC.umlautlaw13_awake.f k).bind fun t142 => (some t142)) else (some false)) else (some false)) else (some false)) else (some false)) else (some false)) else (some false)) else (some false)) else (some false)))) = some r := H
  have A11 := Aside0.mk A110
  clear A110
  replace H := Option.bind_eq_some_iff.mp H
  obtain ⟨⟨t134, t135, t136⟩, A120, H⟩ := H
  replace H : ((cast_Binary.f k 15 t131 t132 t133 t134 t135 t136 0).bind fun bt137 => (if t110 = 0 then (if t118 = 0 then (if t129 = 0 then (if bt137.2.2.2 = 0 then (if t116 = a0 then (if t108 = (Go.bits .xor .i64 a0 a1) then (if (wrap64 (t127 + bt137.2.1)) = (wrap64 (a0 + a1)) then (if (wrap64 (bt137.2.1 - t127)) = t108 then ((XC.umlautlaw13_awake.f k).bind fun t142 => (some t142)) else (some false)) else (some false)) else (some false)) else (some false)) else (some false)) else (some false)) else (some false)) else (some false))) = some r := H
  have A12 := Aside0.mk A120
  clear A120
  replace H := Option.bind_eq_some_iff.mp H
  obtain ⟨⟨t137, t138, t139, t140⟩, A130, H⟩ := H
  replace H : (if t110 = 0 then (if t118 = 0 then (if t129 = 0 then (if t140 = 0 then (if t116 = a0 then (if t108 = (Go.bits .xor .i64 a0 a1) then (if (wrap64 (t127 + t138)) = (wrap64 (a0 + a1)) then (if (wrap64 (t138 - t127)) = t108 then ((XC.umlautlaw13_awake.f k).bind fun t142 => (some t142)) else (some false)) else (some false)) else (some false)) else (some false)) else (some false)) else (some false)) else (some false)) else (some false)) = some r := H
  have A13 := Aside0.mk A130
  clear A130
  by_cases c14 : t110 = 0
  · rw [if_pos c14] at H
    have c14b0 : (t110 == 0) = true := beq_iff_eq.mpr c14
    have c14b1 : (t110 != 0) = false := bne_eq_false_iff_eq.mpr c14
    clear c14
    by_cases c15 : t118 = 0
    · rw [if_pos c15] at H
      have c15b0 : (t118 == 0) = true := beq_iff_eq.mpr c15
      have c15b1 : (t118 != 0) = false := bne_eq_false_iff_eq.mpr c15
      clear c15
      by_cases c16 : t129 = 0
      · rw [if_pos c16] at H
        have c16b0 : (t129 == 0) = true := beq_iff_eq.mpr c16
        have c16b1 : (t129 != 0) = false := bne_eq_false_iff_eq.mpr c16
        clear c16
        by_cases c17 : t140 = 0
        · rw [if_pos c17] at H
          have c17b0 : (t140 == 0) = true := beq_iff_eq.mpr c17
          have c17b1 : (t140 != 0) = false := bne_eq_false_iff_eq.mpr c17
          clear c17
          by_cases c18 : t116 = a0
          · rw [if_pos c18] at H
            have c18b0 : (t116 == a0) = true := beq_iff_eq.mpr c18
            have c18b1 : (t116 != a0) = false := bne_eq_false_iff_eq.mpr c18
            clear c18
            by_cases c19 : t108 = (Go.bits .xor .i64 a0 a1)
            · rw [if_pos c19] at H
              have c19b0 : (t108 == (Go.bits .xor .i64 a0 a1)) = true := beq_iff_eq.mpr c19
              have c19b1 : (t108 != (Go.bits .xor .i64 a0 a1)) = false := bne_eq_false_iff_eq.mpr c19
              clear c19
              by_cases c20 : (wrap64 (t127 + t138)) = (wrap64 (a0 + a1))
              · rw [if_pos c20] at H
                have c20b0 : ((wrap64 (t127 + t138)) == (wrap64 (a0 + a1))) = true := beq_iff_eq.mpr c20
                have c20b1 : ((wrap64 (t127 + t138)) != (wrap64 (a0 + a1))) = false := bne_eq_false_iff_eq.mpr c20
                clear c20
                by_cases c21 : (wrap64 (t138 - t127)) = t108
                · rw [if_pos c21] at H
                  have c21b0 : ((wrap64 (t138 - t127)) == t108) = true := beq_iff_eq.mpr c21
                  have c21b1 : ((wrap64 (t138 - t127)) != t108) = false := bne_eq_false_iff_eq.mpr c21
                  clear c21
                  replace H := Option.bind_eq_some_iff.mp H
                  obtain ⟨t142, A220, H⟩ := H
                  replace H : (some t142) = some r := H
                  have A22 := Aside0.mk A220
                  clear A220
                  obtain rfl := Option.some.inj H
                  go_enter Tryz.func5, Tryz.ntmps5
                  try go_wp2_with (first | ((with_reducible refine gate_callee (f := 15) rfl ?_); refine goesL_ (some 15) rfl rfl Tryz.func15 (by kernel_rfl) rfl #[.int .i64 a0] rfl (by (try simp only [List.map_toArray, List.map_cons, List.map_nil]); first | done | rfl | (simp only [List.length_drop, List.length_take]; rfl)) ?_; (with_reducible refine (XC.umlautref11_Int.calls a0 t101 t102 t103 _ A3.out).mono ?_); rintro e w23 ⟨rfl, hb⟩; refine ⟨_, rfl, ?_⟩; have n0_ := Aside0.mk (below_step (by repeat (first | (with_reducible first | exact HB.out | apply below_alloc | apply pw_below_drewN | apply below_drew1) | exact HB.out)) hb); clear HB; have HB := n0_; clear n0_; (try clear hb); (try clear hb2); (try clear hk); (try clear hi)) | ((with_reducible refine gate_callee (f := 15) rfl ?_); refine goesL_ (some 17) rfl rfl Tryz.func15 (by kernel_rfl) rfl #[.int .i64 a1] rfl (by (try simp only [List.map_toArray, List.map_cons, List.map_nil]); first | done | rfl | (simp only [List.length_drop, List.length_take]; rfl)) ?_; (with_reducible refine (XC.umlautref11_Int.calls a1 t104 t105 t106 _ A4.out).mono ?_); rintro e w24 ⟨rfl, hb⟩; refine ⟨_, rfl, ?_⟩; have n0_ := Aside0.mk (below_step (by repeat (first | (with_reducible first | exact HB.out | apply below_alloc | apply pw_below_drewN | apply below_drew1) | exact HB.out)) hb); clear HB; have HB := n0_; clear n0_; (try clear hb); (try clear hb2); (try clear hk); (try clear hi)) | ((with_reducible refine gate_callee (f := 14) rfl ?_); refine goesL_ (some 18) rfl rfl Tryz.func14 (by kernel_rfl) rfl #[.int .i64 16, .agg #[.int .i64 t101, .int .i64 t102, .string t103], .agg #[.int .i64 t104, .int .i64 t105, .string t106], .int .i64 0] rfl (by (try simp only [List.map_toArray, List.map_cons, List.map_nil]); first | done | rfl | (simp only [List.length_drop, List.length_take]; rfl)) ?_; (with_reducible refine (cast_Binary.calls k 16 t101 t102 t103 t104 t105 t106 0 t107 t108 t109 t110 _ A5.out).mono ?_); rintro e w25 ⟨rfl, hb⟩; refine ⟨_, rfl, ?_⟩; have n0_ := Aside0.mk (below_step (by repeat (first | (with_reducible first | exact HB.out | apply below_alloc | apply pw_below_drewN | apply below_drew1) | exact HB.out)) hb); clear HB; have HB := n0_; clear n0_; (try clear hb); (try clear hb2); (try clear hk); (try clear hi)) | ((with_reducible refine gate_dst (N := 5) rfl ?_); refine box_event ?hg (N := 5) ?hd (cs := #[.int .i64 0, .int .i64 0, .string (⟨#[]⟩ : ByteArray)]) (t := 24) ?hr ?_; (case hd => rfl); (case hg => rfl); (case hr => first | (go_simp; done) | (go_simp; rfl)); intro gb111 hg w26 hbox hb; have n0_ := Aside0.mk (below_step (by repeat (first | (with_reducible first | exact HB.out | apply below_alloc | apply pw_below_drewN | apply below_drew1) | exact HB.out)) hb); have n1_ := Aside0.mk (hbox); have n2_ := Aside0.mk ((by rw [hg]; exact (below_size (by repeat (first | (with_reducible first | exact HB.out | apply below_alloc | apply pw_below_drewN | apply below_drew1) | exact HB.out))) : w.heap.size ≤ gb111)); have n3_ := Aside0.mk ((by rw [hg]; exact (below_size (by repeat (first | (with_reducible first | exact HB.out | apply below_alloc | apply pw_below_drewN | apply below_drew1) | exact HB.out))) : w.heap.size ≤ gb111)); clear HB; have HB := n0_; have BK111 := n1_; have GW111 := n2_; have GE111 := n3_; clear n0_ n1_ n2_ n3_; clear hb hbox hg; have hcz27_0 : w26.cell? ⟨gb111, 0, none⟩ = some (.int .i64 0) := (blk_cell BK111.out 0).trans rfl; have hcz27_1 : w26.cell? ⟨gb111, 1, none⟩ = some (.int .i64 0) := (blk_cell BK111.out 1).trans rfl; have hcz27_2 : w26.cell? ⟨gb111, 2, none⟩ = some (.string (⟨#[]⟩ : ByteArray)) := (blk_cell BK111.out 2).trans rfl; have hfz27_0 := blk_frozen BK111.out 0; have hfz27_1 := blk_frozen BK111.out 1; have hfz27_2 := blk_frozen BK111.out 2))
                  have n0_ : Aside0 ((((w26.setCell ⟨gb111, 0, none⟩ (.int .i64 t107)).setCell ⟨gb111, 1, none⟩ (.int .i64 t108)).setCell ⟨gb111, 2, none⟩ (.string t109)).heap[gb111]? = some (.cells #[.int .i64 t107, .int .i64 t108, .string t109] 24 (0, 0))) := ⟨by (with_reducible repeat (first | refine blk_drewN ?_ _ | refine blk_drew ?_ | refine blk_alloc ?_ _)); refine blk_put (cs := #[.int .i64 t107, .int .i64 t108, .string (⟨#[]⟩ : ByteArray)]) ?_ 2 _ rfl; (with_reducible repeat (first | refine blk_drewN ?_ _ | refine blk_drew ?_ | refine blk_alloc ?_ _)); refine blk_put (cs := #[.int .i64 t107, .int .i64 0, .string (⟨#[]⟩ : ByteArray)]) ?_ 1 _ rfl; (with_reducible repeat (first | refine blk_drewN ?_ _ | refine blk_drew ?_ | refine blk_alloc ?_ _)); refine blk_put (cs := #[.int .i64 0, .int .i64 0, .string (⟨#[]⟩ : ByteArray)]) ?_ 0 _ rfl; (with_reducible repeat (first | refine blk_drewN ?_ _ | refine blk_drew ?_ | refine blk_alloc ?_ _)); exact BK111.out⟩
                  have n1_ : Aside0 (Below w.heap.size w (((w26.setCell ⟨gb111, 0, none⟩ (.int .i64 t107)).setCell ⟨gb111, 1, none⟩ (.int .i64 t108)).setCell ⟨gb111, 2, none⟩ (.string t109))) := ⟨by repeat (first | (with_reducible first | exact HB.out | apply below_alloc | apply pw_below_drewN | apply below_drew1 | refine below_set ?_ GE111.out) | exact HB.out)⟩
                  (try clear BK111)
                  (try clear HB)
                  generalize (((w26.setCell ⟨gb111, 0, none⟩ (.int .i64 t107)).setCell ⟨gb111, 1, none⟩ (.int .i64 t108)).setCell ⟨gb111, 2, none⟩ (.string t109)) = w28 at n0_ n1_ ⊢
                  have BK111 := n0_
                  have HB := n1_
                  clear n0_ n1_
                  have n0_ := Aside0.mk (blk_drew BK111.out)
                  have n1_ := Aside0.mk (below_drew1 HB.out)
                  clear BK111
                  clear HB
                  have BK111 := n0_
                  have HB := n1_
                  clear n0_ n1_
                  refine start_ (n := 10) (S := fun w' => w'.cell? ⟨gb111, 0, none⟩ = some (.int .i64 t107) ∧ w'.cell? ⟨gb111, 1, none⟩ = some (.int .i64 t108) ∧ w'.cell? ⟨gb111, 2, none⟩ = some (.string t109)) (ds := []) #[false, false, false, false, false, false, false, false, false, false] (by kernel_rfl) rfl rfl ⟨(blk_cell BK111.out 0).trans rfl, (blk_cell BK111.out 1).trans rfl, (blk_cell BK111.out 2).trans rfl⟩ (fun hHeld => ?_); refine with_tabW umlautlaw13_CastBits.tab2 umlautlaw13_CastBits.bits2 (fun HT_ HW_ => ?_)
                  generalize w28.drew = w29 at BK111 HB hHeld ⊢
                  refine pure_ (i := 1) (N := some 23) (v := ?_) (a' := ?_) #[false, true, false, false, false, false, false, false, false, false] rfl rfl (any_of HT_.out (by kernel_rfl)) (fun _ _ _ h => h) (Or.inl ⟨by rfl, ?_⟩) ?_ ?_
                  rotate_left
                  · intro w'
                    go_simp
                    with_reducible rfl
                  rotate_left
                  · simp only [Act.put, List.setIfInBounds_toArray, List.set_cons_zero, List.set_cons_succ, i64_w, i32_w]
                    rfl
                  refine take_ (i := 0) (N := some 22) (v := ?_) (a' := ?_) #[true, true, false, false, false, false, false, false, false, false] rfl rfl (take_ofW HT_.out HW_.out (by kernel_rfl)) (fun _ _ _ h => h) (Or.inl ⟨by rfl, ?_⟩) hHeld ?_ ?_
                  rotate_left
                  · rintro w' ⟨s0, s1, s2⟩
                    go_simp
                    with_reducible rfl
                  rotate_left
                  · simp only [Act.put, List.setIfInBounds_toArray, List.set_cons_zero, List.set_cons_succ, i64_w, i32_w]
                    rfl
                  refine join_ (σ := Nat) 2 #[true, true, true, true, true, true, true, true, false, false] (fun s_ => [(24, .agg #[.int .i64 t112, .int .i64 t113, .string t114]), (25, .tuple #[.agg #[.int .i64 t115, .int .i64 t116, .string t117], .int .i64 t118]), (7, .pointer (some ⟨s_, 0, none⟩)), (21, .tuple #[.agg #[.int .i64 t115, .int .i64 t116, .string t117], .int .i64 t118]), (26, .agg #[.int .i64 t115, .int .i64 t116, .string t117]), (27, .int .i64 t118)]) (fun s_ w' => (w'.cell? ⟨gb111, 0, none⟩ = some (.int .i64 t107) ∧ w'.cell? ⟨gb111, 1, none⟩ = some (.int .i64 t108) ∧ w'.cell? ⟨gb111, 2, none⟩ = some (.string t109)) ∧ (w'.heap[gb111]? = some (.cells #[.int .i64 t107, .int .i64 t108, .string t109] 24 (0, 0))) ∧ (w'.heap[s_]? = some (.cells #[.int .i64 0, .int .i64 0, .string (⟨#[]⟩ : ByteArray)] 24 (0, 0))) ∧ (w.heap.size ≤ s_) ∧ (w.heap.size ≤ s_) ∧ (gb111 ≠ s_) ∧ (s_ ≠ gb111) ∧ (Below w.heap.size w w')) ?_ ?_
                  rotate_left
                  · intro hCont
                    refine two_ (i := 2) (j := 7) (Ni := some 24) (Nj := some 7) #[true, true, true, false, false, false, false, false, false, false] #[true, true, false, false, false, false, false, true, false, false] rfl rfl rfl rfl (two_of HT_.out (by kernel_rfl)) (by decide) (by decide) (fun K hK => ?_) (fun K hK => ?_)
                    · skip
                      refine goes_ Tryz.func15 (by kernel_rfl) rfl #[.int .i64 a1] (by rfl) rfl rfl (by (try simp only [List.map_toArray, List.map_cons, List.map_nil]); first | done | rfl | (simp only [List.length_drop, List.length_take]; rfl)) ?_
                      with_reducible refine (XC.umlautref11_Int.calls a1 t112 t113 t114 _ A6.out).mono ?_
                      rintro e w30 ⟨rfl, hb⟩
                      refine ⟨_, rfl, ?_⟩
                      have n0_ := Aside0.mk (blk_below (g := gb111) (o := .cells #[.int .i64 t107, .int .i64 t108, .string t109] 24 (0, 0)) (by (with_reducible repeat (first | refine blk_drewN ?_ _ | refine blk_drew ?_ | refine blk_alloc ?_ _)); exact BK111.out) hb)
                      have n1_ := Aside0.mk (below_step (by repeat (first | (with_reducible first | exact HB.out | apply below_alloc | apply pw_below_drewN | apply below_drew1 | refine below_set ?_ GE111.out) | exact HB.out)) hb)
                      clear BK111
                      clear HB
                      have BK111 := n0_
                      have HB := n1_
                      clear n0_ n1_
                      (try clear hb)
                      (try clear hb2)
                      (try clear hk)
                      (try clear hi)
                      refine hK.out _ _ ⟨(blk_cell BK111.out 0).trans rfl, (blk_cell BK111.out 1).trans rfl, (blk_cell BK111.out 2).trans rfl⟩ (fun hHeld => ?_)
                      clear hK K
                      refine norm_ (a' := ?_) ?_ ?_
                      rotate_left
                      · show Act.put _ (some 24) _ = _
                        simp only [Act.put, List.setIfInBounds_toArray, List.set_cons_zero, List.set_cons_succ, i64_w, i32_w]
                        rfl
                      refine two_ (i := 3) (j := 7) (Ni := some 25) (Nj := some 7) #[true, true, true, true, false, false, false, false, false, false] #[true, true, true, false, false, false, false, true, false, false] rfl rfl rfl rfl (two_of HT_.out (by kernel_rfl)) (by decide) (by decide) (fun K hK => ?_) (fun K hK => ?_)
                      · skip
                        refine goes_ Tryz.func14 (by kernel_rfl) rfl #[.int .i64 16, .agg #[.int .i64 t107, .int .i64 t108, .string t109], .agg #[.int .i64 t112, .int .i64 t113, .string t114], .int .i64 0] (by rfl) rfl rfl (by (try simp only [List.map_toArray, List.map_cons, List.map_nil]); first | done | rfl | (simp only [List.length_drop, List.length_take]; rfl)) ?_
                        with_reducible refine (cast_Binary.calls k 16 t107 t108 t109 t112 t113 t114 0 t115 t116 t117 t118 _ A7.out).mono ?_
                        rintro e w31 ⟨rfl, hb⟩
                        refine ⟨_, rfl, ?_⟩
                        have n0_ := Aside0.mk (blk_below (g := gb111) (o := .cells #[.int .i64 t107, .int .i64 t108, .string t109] 24 (0, 0)) (by (with_reducible repeat (first | refine blk_drewN ?_ _ | refine blk_drew ?_ | refine blk_alloc ?_ _)); exact BK111.out) hb)
                        have n1_ := Aside0.mk (below_step (by repeat (first | (with_reducible first | exact HB.out | apply below_alloc | apply pw_below_drewN | apply below_drew1 | refine below_set ?_ GE111.out) | exact HB.out)) hb)
                        clear BK111
                        clear HB
                        have BK111 := n0_
                        have HB := n1_
                        clear n0_ n1_
                        (try clear hb)
                        (try clear hb2)
                        (try clear hk)
                        (try clear hi)
                        refine hK.out _ _ ⟨(blk_cell BK111.out 0).trans rfl, (blk_cell BK111.out 1).trans rfl, (blk_cell BK111.out 2).trans rfl⟩ (fun hHeld => ?_)
                        clear hK K
                        refine norm_ (a' := ?_) ?_ ?_
                        rotate_left
                        · show Act.put _ (some 25) _ = _
                          simp only [Act.put, List.setIfInBounds_toArray, List.set_cons_zero, List.set_cons_succ, i64_w, i32_w]
                          rfl
                        refine pure_ (i := 4) (N := some 21) (v := ?_) (a' := ?_) #[true, true, true, true, true, false, false, false, false, false] rfl rfl (any_of HT_.out (by kernel_rfl)) (fun _ _ _ h => h) (Or.inl ⟨by rfl, ?_⟩) ?_ ?_
                        rotate_left
                        · intro w'
                          go_simp
                          with_reducible rfl
                        rotate_left
                        · simp only [Act.put, List.setIfInBounds_toArray, List.set_cons_zero, List.set_cons_succ, i64_w, i32_w]
                          rfl
                        refine pure_ (i := 5) (N := some 26) (v := ?_) (a' := ?_) #[true, true, true, true, true, true, false, false, false, false] rfl rfl (any_of HT_.out (by kernel_rfl)) (fun _ _ _ h => h) (Or.inl ⟨by rfl, ?_⟩) ?_ ?_
                        rotate_left
                        · intro w'
                          go_simp
                          with_reducible rfl
                        rotate_left
                        · simp only [Act.put, List.setIfInBounds_toArray, List.set_cons_zero, List.set_cons_succ, i64_w, i32_w]
                          rfl
                        refine pure_ (i := 6) (N := some 27) (v := ?_) (a' := ?_) #[true, true, true, true, true, true, true, false, false, false] rfl rfl (any_of HT_.out (by kernel_rfl)) (fun _ _ _ h => h) (Or.inl ⟨by rfl, ?_⟩) ?_ ?_
                        rotate_left
                        · intro w'
                          go_simp
                          with_reducible rfl
                        rotate_left
                        · simp only [Act.put, List.setIfInBounds_toArray, List.set_cons_zero, List.set_cons_succ, i64_w, i32_w]
                          rfl
                        refine one_ (i := 7) (N := some 7) #[true, true, true, true, true, true, true, true, false, false] rfl rfl (one_of HT_.out (by kernel_rfl)) (by decide) (fun K hK => ?_)
                        refine box_step ?hg (N := 7) ?hd (cs := #[.int .i64 0, .int .i64 0, .string (⟨#[]⟩ : ByteArray)]) (t := 24) ?hr ?_; (case hd => rfl); (case hg => rfl); (case hr => first | (go_simp; done) | (go_simp; rfl))
                        intro gb119 hg w32 hbox hb
                        have n0_ := Aside0.mk (blk_below (g := gb111) (o := .cells #[.int .i64 t107, .int .i64 t108, .string t109] 24 (0, 0)) (by (with_reducible repeat (first | refine blk_drewN ?_ _ | refine blk_drew ?_ | refine blk_alloc ?_ _)); exact BK111.out) hb)
                        have n1_ := Aside0.mk (below_step (by repeat (first | (with_reducible first | exact HB.out | apply below_alloc | apply pw_below_drewN | apply below_drew1 | refine below_set ?_ GE111.out) | exact HB.out)) hb)
                        have n2_ := Aside0.mk (hbox)
                        have n3_ := Aside0.mk ((by rw [hg]; exact (below_size (by repeat (first | (with_reducible first | exact HB.out | apply below_alloc | apply pw_below_drewN | apply below_drew1 | refine below_set ?_ GE111.out) | exact HB.out))) : w.heap.size ≤ gb119))
                        have n4_ := Aside0.mk ((by rw [hg]; exact (below_size (by repeat (first | (with_reducible first | exact HB.out | apply below_alloc | apply pw_below_drewN | apply below_drew1 | refine below_set ?_ GE111.out) | exact HB.out))) : w.heap.size ≤ gb119))
                        have n5_ := Aside0.mk ((by rw [hg]; exact Nat.ne_of_lt (blk_lt (g := gb111) (o := .cells #[.int .i64 t107, .int .i64 t108, .string t109] 24 (0, 0)) (by (with_reducible repeat (first | refine blk_drewN ?_ _ | refine blk_drew ?_ | refine blk_alloc ?_ _)); exact BK111.out)) : gb111 ≠ gb119))
                        have n6_ := Aside0.mk ((by rw [hg]; exact Nat.ne_of_gt (blk_lt (g := gb111) (o := .cells #[.int .i64 t107, .int .i64 t108, .string t109] 24 (0, 0)) (by (with_reducible repeat (first | refine blk_drewN ?_ _ | refine blk_drew ?_ | refine blk_alloc ?_ _)); exact BK111.out)) : gb119 ≠ gb111))
                        clear BK111
                        clear HB
                        have BK111 := n0_
                        have HB := n1_
                        have BK119 := n2_
                        have GW119 := n3_
                        have GE119 := n4_
                        have NB111_119 := n5_
                        have NB119_111 := n6_
                        clear n0_ n1_ n2_ n3_ n4_ n5_ n6_
                        clear hb hbox hg
                        refine hK.out _ _ ⟨(blk_cell BK111.out 0).trans rfl, (blk_cell BK111.out 1).trans rfl, (blk_cell BK111.out 2).trans rfl⟩ (fun hHeld => ?_)
                        clear hK K
                        refine norm_ (a' := ?_) ?_ ?_
                        rotate_left
                        · show Act.put _ (some 7) _ = _
                          simp only [Act.put, List.setIfInBounds_toArray, List.set_cons_zero, List.set_cons_succ, i64_w, i32_w]
                          rfl
                        exact norm_ (by simp only [putAll, Act.put, List.setIfInBounds_toArray, List.set_cons_zero, List.set_cons_succ]) (hCont (gb119) _ ⟨hHeld, (by (with_reducible repeat (first | refine blk_drewN ?_ _ | refine blk_drew ?_ | refine blk_alloc ?_ _)); exact BK111.out), (by (with_reducible repeat (first | refine blk_drewN ?_ _ | refine blk_drew ?_ | refine blk_alloc ?_ _)); exact BK119.out), GW119.out, GE119.out, NB111_119.out, NB119_111.out, (by repeat (first | (with_reducible first | exact HB.out | apply below_alloc | apply pw_below_drewN | apply below_drew1 | refine below_set ?_ GE111.out | refine below_set ?_ GE119.out) | exact HB.out))⟩)
                      · skip
                        refine box_step ?hg (N := 7) ?hd (cs := #[.int .i64 0, .int .i64 0, .string (⟨#[]⟩ : ByteArray)]) (t := 24) ?hr ?_; (case hd => rfl); (case hg => rfl); (case hr => first | (go_simp; done) | (go_simp; rfl))
                        intro gb119 hg w31 hbox hb
                        have n0_ := Aside0.mk (blk_below (g := gb111) (o := .cells #[.int .i64 t107, .int .i64 t108, .string t109] 24 (0, 0)) (by (with_reducible repeat (first | refine blk_drewN ?_ _ | refine blk_drew ?_ | refine blk_alloc ?_ _)); exact BK111.out) hb)
                        have n1_ := Aside0.mk (below_step (by repeat (first | (with_reducible first | exact HB.out | apply below_alloc | apply pw_below_drewN | apply below_drew1 | refine below_set ?_ GE111.out) | exact HB.out)) hb)
                        have n2_ := Aside0.mk (hbox)
                        have n3_ := Aside0.mk ((by rw [hg]; exact (below_size (by repeat (first | (with_reducible first | exact HB.out | apply below_alloc | apply pw_below_drewN | apply below_drew1 | refine below_set ?_ GE111.out) | exact HB.out))) : w.heap.size ≤ gb119))
                        have n4_ := Aside0.mk ((by rw [hg]; exact (below_size (by repeat (first | (with_reducible first | exact HB.out | apply below_alloc | apply pw_below_drewN | apply below_drew1 | refine below_set ?_ GE111.out) | exact HB.out))) : w.heap.size ≤ gb119))
                        have n5_ := Aside0.mk ((by rw [hg]; exact Nat.ne_of_lt (blk_lt (g := gb111) (o := .cells #[.int .i64 t107, .int .i64 t108, .string t109] 24 (0, 0)) (by (with_reducible repeat (first | refine blk_drewN ?_ _ | refine blk_drew ?_ | refine blk_alloc ?_ _)); exact BK111.out)) : gb111 ≠ gb119))
                        have n6_ := Aside0.mk ((by rw [hg]; exact Nat.ne_of_gt (blk_lt (g := gb111) (o := .cells #[.int .i64 t107, .int .i64 t108, .string t109] 24 (0, 0)) (by (with_reducible repeat (first | refine blk_drewN ?_ _ | refine blk_drew ?_ | refine blk_alloc ?_ _)); exact BK111.out)) : gb119 ≠ gb111))
                        clear BK111
                        clear HB
                        have BK111 := n0_
                        have HB := n1_
                        have BK119 := n2_
                        have GW119 := n3_
                        have GE119 := n4_
                        have NB111_119 := n5_
                        have NB119_111 := n6_
                        clear n0_ n1_ n2_ n3_ n4_ n5_ n6_
                        clear hb hbox hg
                        refine hK.out _ _ ⟨(blk_cell BK111.out 0).trans rfl, (blk_cell BK111.out 1).trans rfl, (blk_cell BK111.out 2).trans rfl⟩ (fun hHeld => ?_)
                        clear hK K
                        refine norm_ (a' := ?_) ?_ ?_
                        rotate_left
                        · show Act.put _ (some 7) _ = _
                          simp only [Act.put, List.setIfInBounds_toArray, List.set_cons_zero, List.set_cons_succ, i64_w, i32_w]
                          rfl
                        refine one_ (i := 3) (N := some 25) #[true, true, true, true, false, false, false, true, false, false] rfl rfl (one_of HT_.out (by kernel_rfl)) (by decide) (fun K hK => ?_)
                        refine goes_ Tryz.func14 (by kernel_rfl) rfl #[.int .i64 16, .agg #[.int .i64 t107, .int .i64 t108, .string t109], .agg #[.int .i64 t112, .int .i64 t113, .string t114], .int .i64 0] (by rfl) rfl rfl (by (try simp only [List.map_toArray, List.map_cons, List.map_nil]); first | done | rfl | (simp only [List.length_drop, List.length_take]; rfl)) ?_
                        with_reducible refine (cast_Binary.calls k 16 t107 t108 t109 t112 t113 t114 0 t115 t116 t117 t118 _ A7.out).mono ?_
                        rintro e w32 ⟨rfl, hb⟩
                        refine ⟨_, rfl, ?_⟩
                        have n0_ := Aside0.mk (blk_below (g := gb111) (o := .cells #[.int .i64 t107, .int .i64 t108, .string t109] 24 (0, 0)) (by (with_reducible repeat (first | refine blk_drewN ?_ _ | refine blk_drew ?_ | refine blk_alloc ?_ _)); exact BK111.out) hb)
                        have n1_ := Aside0.mk (blk_below (g := gb119) (o := .cells #[.int .i64 0, .int .i64 0, .string (⟨#[]⟩ : ByteArray)] 24 (0, 0)) (by (with_reducible repeat (first | refine blk_drewN ?_ _ | refine blk_drew ?_ | refine blk_alloc ?_ _)); exact BK119.out) hb)
                        have n2_ := Aside0.mk (below_step (by repeat (first | (with_reducible first | exact HB.out | apply below_alloc | apply pw_below_drewN | apply below_drew1 | refine below_set ?_ GE111.out | refine below_set ?_ GE119.out) | exact HB.out)) hb)
                        clear BK111
                        clear BK119
                        clear HB
                        have BK111 := n0_
                        have BK119 := n1_
                        have HB := n2_
                        clear n0_ n1_ n2_
                        (try clear hb)
                        (try clear hb2)
                        (try clear hk)
                        (try clear hi)
                        refine hK.out _ _ ⟨(blk_cell BK111.out 0).trans rfl, (blk_cell BK111.out 1).trans rfl, (blk_cell BK111.out 2).trans rfl⟩ (fun hHeld => ?_)
                        clear hK K
                        refine norm_ (a' := ?_) ?_ ?_
                        rotate_left
                        · show Act.put _ (some 25) _ = _
                          simp only [Act.put, List.setIfInBounds_toArray, List.set_cons_zero, List.set_cons_succ, i64_w, i32_w]
                          rfl
                        refine pure_ (i := 4) (N := some 21) (v := ?_) (a' := ?_) #[true, true, true, true, true, false, false, true, false, false] rfl rfl (any_of HT_.out (by kernel_rfl)) (fun _ _ _ h => h) (Or.inl ⟨by rfl, ?_⟩) ?_ ?_
                        rotate_left
                        · intro w'
                          go_simp
                          with_reducible rfl
                        rotate_left
                        · simp only [Act.put, List.setIfInBounds_toArray, List.set_cons_zero, List.set_cons_succ, i64_w, i32_w]
                          rfl
                        refine pure_ (i := 5) (N := some 26) (v := ?_) (a' := ?_) #[true, true, true, true, true, true, false, true, false, false] rfl rfl (any_of HT_.out (by kernel_rfl)) (fun _ _ _ h => h) (Or.inl ⟨by rfl, ?_⟩) ?_ ?_
                        rotate_left
                        · intro w'
                          go_simp
                          with_reducible rfl
                        rotate_left
                        · simp only [Act.put, List.setIfInBounds_toArray, List.set_cons_zero, List.set_cons_succ, i64_w, i32_w]
                          rfl
                        refine pure_ (i := 6) (N := some 27) (v := ?_) (a' := ?_) #[true, true, true, true, true, true, true, true, false, false] rfl rfl (any_of HT_.out (by kernel_rfl)) (fun _ _ _ h => h) (Or.inl ⟨by rfl, ?_⟩) ?_ ?_
                        rotate_left
                        · intro w'
                          go_simp
                          with_reducible rfl
                        rotate_left
                        · simp only [Act.put, List.setIfInBounds_toArray, List.set_cons_zero, List.set_cons_succ, i64_w, i32_w]
                          rfl
                        exact norm_ (by simp only [putAll, Act.put, List.setIfInBounds_toArray, List.set_cons_zero, List.set_cons_succ]) (hCont (gb119) _ ⟨hHeld, (by (with_reducible repeat (first | refine blk_drewN ?_ _ | refine blk_drew ?_ | refine blk_alloc ?_ _)); exact BK111.out), (by (with_reducible repeat (first | refine blk_drewN ?_ _ | refine blk_drew ?_ | refine blk_alloc ?_ _)); exact BK119.out), GW119.out, GE119.out, NB111_119.out, NB119_111.out, (by repeat (first | (with_reducible first | exact HB.out | apply below_alloc | apply pw_below_drewN | apply below_drew1 | refine below_set ?_ GE111.out | refine below_set ?_ GE119.out) | exact HB.out))⟩)
                    · skip
                      refine box_step ?hg (N := 7) ?hd (cs := #[.int .i64 0, .int .i64 0, .string (⟨#[]⟩ : ByteArray)]) (t := 24) ?hr ?_; (case hd => rfl); (case hg => rfl); (case hr => first | (go_simp; done) | (go_simp; rfl))
                      intro gb119 hg w30 hbox hb
                      have n0_ := Aside0.mk (blk_below (g := gb111) (o := .cells #[.int .i64 t107, .int .i64 t108, .string t109] 24 (0, 0)) (by (with_reducible repeat (first | refine blk_drewN ?_ _ | refine blk_drew ?_ | refine blk_alloc ?_ _)); exact BK111.out) hb)
                      have n1_ := Aside0.mk (below_step (by repeat (first | (with_reducible first | exact HB.out | apply below_alloc | apply pw_below_drewN | apply below_drew1 | refine below_set ?_ GE111.out) | exact HB.out)) hb)
                      have n2_ := Aside0.mk (hbox)
                      have n3_ := Aside0.mk ((by rw [hg]; exact (below_size (by repeat (first | (with_reducible first | exact HB.out | apply below_alloc | apply pw_below_drewN | apply below_drew1 | refine below_set ?_ GE111.out) | exact HB.out))) : w.heap.size ≤ gb119))
                      have n4_ := Aside0.mk ((by rw [hg]; exact (below_size (by repeat (first | (with_reducible first | exact HB.out | apply below_alloc | apply pw_below_drewN | apply below_drew1 | refine below_set ?_ GE111.out) | exact HB.out))) : w.heap.size ≤ gb119))
                      have n5_ := Aside0.mk ((by rw [hg]; exact Nat.ne_of_lt (blk_lt (g := gb111) (o := .cells #[.int .i64 t107, .int .i64 t108, .string t109] 24 (0, 0)) (by (with_reducible repeat (first | refine blk_drewN ?_ _ | refine blk_drew ?_ | refine blk_alloc ?_ _)); exact BK111.out)) : gb111 ≠ gb119))
                      have n6_ := Aside0.mk ((by rw [hg]; exact Nat.ne_of_gt (blk_lt (g := gb111) (o := .cells #[.int .i64 t107, .int .i64 t108, .string t109] 24 (0, 0)) (by (with_reducible repeat (first | refine blk_drewN ?_ _ | refine blk_drew ?_ | refine blk_alloc ?_ _)); exact BK111.out)) : gb119 ≠ gb111))
                      clear BK111
                      clear HB
                      have BK111 := n0_
                      have HB := n1_
                      have BK119 := n2_
                      have GW119 := n3_
                      have GE119 := n4_
                      have NB111_119 := n5_
                      have NB119_111 := n6_
                      clear n0_ n1_ n2_ n3_ n4_ n5_ n6_
                      clear hb hbox hg
                      refine hK.out _ _ ⟨(blk_cell BK111.out 0).trans rfl, (blk_cell BK111.out 1).trans rfl, (blk_cell BK111.out 2).trans rfl⟩ (fun hHeld => ?_)
                      clear hK K
                      refine norm_ (a' := ?_) ?_ ?_
                      rotate_left
                      · show Act.put _ (some 7) _ = _
                        simp only [Act.put, List.setIfInBounds_toArray, List.set_cons_zero, List.set_cons_succ, i64_w, i32_w]
                        rfl
                      refine one_ (i := 2) (N := some 24) #[true, true, true, false, false, false, false, true, false, false] rfl rfl (one_of HT_.out (by kernel_rfl)) (by decide) (fun K hK => ?_)
                      refine goes_ Tryz.func15 (by kernel_rfl) rfl #[.int .i64 a1] (by rfl) rfl rfl (by (try simp only [List.map_toArray, List.map_cons, List.map_nil]); first | done | rfl | (simp only [List.length_drop, List.length_take]; rfl)) ?_
                      with_reducible refine (XC.umlautref11_Int.calls a1 t112 t113 t114 _ A6.out).mono ?_
                      rintro e w31 ⟨rfl, hb⟩
                      refine ⟨_, rfl, ?_⟩
                      have n0_ := Aside0.mk (blk_below (g := gb111) (o := .cells #[.int .i64 t107, .int .i64 t108, .string t109] 24 (0, 0)) (by (with_reducible repeat (first | refine blk_drewN ?_ _ | refine blk_drew ?_ | refine blk_alloc ?_ _)); exact BK111.out) hb)
                      have n1_ := Aside0.mk (blk_below (g := gb119) (o := .cells #[.int .i64 0, .int .i64 0, .string (⟨#[]⟩ : ByteArray)] 24 (0, 0)) (by (with_reducible repeat (first | refine blk_drewN ?_ _ | refine blk_drew ?_ | refine blk_alloc ?_ _)); exact BK119.out) hb)
                      have n2_ := Aside0.mk (below_step (by repeat (first | (with_reducible first | exact HB.out | apply below_alloc | apply pw_below_drewN | apply below_drew1 | refine below_set ?_ GE111.out | refine below_set ?_ GE119.out) | exact HB.out)) hb)
                      clear BK111
                      clear BK119
                      clear HB
                      have BK111 := n0_
                      have BK119 := n1_
                      have HB := n2_
                      clear n0_ n1_ n2_
                      (try clear hb)
                      (try clear hb2)
                      (try clear hk)
                      (try clear hi)
                      refine hK.out _ _ ⟨(blk_cell BK111.out 0).trans rfl, (blk_cell BK111.out 1).trans rfl, (blk_cell BK111.out 2).trans rfl⟩ (fun hHeld => ?_)
                      clear hK K
                      refine norm_ (a' := ?_) ?_ ?_
                      rotate_left
                      · show Act.put _ (some 24) _ = _
                        simp only [Act.put, List.setIfInBounds_toArray, List.set_cons_zero, List.set_cons_succ, i64_w, i32_w]
                        rfl
                      refine one_ (i := 3) (N := some 25) #[true, true, true, true, false, false, false, true, false, false] rfl rfl (one_of HT_.out (by kernel_rfl)) (by decide) (fun K hK => ?_)
                      refine goes_ Tryz.func14 (by kernel_rfl) rfl #[.int .i64 16, .agg #[.int .i64 t107, .int .i64 t108, .string t109], .agg #[.int .i64 t112, .int .i64 t113, .string t114], .int .i64 0] (by rfl) rfl rfl (by (try simp only [List.map_toArray, List.map_cons, List.map_nil]); first | done | rfl | (simp only [List.length_drop, List.length_take]; rfl)) ?_
                      with_reducible refine (cast_Binary.calls k 16 t107 t108 t109 t112 t113 t114 0 t115 t116 t117 t118 _ A7.out).mono ?_
                      rintro e w32 ⟨rfl, hb⟩
                      refine ⟨_, rfl, ?_⟩
                      have n0_ := Aside0.mk (blk_below (g := gb111) (o := .cells #[.int .i64 t107, .int .i64 t108, .string t109] 24 (0, 0)) (by (with_reducible repeat (first | refine blk_drewN ?_ _ | refine blk_drew ?_ | refine blk_alloc ?_ _)); exact BK111.out) hb)
                      have n1_ := Aside0.mk (blk_below (g := gb119) (o := .cells #[.int .i64 0, .int .i64 0, .string (⟨#[]⟩ : ByteArray)] 24 (0, 0)) (by (with_reducible repeat (first | refine blk_drewN ?_ _ | refine blk_drew ?_ | refine blk_alloc ?_ _)); exact BK119.out) hb)
                      have n2_ := Aside0.mk (below_step (by repeat (first | (with_reducible first | exact HB.out | apply below_alloc | apply pw_below_drewN | apply below_drew1 | refine below_set ?_ GE111.out | refine below_set ?_ GE119.out) | exact HB.out)) hb)
                      clear BK111
                      clear BK119
                      clear HB
                      have BK111 := n0_
                      have BK119 := n1_
                      have HB := n2_
                      clear n0_ n1_ n2_
                      (try clear hb)
                      (try clear hb2)
                      (try clear hk)
                      (try clear hi)
                      refine hK.out _ _ ⟨(blk_cell BK111.out 0).trans rfl, (blk_cell BK111.out 1).trans rfl, (blk_cell BK111.out 2).trans rfl⟩ (fun hHeld => ?_)
                      clear hK K
                      refine norm_ (a' := ?_) ?_ ?_
                      rotate_left
                      · show Act.put _ (some 25) _ = _
                        simp only [Act.put, List.setIfInBounds_toArray, List.set_cons_zero, List.set_cons_succ, i64_w, i32_w]
                        rfl
                      refine pure_ (i := 4) (N := some 21) (v := ?_) (a' := ?_) #[true, true, true, true, true, false, false, true, false, false] rfl rfl (any_of HT_.out (by kernel_rfl)) (fun _ _ _ h => h) (Or.inl ⟨by rfl, ?_⟩) ?_ ?_
                      rotate_left
                      · intro w'
                        go_simp
                        with_reducible rfl
                      rotate_left
                      · simp only [Act.put, List.setIfInBounds_toArray, List.set_cons_zero, List.set_cons_succ, i64_w, i32_w]
                        rfl
                      refine pure_ (i := 5) (N := some 26) (v := ?_) (a' := ?_) #[true, true, true, true, true, true, false, true, false, false] rfl rfl (any_of HT_.out (by kernel_rfl)) (fun _ _ _ h => h) (Or.inl ⟨by rfl, ?_⟩) ?_ ?_
                      rotate_left
                      · intro w'
                        go_simp
                        with_reducible rfl
                      rotate_left
                      · simp only [Act.put, List.setIfInBounds_toArray, List.set_cons_zero, List.set_cons_succ, i64_w, i32_w]
                        rfl
                      refine pure_ (i := 6) (N := some 27) (v := ?_) (a' := ?_) #[true, true, true, true, true, true, true, true, false, false] rfl rfl (any_of HT_.out (by kernel_rfl)) (fun _ _ _ h => h) (Or.inl ⟨by rfl, ?_⟩) ?_ ?_
                      rotate_left
                      · intro w'
                        go_simp
                        with_reducible rfl
                      rotate_left
                      · simp only [Act.put, List.setIfInBounds_toArray, List.set_cons_zero, List.set_cons_succ, i64_w, i32_w]
                        rfl
                      exact norm_ (by simp only [putAll, Act.put, List.setIfInBounds_toArray, List.set_cons_zero, List.set_cons_succ]) (hCont (gb119) _ ⟨hHeld, (by (with_reducible repeat (first | refine blk_drewN ?_ _ | refine blk_drew ?_ | refine blk_alloc ?_ _)); exact BK111.out), (by (with_reducible repeat (first | refine blk_drewN ?_ _ | refine blk_drew ?_ | refine blk_alloc ?_ _)); exact BK119.out), GW119.out, GE119.out, NB111_119.out, NB119_111.out, (by repeat (first | (with_reducible first | exact HB.out | apply below_alloc | apply pw_below_drewN | apply below_drew1 | refine below_set ?_ GE111.out | refine below_set ?_ GE119.out) | exact HB.out))⟩)
                  rintro gb119 w33 ⟨hS_, h0_, h1_, h2_, h3_, h4_, h5_, h6_⟩
                  have n0_ : Aside0 (w33.heap[gb111]? = some (.cells #[.int .i64 t107, .int .i64 t108, .string t109] 24 (0, 0))) := ⟨h0_⟩
                  have n1_ : Aside0 (w33.heap[gb119]? = some (.cells #[.int .i64 0, .int .i64 0, .string (⟨#[]⟩ : ByteArray)] 24 (0, 0))) := ⟨h1_⟩
                  have n2_ : Aside0 (w.heap.size ≤ gb119) := ⟨h2_⟩
                  have n3_ : Aside0 (w.heap.size ≤ gb119) := ⟨h3_⟩
                  have n4_ : Aside0 (gb111 ≠ gb119) := ⟨h4_⟩
                  have n5_ : Aside0 (gb119 ≠ gb111) := ⟨h5_⟩
                  have n6_ : Aside0 (Below w.heap.size w w33) := ⟨h6_⟩
                  clear BK111
                  clear HB
                  clear h0_ h1_ h2_ h3_ h4_ h5_ h6_
                  have BK111 := n0_
                  have BK119 := n1_
                  have GW119 := n2_
                  have GE119 := n3_
                  have NB111_119 := n4_
                  have NB119_111 := n5_
                  have HB := n6_
                  clear n0_ n1_ n2_ n3_ n4_ n5_ n6_
                  have hHeld : w33.cell? ⟨gb111, 0, none⟩ = some (.int .i64 t107) ∧ w33.cell? ⟨gb111, 1, none⟩ = some (.int .i64 t108) ∧ w33.cell? ⟨gb111, 2, none⟩ = some (.string t109) := hS_
                  refine norm_ (a' := ?_) ?_ ?_
                  rotate_left
                  · simp only [putAll, Act.put, List.setIfInBounds_toArray, List.set_cons_zero, List.set_cons_succ]
                    rfl
                  refine one_ (i := 8) (N := none) #[true, true, true, true, true, true, true, true, true, false] rfl rfl (one_of HT_.out (by kernel_rfl)) (by decide) (fun K hK => ?_)
                  have hs34 : w33.cell? ⟨gb119, 0, none⟩ = some (.int .i64 0) := (blk_cell BK119.out 0).trans rfl
                  have hfs34 := blk_frozen BK119.out 0
                  have hns34_0 := NB111_119.out
                  have hms34_0 := NB119_111.out
                  have hs35 : w33.cell? ⟨gb119, 1, none⟩ = some (.int .i64 0) := (blk_cell BK119.out 1).trans rfl
                  have hfs35 := blk_frozen BK119.out 1
                  have hns35_0 := NB111_119.out
                  have hms35_0 := NB119_111.out
                  have hs36 : w33.cell? ⟨gb119, 2, none⟩ = some (.string (⟨#[]⟩ : ByteArray)) := (blk_cell BK119.out 2).trans rfl
                  have hfs36 := blk_frozen BK119.out 2
                  have hns36_0 := NB111_119.out
                  have hms36_0 := NB119_111.out
                  refine skip_ (w1 := ?_) (by rfl) rfl ?_ ?_
                  rotate_left
                  · go_simp
                    rfl
                  refine hK.out _ _ ⟨((cell_far (p := ⟨gb119, _, none⟩) NB111_119.out _).trans (((cell_far (p := ⟨gb119, _, none⟩) NB111_119.out _).trans (((cell_far (p := ⟨gb119, _, none⟩) NB111_119.out _).trans (hHeld.1)))))), ((cell_far (p := ⟨gb119, _, none⟩) NB111_119.out _).trans (((cell_far (p := ⟨gb119, _, none⟩) NB111_119.out _).trans (((cell_far (p := ⟨gb119, _, none⟩) NB111_119.out _).trans (hHeld.2.1)))))), ((cell_far (p := ⟨gb119, _, none⟩) NB111_119.out _).trans (((cell_far (p := ⟨gb119, _, none⟩) NB111_119.out _).trans (((cell_far (p := ⟨gb119, _, none⟩) NB111_119.out _).trans (hHeld.2.2))))))⟩ (fun hHeld => ?_)
                  clear hK K
                  refine pure_ (i := 9) (N := some 8) (v := ?_) (a' := ?_) #[true, true, true, true, true, true, true, true, true, true] rfl rfl (any_of HT_.out (by kernel_rfl)) (fun _ _ _ h => h) (Or.inl ⟨by rfl, ?_⟩) ?_ ?_
                  rotate_left
                  · intro w'
                    go_simp
                    with_reducible rfl
                  rotate_left
                  · simp only [Act.put, List.setIfInBounds_toArray, List.set_cons_zero, List.set_cons_succ, i64_w, i32_w]
                    rfl
                  refine done_ (done_of HT_.out (by kernel_rfl)) ?_
                  try go_wp2_with (first | ((with_reducible refine gate_callee (f := 15) rfl ?_); refine goesL_ (some 30) rfl rfl Tryz.func15 (by kernel_rfl) rfl #[.int .i64 a0] rfl (by (try simp only [List.map_toArray, List.map_cons, List.map_nil]); first | done | rfl | (simp only [List.length_drop, List.length_take]; rfl)) ?_; (with_reducible refine (XC.umlautref11_Int.calls a0 t120 t121 t122 _ A8.out).mono ?_); rintro e w37 ⟨rfl, hb⟩; refine ⟨_, rfl, ?_⟩; have n0_ := Aside0.mk (blk_below (g := gb111) (o := .cells #[.int .i64 t107, .int .i64 t108, .string t109] 24 (0, 0)) (by (with_reducible repeat (first | refine blk_drewN ?_ _ | refine blk_drew ?_ | refine blk_alloc ?_ _)); refine blk_far ?_ NB111_119.out _; (with_reducible repeat (first | refine blk_drewN ?_ _ | refine blk_drew ?_ | refine blk_alloc ?_ _)); refine blk_far ?_ NB111_119.out _; (with_reducible repeat (first | refine blk_drewN ?_ _ | refine blk_drew ?_ | refine blk_alloc ?_ _)); refine blk_far ?_ NB111_119.out _; (with_reducible repeat (first | refine blk_drewN ?_ _ | refine blk_drew ?_ | refine blk_alloc ?_ _)); exact BK111.out) hb); have n1_ := Aside0.mk (blk_below (g := gb119) (o := .cells #[.int .i64 t115, .int .i64 t116, .string t117] 24 (0, 0)) (by (with_reducible repeat (first | refine blk_drewN ?_ _ | refine blk_drew ?_ | refine blk_alloc ?_ _)); refine blk_put (cs := #[.int .i64 t115, .int .i64 t116, .string (⟨#[]⟩ : ByteArray)]) ?_ 2 _ rfl; (with_reducible repeat (first | refine blk_drewN ?_ _ | refine blk_drew ?_ | refine blk_alloc ?_ _)); refine blk_put (cs := #[.int .i64 t115, .int .i64 0, .string (⟨#[]⟩ : ByteArray)]) ?_ 1 _ rfl; (with_reducible repeat (first | refine blk_drewN ?_ _ | refine blk_drew ?_ | refine blk_alloc ?_ _)); refine blk_put (cs := #[.int .i64 0, .int .i64 0, .string (⟨#[]⟩ : ByteArray)]) ?_ 0 _ rfl; (with_reducible repeat (first | refine blk_drewN ?_ _ | refine blk_drew ?_ | refine blk_alloc ?_ _)); exact BK119.out) hb); have n2_ := Aside0.mk (below_step (by repeat (first | (with_reducible first | exact HB.out | apply below_alloc | apply pw_below_drewN | apply below_drew1 | refine below_set ?_ GE111.out | refine below_set ?_ GE119.out) | exact HB.out)) hb); clear BK111; clear BK119; clear HB; have BK111 := n0_; have BK119 := n1_; have HB := n2_; clear n0_ n1_ n2_; (try clear hb); (try clear hb2); (try clear hk); (try clear hi)) | ((with_reducible refine gate_callee (f := 15) rfl ?_); refine goesL_ (some 32) rfl rfl Tryz.func15 (by kernel_rfl) rfl #[.int .i64 a1] rfl (by (try simp only [List.map_toArray, List.map_cons, List.map_nil]); first | done | rfl | (simp only [List.length_drop, List.length_take]; rfl)) ?_; (with_reducible refine (XC.umlautref11_Int.calls a1 t123 t124 t125 _ A9.out).mono ?_); rintro e w38 ⟨rfl, hb⟩; refine ⟨_, rfl, ?_⟩; have n0_ := Aside0.mk (blk_below (g := gb111) (o := .cells #[.int .i64 t107, .int .i64 t108, .string t109] 24 (0, 0)) (by (with_reducible repeat (first | refine blk_drewN ?_ _ | refine blk_drew ?_ | refine blk_alloc ?_ _)); exact BK111.out) hb); have n1_ := Aside0.mk (blk_below (g := gb119) (o := .cells #[.int .i64 t115, .int .i64 t116, .string t117] 24 (0, 0)) (by (with_reducible repeat (first | refine blk_drewN ?_ _ | refine blk_drew ?_ | refine blk_alloc ?_ _)); exact BK119.out) hb); have n2_ := Aside0.mk (below_step (by repeat (first | (with_reducible first | exact HB.out | apply below_alloc | apply pw_below_drewN | apply below_drew1 | refine below_set ?_ GE111.out | refine below_set ?_ GE119.out) | exact HB.out)) hb); clear BK111; clear BK119; clear HB; have BK111 := n0_; have BK119 := n1_; have HB := n2_; clear n0_ n1_ n2_; (try clear hb); (try clear hb2); (try clear hk); (try clear hi)) | ((with_reducible refine gate_callee (f := 14) rfl ?_); refine goesL_ (some 33) rfl rfl Tryz.func14 (by kernel_rfl) rfl #[.int .i64 14, .agg #[.int .i64 t120, .int .i64 t121, .string t122], .agg #[.int .i64 t123, .int .i64 t124, .string t125], .int .i64 0] rfl (by (try simp only [List.map_toArray, List.map_cons, List.map_nil]); first | done | rfl | (simp only [List.length_drop, List.length_take]; rfl)) ?_; (with_reducible refine (cast_Binary.calls k 14 t120 t121 t122 t123 t124 t125 0 t126 t127 t128 t129 _ A10.out).mono ?_); rintro e w39 ⟨rfl, hb⟩; refine ⟨_, rfl, ?_⟩; have n0_ := Aside0.mk (blk_below (g := gb111) (o := .cells #[.int .i64 t107, .int .i64 t108, .string t109] 24 (0, 0)) (by (with_reducible repeat (first | refine blk_drewN ?_ _ | refine blk_drew ?_ | refine blk_alloc ?_ _)); exact BK111.out) hb); have n1_ := Aside0.mk (blk_below (g := gb119) (o := .cells #[.int .i64 t115, .int .i64 t116, .string t117] 24 (0, 0)) (by (with_reducible repeat (first | refine blk_drewN ?_ _ | refine blk_drew ?_ | refine blk_alloc ?_ _)); exact BK119.out) hb); have n2_ := Aside0.mk (below_step (by repeat (first | (with_reducible first | exact HB.out | apply below_alloc | apply pw_below_drewN | apply below_drew1 | refine below_set ?_ GE111.out | refine below_set ?_ GE119.out) | exact HB.out)) hb); clear BK111; clear BK119; clear HB; have BK111 := n0_; have BK119 := n1_; have HB := n2_; clear n0_ n1_ n2_; (try clear hb); (try clear hb2); (try clear hk); (try clear hi)) | ((with_reducible refine gate_dst (N := 9) rfl ?_); refine box_event ?hg (N := 9) ?hd (cs := #[.int .i64 0, .int .i64 0, .string (⟨#[]⟩ : ByteArray)]) (t := 24) ?hr ?_; (case hd => rfl); (case hg => rfl); (case hr => first | (go_simp; done) | (go_simp; rfl)); intro gb130 hg w40 hbox hb; have n0_ := Aside0.mk (blk_below (g := gb111) (o := .cells #[.int .i64 t107, .int .i64 t108, .string t109] 24 (0, 0)) (by (with_reducible repeat (first | refine blk_drewN ?_ _ | refine blk_drew ?_ | refine blk_alloc ?_ _)); exact BK111.out) hb); have n1_ := Aside0.mk (blk_below (g := gb119) (o := .cells #[.int .i64 t115, .int .i64 t116, .string t117] 24 (0, 0)) (by (with_reducible repeat (first | refine blk_drewN ?_ _ | refine blk_drew ?_ | refine blk_alloc ?_ _)); exact BK119.out) hb); have n2_ := Aside0.mk (below_step (by repeat (first | (with_reducible first | exact HB.out | apply below_alloc | apply pw_below_drewN | apply below_drew1 | refine below_set ?_ GE111.out | refine below_set ?_ GE119.out) | exact HB.out)) hb); have n3_ := Aside0.mk (hbox); have n4_ := Aside0.mk ((by rw [hg]; exact (below_size (by repeat (first | (with_reducible first | exact HB.out | apply below_alloc | apply pw_below_drewN | apply below_drew1 | refine below_set ?_ GE111.out | refine below_set ?_ GE119.out) | exact HB.out))) : w.heap.size ≤ gb130)); have n5_ := Aside0.mk ((by rw [hg]; exact (below_size (by repeat (first | (with_reducible first | exact HB.out | apply below_alloc | apply pw_below_drewN | apply below_drew1 | refine below_set ?_ GE111.out | refine below_set ?_ GE119.out) | exact HB.out))) : w.heap.size ≤ gb130)); have n6_ := Aside0.mk ((by rw [hg]; exact Nat.ne_of_lt (blk_lt (g := gb111) (o := .cells #[.int .i64 t107, .int .i64 t108, .string t109] 24 (0, 0)) (by (with_reducible repeat (first | refine blk_drewN ?_ _ | refine blk_drew ?_ | refine blk_alloc ?_ _)); exact BK111.out)) : gb111 ≠ gb130)); have n7_ := Aside0.mk ((by rw [hg]; exact Nat.ne_of_gt (blk_lt (g := gb111) (o := .cells #[.int .i64 t107, .int .i64 t108, .string t109] 24 (0, 0)) (by (with_reducible repeat (first | refine blk_drewN ?_ _ | refine blk_drew ?_ | refine blk_alloc ?_ _)); exact BK111.out)) : gb130 ≠ gb111)); have n8_ := Aside0.mk ((by rw [hg]; exact Nat.ne_of_lt (blk_lt (g := gb119) (o := .cells #[.int .i64 t115, .int .i64 t116, .string t117] 24 (0, 0)) (by (with_reducible repeat (first | refine blk_drewN ?_ _ | refine blk_drew ?_ | refine blk_alloc ?_ _)); exact BK119.out)) : gb119 ≠ gb130)); have n9_ := Aside0.mk ((by rw [hg]; exact Nat.ne_of_gt (blk_lt (g := gb119) (o := .cells #[.int .i64 t115, .int .i64 t116, .string t117] 24 (0, 0)) (by (with_reducible repeat (first | refine blk_drewN ?_ _ | refine blk_drew ?_ | refine blk_alloc ?_ _)); exact BK119.out)) : gb130 ≠ gb119)); clear BK111; clear BK119; clear HB; have BK111 := n0_; have BK119 := n1_; have HB := n2_; have BK130 := n3_; have GW130 := n4_; have GE130 := n5_; have NB111_130 := n6_; have NB130_111 := n7_; have NB119_130 := n8_; have NB130_119 := n9_; clear n0_ n1_ n2_ n3_ n4_ n5_ n6_ n7_ n8_ n9_; clear hb hbox hg; have hnb41 := NB130_111.out; have hnc41 := NB111_130.out; have hnb42 := NB130_119.out; have hnc42 := NB119_130.out; have hcz43_0 : w40.cell? ⟨gb130, 0, none⟩ = some (.int .i64 0) := (blk_cell BK130.out 0).trans rfl; have hcz43_1 : w40.cell? ⟨gb130, 1, none⟩ = some (.int .i64 0) := (blk_cell BK130.out 1).trans rfl; have hcz43_2 : w40.cell? ⟨gb130, 2, none⟩ = some (.string (⟨#[]⟩ : ByteArray)) := (blk_cell BK130.out 2).trans rfl; have hfz43_0 := blk_frozen BK130.out 0; have hfz43_1 := blk_frozen BK130.out 1; have hfz43_2 := blk_frozen BK130.out 2) | ((with_reducible refine gate_callee (f := 15) rfl ?_); refine goesL_ (some 38) rfl rfl Tryz.func15 (by kernel_rfl) rfl #[.int .i64 a0] rfl (by (try simp only [List.map_toArray, List.map_cons, List.map_nil]); first | done | rfl | (simp only [List.length_drop, List.length_take]; rfl)) ?_; (with_reducible refine (XC.umlautref11_Int.calls a0 t131 t132 t133 _ A11.out).mono ?_); rintro e w44 ⟨rfl, hb⟩; refine ⟨_, rfl, ?_⟩; have n0_ := Aside0.mk (blk_below (g := gb111) (o := .cells #[.int .i64 t107, .int .i64 t108, .string t109] 24 (0, 0)) (by (with_reducible repeat (first | refine blk_drewN ?_ _ | refine blk_drew ?_ | refine blk_alloc ?_ _)); refine blk_far ?_ NB111_130.out _; (with_reducible repeat (first | refine blk_drewN ?_ _ | refine blk_drew ?_ | refine blk_alloc ?_ _)); refine blk_far ?_ NB111_130.out _; (with_reducible repeat (first | refine blk_drewN ?_ _ | refine blk_drew ?_ | refine blk_alloc ?_ _)); refine blk_far ?_ NB111_130.out _; (with_reducible repeat (first | refine blk_drewN ?_ _ | refine blk_drew ?_ | refine blk_alloc ?_ _)); exact BK111.out) hb); have n1_ := Aside0.mk (blk_below (g := gb119) (o := .cells #[.int .i64 t115, .int .i64 t116, .string t117] 24 (0, 0)) (by (with_reducible repeat (first | refine blk_drewN ?_ _ | refine blk_drew ?_ | refine blk_alloc ?_ _)); refine blk_far ?_ NB119_130.out _; (with_reducible repeat (first | refine blk_drewN ?_ _ | refine blk_drew ?_ | refine blk_alloc ?_ _)); refine blk_far ?_ NB119_130.out _; (with_reducible repeat (first | refine blk_drewN ?_ _ | refine blk_drew ?_ | refine blk_alloc ?_ _)); refine blk_far ?_ NB119_130.out _; (with_reducible repeat (first | refine blk_drewN ?_ _ | refine blk_drew ?_ | refine blk_alloc ?_ _)); exact BK119.out) hb); have n2_ := Aside0.mk (blk_below (g := gb130) (o := .cells #[.int .i64 t126, .int .i64 t127, .string t128] 24 (0, 0)) (by (with_reducible repeat (first | refine blk_drewN ?_ _ | refine blk_drew ?_ | refine blk_alloc ?_ _)); refine blk_put (cs := #[.int .i64 t126, .int .i64 t127, .string (⟨#[]⟩ : ByteArray)]) ?_ 2 _ rfl; (with_reducible repeat (first | refine blk_drewN ?_ _ | refine blk_drew ?_ | refine blk_alloc ?_ _)); refine blk_put (cs := #[.int .i64 t126, .int .i64 0, .string (⟨#[]⟩ : ByteArray)]) ?_ 1 _ rfl; (with_reducible repeat (first | refine blk_drewN ?_ _ | refine blk_drew ?_ | refine blk_alloc ?_ _)); refine blk_put (cs := #[.int .i64 0, .int .i64 0, .string (⟨#[]⟩ : ByteArray)]) ?_ 0 _ rfl; (with_reducible repeat (first | refine blk_drewN ?_ _ | refine blk_drew ?_ | refine blk_alloc ?_ _)); exact BK130.out) hb); have n3_ := Aside0.mk (below_step (by repeat (first | (with_reducible first | exact HB.out | apply below_alloc | apply pw_below_drewN | apply below_drew1 | refine below_set ?_ GE111.out | refine below_set ?_ GE119.out | refine below_set ?_ GE130.out) | exact HB.out)) hb); clear BK111; clear BK119; clear BK130; clear HB; have BK111 := n0_; have BK119 := n1_; have BK130 := n2_; have HB := n3_; clear n0_ n1_ n2_ n3_; (try clear hb); (try clear hb2); (try clear hk); (try clear hi)) | ((with_reducible refine gate_callee (f := 15) rfl ?_); refine goesL_ (some 40) rfl rfl Tryz.func15 (by kernel_rfl) rfl #[.int .i64 a1] rfl (by (try simp only [List.map_toArray, List.map_cons, List.map_nil]); first | done | rfl | (simp only [List.length_drop, List.length_take]; rfl)) ?_; (with_reducible refine (XC.umlautref11_Int.calls a1 t134 t135 t136 _ A12.out).mono ?_); rintro e w45 ⟨rfl, hb⟩; refine ⟨_, rfl, ?_⟩; have n0_ := Aside0.mk (blk_below (g := gb111) (o := .cells #[.int .i64 t107, .int .i64 t108, .string t109] 24 (0, 0)) (by (with_reducible repeat (first | refine blk_drewN ?_ _ | refine blk_drew ?_ | refine blk_alloc ?_ _)); exact BK111.out) hb); have n1_ := Aside0.mk (blk_below (g := gb119) (o := .cells #[.int .i64 t115, .int .i64 t116, .string t117] 24 (0, 0)) (by (with_reducible repeat (first | refine blk_drewN ?_ _ | refine blk_drew ?_ | refine blk_alloc ?_ _)); exact BK119.out) hb); have n2_ := Aside0.mk (blk_below (g := gb130) (o := .cells #[.int .i64 t126, .int .i64 t127, .string t128] 24 (0, 0)) (by (with_reducible repeat (first | refine blk_drewN ?_ _ | refine blk_drew ?_ | refine blk_alloc ?_ _)); exact BK130.out) hb); have n3_ := Aside0.mk (below_step (by repeat (first | (with_reducible first | exact HB.out | apply below_alloc | apply pw_below_drewN | apply below_drew1 | refine below_set ?_ GE111.out | refine below_set ?_ GE119.out | refine below_set ?_ GE130.out) | exact HB.out)) hb); clear BK111; clear BK119; clear BK130; clear HB; have BK111 := n0_; have BK119 := n1_; have BK130 := n2_; have HB := n3_; clear n0_ n1_ n2_ n3_; (try clear hb); (try clear hb2); (try clear hk); (try clear hi)) | ((with_reducible refine gate_callee (f := 14) rfl ?_); refine goesL_ (some 41) rfl rfl Tryz.func14 (by kernel_rfl) rfl #[.int .i64 15, .agg #[.int .i64 t131, .int .i64 t132, .string t133], .agg #[.int .i64 t134, .int .i64 t135, .string t136], .int .i64 0] rfl (by (try simp only [List.map_toArray, List.map_cons, List.map_nil]); first | done | rfl | (simp only [List.length_drop, List.length_take]; rfl)) ?_; (with_reducible refine (cast_Binary.calls k 15 t131 t132 t133 t134 t135 t136 0 t137 t138 t139 t140 _ A13.out).mono ?_); rintro e w46 ⟨rfl, hb⟩; refine ⟨_, rfl, ?_⟩; have n0_ := Aside0.mk (blk_below (g := gb111) (o := .cells #[.int .i64 t107, .int .i64 t108, .string t109] 24 (0, 0)) (by (with_reducible repeat (first | refine blk_drewN ?_ _ | refine blk_drew ?_ | refine blk_alloc ?_ _)); exact BK111.out) hb); have n1_ := Aside0.mk (blk_below (g := gb119) (o := .cells #[.int .i64 t115, .int .i64 t116, .string t117] 24 (0, 0)) (by (with_reducible repeat (first | refine blk_drewN ?_ _ | refine blk_drew ?_ | refine blk_alloc ?_ _)); exact BK119.out) hb); have n2_ := Aside0.mk (blk_below (g := gb130) (o := .cells #[.int .i64 t126, .int .i64 t127, .string t128] 24 (0, 0)) (by (with_reducible repeat (first | refine blk_drewN ?_ _ | refine blk_drew ?_ | refine blk_alloc ?_ _)); exact BK130.out) hb); have n3_ := Aside0.mk (below_step (by repeat (first | (with_reducible first | exact HB.out | apply below_alloc | apply pw_below_drewN | apply below_drew1 | refine below_set ?_ GE111.out | refine below_set ?_ GE119.out | refine below_set ?_ GE130.out) | exact HB.out)) hb); clear BK111; clear BK119; clear BK130; clear HB; have BK111 := n0_; have BK119 := n1_; have BK130 := n2_; have HB := n3_; clear n0_ n1_ n2_ n3_; (try clear hb); (try clear hb2); (try clear hk); (try clear hi)) | ((with_reducible refine gate_dst (N := 11) rfl ?_); refine box_event ?hg (N := 11) ?hd (cs := #[.int .i64 0, .int .i64 0, .string (⟨#[]⟩ : ByteArray)]) (t := 24) ?hr ?_; (case hd => rfl); (case hg => rfl); (case hr => first | (go_simp; done) | (go_simp; rfl)); intro gb141 hg w47 hbox hb; have n0_ := Aside0.mk (blk_below (g := gb111) (o := .cells #[.int .i64 t107, .int .i64 t108, .string t109] 24 (0, 0)) (by (with_reducible repeat (first | refine blk_drewN ?_ _ | refine blk_drew ?_ | refine blk_alloc ?_ _)); exact BK111.out) hb); have n1_ := Aside0.mk (blk_below (g := gb119) (o := .cells #[.int .i64 t115, .int .i64 t116, .string t117] 24 (0, 0)) (by (with_reducible repeat (first | refine blk_drewN ?_ _ | refine blk_drew ?_ | refine blk_alloc ?_ _)); exact BK119.out) hb); have n2_ := Aside0.mk (blk_below (g := gb130) (o := .cells #[.int .i64 t126, .int .i64 t127, .string t128] 24 (0, 0)) (by (with_reducible repeat (first | refine blk_drewN ?_ _ | refine blk_drew ?_ | refine blk_alloc ?_ _)); exact BK130.out) hb); have n3_ := Aside0.mk (below_step (by repeat (first | (with_reducible first | exact HB.out | apply below_alloc | apply pw_below_drewN | apply below_drew1 | refine below_set ?_ GE111.out | refine below_set ?_ GE119.out | refine below_set ?_ GE130.out) | exact HB.out)) hb); have n4_ := Aside0.mk (hbox); have n5_ := Aside0.mk ((by rw [hg]; exact (below_size (by repeat (first | (with_reducible first | exact HB.out | apply below_alloc | apply pw_below_drewN | apply below_drew1 | refine below_set ?_ GE111.out | refine below_set ?_ GE119.out | refine below_set ?_ GE130.out) | exact HB.out))) : w.heap.size ≤ gb141)); have n6_ := Aside0.mk ((by rw [hg]; exact (below_size (by repeat (first | (with_reducible first | exact HB.out | apply below_alloc | apply pw_below_drewN | apply below_drew1 | refine below_set ?_ GE111.out | refine below_set ?_ GE119.out | refine below_set ?_ GE130.out) | exact HB.out))) : w.heap.size ≤ gb141)); have n7_ := Aside0.mk ((by rw [hg]; exact Nat.ne_of_lt (blk_lt (g := gb111) (o := .cells #[.int .i64 t107, .int .i64 t108, .string t109] 24 (0, 0)) (by (with_reducible repeat (first | refine blk_drewN ?_ _ | refine blk_drew ?_ | refine blk_alloc ?_ _)); exact BK111.out)) : gb111 ≠ gb141)); have n8_ := Aside0.mk ((by rw [hg]; exact Nat.ne_of_gt (blk_lt (g := gb111) (o := .cells #[.int .i64 t107, .int .i64 t108, .string t109] 24 (0, 0)) (by (with_reducible repeat (first | refine blk_drewN ?_ _ | refine blk_drew ?_ | refine blk_alloc ?_ _)); exact BK111.out)) : gb141 ≠ gb111)); have n9_ := Aside0.mk ((by rw [hg]; exact Nat.ne_of_lt (blk_lt (g := gb119) (o := .cells #[.int .i64 t115, .int .i64 t116, .string t117] 24 (0, 0)) (by (with_reducible repeat (first | refine blk_drewN ?_ _ | refine blk_drew ?_ | refine blk_alloc ?_ _)); exact BK119.out)) : gb119 ≠ gb141)); have n10_ := Aside0.mk ((by rw [hg]; exact Nat.ne_of_gt (blk_lt (g := gb119) (o := .cells #[.int .i64 t115, .int .i64 t116, .string t117] 24 (0, 0)) (by (with_reducible repeat (first | refine blk_drewN ?_ _ | refine blk_drew ?_ | refine blk_alloc ?_ _)); exact BK119.out)) : gb141 ≠ gb119)); have n11_ := Aside0.mk ((by rw [hg]; exact Nat.ne_of_lt (blk_lt (g := gb130) (o := .cells #[.int .i64 t126, .int .i64 t127, .string t128] 24 (0, 0)) (by (with_reducible repeat (first | refine blk_drewN ?_ _ | refine blk_drew ?_ | refine blk_alloc ?_ _)); exact BK130.out)) : gb130 ≠ gb141)); have n12_ := Aside0.mk ((by rw [hg]; exact Nat.ne_of_gt (blk_lt (g := gb130) (o := .cells #[.int .i64 t126, .int .i64 t127, .string t128] 24 (0, 0)) (by (with_reducible repeat (first | refine blk_drewN ?_ _ | refine blk_drew ?_ | refine blk_alloc ?_ _)); exact BK130.out)) : gb141 ≠ gb130)); clear BK111; clear BK119; clear BK130; clear HB; have BK111 := n0_; have BK119 := n1_; have BK130 := n2_; have HB := n3_; have BK141 := n4_; have GW141 := n5_; have GE141 := n6_; have NB111_141 := n7_; have NB141_111 := n8_; have NB119_141 := n9_; have NB141_119 := n10_; have NB130_141 := n11_; have NB141_130 := n12_; clear n0_ n1_ n2_ n3_ n4_ n5_ n6_ n7_ n8_ n9_ n10_ n11_ n12_; clear hb hbox hg; have hnb48 := NB141_111.out; have hnc48 := NB111_141.out; have hnb49 := NB141_119.out; have hnc49 := NB119_141.out; have hnb50 := NB141_130.out; have hnc50 := NB130_141.out; have hcz51_0 : w47.cell? ⟨gb141, 0, none⟩ = some (.int .i64 0) := (blk_cell BK141.out 0).trans rfl; have hcz51_1 : w47.cell? ⟨gb141, 1, none⟩ = some (.int .i64 0) := (blk_cell BK141.out 1).trans rfl; have hcz51_2 : w47.cell? ⟨gb141, 2, none⟩ = some (.string (⟨#[]⟩ : ByteArray)) := (blk_cell BK141.out 2).trans rfl; have hfz51_0 := blk_frozen BK141.out 0; have hfz51_1 := blk_frozen BK141.out 1; have hfz51_2 := blk_frozen BK141.out 2; have hnb52 := NB119_111.out; have hnc52 := NB111_119.out; have hcz53_0 : w47.cell? ⟨gb119, 0, none⟩ = some (.int .i64 t115) := (blk_cell BK119.out 0).trans rfl; have hcz53_1 : w47.cell? ⟨gb119, 1, none⟩ = some (.int .i64 t116) := (blk_cell BK119.out 1).trans rfl; have hcz53_2 : w47.cell? ⟨gb119, 2, none⟩ = some (.string t117) := (blk_cell BK119.out 2).trans rfl; have hfz53_0 := blk_frozen BK119.out 0; have hfz53_1 := blk_frozen BK119.out 1; have hfz53_2 := blk_frozen BK119.out 2; have hcz54_0 : w47.cell? ⟨gb111, 0, none⟩ = some (.int .i64 t107) := (blk_cell BK111.out 0).trans rfl; have hcz54_1 : w47.cell? ⟨gb111, 1, none⟩ = some (.int .i64 t108) := (blk_cell BK111.out 1).trans rfl; have hcz54_2 : w47.cell? ⟨gb111, 2, none⟩ = some (.string t109) := (blk_cell BK111.out 2).trans rfl; have hfz54_0 := blk_frozen BK111.out 0; have hfz54_1 := blk_frozen BK111.out 1; have hfz54_2 := blk_frozen BK111.out 2; have hcz55_0 : w47.cell? ⟨gb130, 0, none⟩ = some (.int .i64 t126) := (blk_cell BK130.out 0).trans rfl; have hcz55_1 : w47.cell? ⟨gb130, 1, none⟩ = some (.int .i64 t127) := (blk_cell BK130.out 1).trans rfl; have hcz55_2 : w47.cell? ⟨gb130, 2, none⟩ = some (.string t128) := (blk_cell BK130.out 2).trans rfl; have hfz55_0 := blk_frozen BK130.out 0; have hfz55_1 := blk_frozen BK130.out 1; have hfz55_2 := blk_frozen BK130.out 2) | (go_at_call 10; (with_reducible refine (XC.umlautlaw13_awake.calls k  t142 _ ?side1 A22.out).mono ?_); (case side1 => exact GW.below HG.out (by repeat (first | (with_reducible first | exact HB.out | apply below_alloc | apply pw_below_drewN | apply below_drew1 | refine below_set ?_ GE111.out | refine below_set ?_ GE119.out | refine below_set ?_ GE130.out | refine below_set ?_ GE141.out) | exact HB.out))); rintro e w56 ⟨rfl, hb⟩; have n0_ := Aside0.mk (blk_below (g := gb111) (o := .cells #[.int .i64 t107, .int .i64 t108, .string t109] 24 (0, 0)) (by (with_reducible repeat (first | refine blk_drewN ?_ _ | refine blk_drew ?_ | refine blk_alloc ?_ _)); refine blk_far ?_ NB111_141.out _; (with_reducible repeat (first | refine blk_drewN ?_ _ | refine blk_drew ?_ | refine blk_alloc ?_ _)); refine blk_far ?_ NB111_141.out _; (with_reducible repeat (first | refine blk_drewN ?_ _ | refine blk_drew ?_ | refine blk_alloc ?_ _)); refine blk_far ?_ NB111_141.out _; (with_reducible repeat (first | refine blk_drewN ?_ _ | refine blk_drew ?_ | refine blk_alloc ?_ _)); exact BK111.out) hb); have n1_ := Aside0.mk (blk_below (g := gb119) (o := .cells #[.int .i64 t115, .int .i64 t116, .string t117] 24 (0, 0)) (by (with_reducible repeat (first | refine blk_drewN ?_ _ | refine blk_drew ?_ | refine blk_alloc ?_ _)); refine blk_far ?_ NB119_141.out _; (with_reducible repeat (first | refine blk_drewN ?_ _ | refine blk_drew ?_ | refine blk_alloc ?_ _)); refine blk_far ?_ NB119_141.out _; (with_reducible repeat (first | refine blk_drewN ?_ _ | refine blk_drew ?_ | refine blk_alloc ?_ _)); refine blk_far ?_ NB119_141.out _; (with_reducible repeat (first | refine blk_drewN ?_ _ | refine blk_drew ?_ | refine blk_alloc ?_ _)); exact BK119.out) hb); have n2_ := Aside0.mk (blk_below (g := gb130) (o := .cells #[.int .i64 t126, .int .i64 t127, .string t128] 24 (0, 0)) (by (with_reducible repeat (first | refine blk_drewN ?_ _ | refine blk_drew ?_ | refine blk_alloc ?_ _)); refine blk_far ?_ NB130_141.out _; (with_reducible repeat (first | refine blk_drewN ?_ _ | refine blk_drew ?_ | refine blk_alloc ?_ _)); refine blk_far ?_ NB130_141.out _; (with_reducible repeat (first | refine blk_drewN ?_ _ | refine blk_drew ?_ | refine blk_alloc ?_ _)); refine blk_far ?_ NB130_141.out _; (with_reducible repeat (first | refine blk_drewN ?_ _ | refine blk_drew ?_ | refine blk_alloc ?_ _)); exact BK130.out) hb); have n3_ := Aside0.mk (blk_below (g := gb141) (o := .cells #[.int .i64 t137, .int .i64 t138, .string t139] 24 (0, 0)) (by (with_reducible repeat (first | refine blk_drewN ?_ _ | refine blk_drew ?_ | refine blk_alloc ?_ _)); refine blk_put (cs := #[.int .i64 t137, .int .i64 t138, .string (⟨#[]⟩ : ByteArray)]) ?_ 2 _ rfl; (with_reducible repeat (first | refine blk_drewN ?_ _ | refine blk_drew ?_ | refine blk_alloc ?_ _)); refine blk_put (cs := #[.int .i64 t137, .int .i64 0, .string (⟨#[]⟩ : ByteArray)]) ?_ 1 _ rfl; (with_reducible repeat (first | refine blk_drewN ?_ _ | refine blk_drew ?_ | refine blk_alloc ?_ _)); refine blk_put (cs := #[.int .i64 0, .int .i64 0, .string (⟨#[]⟩ : ByteArray)]) ?_ 0 _ rfl; (with_reducible repeat (first | refine blk_drewN ?_ _ | refine blk_drew ?_ | refine blk_alloc ?_ _)); exact BK141.out) hb); have n4_ := Aside0.mk (below_step (by repeat (first | (with_reducible first | exact HB.out | apply below_alloc | apply pw_below_drewN | apply below_drew1 | refine below_set ?_ GE111.out | refine below_set ?_ GE119.out | refine below_set ?_ GE130.out | refine below_set ?_ GE141.out) | exact HB.out)) hb); clear BK111; clear BK119; clear BK130; clear BK141; clear HB; have BK111 := n0_; have BK119 := n1_; have BK130 := n2_; have BK141 := n3_; have HB := n4_; clear n0_ n1_ n2_ n3_ n4_; (try clear hb); (try clear hb2); (try clear hk); (try clear hi)))
                  go_ret
                  exact ⟨by first | rfl | (simp [errW_none, errW_some] <;> rfl) | (simp [*, errW_none, errW_some] <;> rfl), by repeat (first | (with_reducible first | exact HB.out | apply below_alloc | apply pw_below_drewN | apply below_drew1 | refine below_set ?_ GE111.out | refine below_set ?_ GE119.out | refine below_set ?_ GE130.out | refine below_set ?_ GE141.out) | exact HB.out)⟩
                · rw [if_neg c21] at H
                  have c21b0 : ((wrap64 (t138 - t127)) == t108) = false := beq_eq_false_iff_ne.mpr c21
                  have c21b1 : ((wrap64 (t138 - t127)) != t108) = true := bne_iff_ne.mpr c21
                  exact absurd (H.trans (congrArg some HT.out)) (by decide)
              · rw [if_neg c20] at H
                have c20b0 : ((wrap64 (t127 + t138)) == (wrap64 (a0 + a1))) = false := beq_eq_false_iff_ne.mpr c20
                have c20b1 : ((wrap64 (t127 + t138)) != (wrap64 (a0 + a1))) = true := bne_iff_ne.mpr c20
                exact absurd (H.trans (congrArg some HT.out)) (by decide)
            · rw [if_neg c19] at H
              have c19b0 : (t108 == (Go.bits .xor .i64 a0 a1)) = false := beq_eq_false_iff_ne.mpr c19
              have c19b1 : (t108 != (Go.bits .xor .i64 a0 a1)) = true := bne_iff_ne.mpr c19
              exact absurd (H.trans (congrArg some HT.out)) (by decide)
          · rw [if_neg c18] at H
            have c18b0 : (t116 == a0) = false := beq_eq_false_iff_ne.mpr c18
            have c18b1 : (t116 != a0) = true := bne_iff_ne.mpr c18
            exact absurd (H.trans (congrArg some HT.out)) (by decide)
        · rw [if_neg c17] at H
          have c17b0 : (t140 == 0) = false := beq_eq_false_iff_ne.mpr c17
          have c17b1 : (t140 != 0) = true := bne_iff_ne.mpr c17
          exact absurd (H.trans (congrArg some HT.out)) (by decide)
      · rw [if_neg c16] at H
        have c16b0 : (t129 == 0) = false := beq_eq_false_iff_ne.mpr c16
        have c16b1 : (t129 != 0) = true := bne_iff_ne.mpr c16
        exact absurd (H.trans (congrArg some HT.out)) (by decide)
    · rw [if_neg c15] at H
      have c15b0 : (t118 == 0) = false := beq_eq_false_iff_ne.mpr c15
      have c15b1 : (t118 != 0) = true := bne_iff_ne.mpr c15
      exact absurd (H.trans (congrArg some HT.out)) (by decide)
  · rw [if_neg c14] at H
    have c14b0 : (t110 == 0) = false := beq_eq_false_iff_ne.mpr c14
    have c14b1 : (t110 != 0) = true := bne_iff_ne.mpr c14
    exact absurd (H.trans (congrArg some HT.out)) (by decide)

/-- THE ONE PURE STATEMENT of umlautlaw13_CastBits: yours. -/
def umlautlaw13_CastBits.Pure : Prop := ∀ (a0 : Int) (a1 : Int), (Lit.int .i64 a0).wf = true → (Lit.int .i64 a1).wf = true → ∃ k, umlautlaw13_CastBits.f k a0 a1 = some true
theorem umlautlaw13_CastBits.walk (P : umlautlaw13_CastBits.Pure) (a0 : Int) (a1 : Int) (w : World) (hG0 : GW w) (w0 : (Lit.int .i64 a0).wf = true) (w1 : (Lit.int .i64 a1).wf = true) :
    Calls Tryz.prog 5 #[.int .i64 a0, .int .i64 a1] w fun e w' => e = .returned (.bool true) ∧ Below w.heap.size w w' := by
  obtain ⟨k, h⟩ := P a0 a1 w0 w1
  refine (umlautlaw13_CastBits.calls k a0 a1 true w hG0 h rfl).mono ?_
  rintro e w' ⟨rfl, hd⟩
  exact ⟨rfl, hd⟩

end Go.Proofs.YtmgoncnjagihgaaGreatDoor.XD
