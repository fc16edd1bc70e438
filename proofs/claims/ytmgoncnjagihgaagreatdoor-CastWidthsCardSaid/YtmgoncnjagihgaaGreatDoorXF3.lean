-- laid by a program of this session (its print of the translation over its own contracts)
import Derived.Test.YtmgoncnjagihgaaGreatDoorXF0
import Derived.Test.YtmgoncnjagihgaaGreatDoorXF2
namespace Go.Proofs.YtmgoncnjagihgaaGreatDoor.XF
open Go.Proofs.YtmgoncnjagihgaaGreatDoor Go.Proofs.YtmgoncnjagihgaaGreatDoor.Given Go.Proofs.YtmgoncnjagihgaaGreatDoor.Lem
open Go.RowKit Go.Proofs.YtmgoncnjagihgaaGreatDoorW.PrintWords Go.Proofs.YtmgoncnjagihgaaGreatDoorW.PrintLast Go.Proofs.YtmgoncnjagihgaaGreatDoorW.PrintMore
attribute [local go_sem] max2_int min2_int max_two min_two max_three min_three max_four min_four   -- for this text's walks alone
set_option linter.unusedVariables false
set_option linter.unusedSimpArgs false

/-! ### umlautlaw13_CastWidths: function 6 -/
def umlautlaw13_CastWidths.j0 : Nat → Int → Bool → Int → Int → ByteArray → Int → Int → ByteArray → Option (Bool)
  | 0, _, _, _, _, _, _, _, _ => none
  | k + 1, x0, x62, x146000, x146001, x146002, x154000, x154001, x154002 => if x62 = true then (some false) else (if x0 ≥ 0 then (if x0 ≤ 255 then (if x146001 = x0 then (if x0 ≥ (-2147483648) then (if x0 < 2147483648 then (if x154001 = x0 then (if (Int.tmod (wrap64 (x0 - x154001)) 4294967296) = 0 then (if (Go.bits .and .u64 (IntKind.u64.wrap (x0)) 255) = (IntKind.u64.wrap (x146001)) then ((XC.umlautlaw13_awake.f k).bind fun t159 => (some t159)) else (some false)) else (some false)) else (some false)) else (if (Int.tmod (wrap64 (x0 - x154001)) 4294967296) = 0 then (if (Go.bits .and .u64 (IntKind.u64.wrap (x0)) 255) = (IntKind.u64.wrap (x146001)) then ((XC.umlautlaw13_awake.f k).bind fun t160 => (some t160)) else (some false)) else (some false))) else (if (Int.tmod (wrap64 (x0 - x154001)) 4294967296) = 0 then (if (Go.bits .and .u64 (IntKind.u64.wrap (x0)) 255) = (IntKind.u64.wrap (x146001)) then ((XC.umlautlaw13_awake.f k).bind fun t161 => (some t161)) else (some false)) else (some false))) else (some false)) else (if x0 ≥ (-2147483648) then (if x0 < 2147483648 then (if x154001 = x0 then (if (Int.tmod (wrap64 (x0 - x154001)) 4294967296) = 0 then (if (Go.bits .and .u64 (IntKind.u64.wrap (x0)) 255) = (IntKind.u64.wrap (x146001)) then ((XC.umlautlaw13_awake.f k).bind fun t162 => (some t162)) else (some false)) else (some false)) else (some false)) else (if (Int.tmod (wrap64 (x0 - x154001)) 4294967296) = 0 then (if (Go.bits .and .u64 (IntKind.u64.wrap (x0)) 255) = (IntKind.u64.wrap (x146001)) then ((XC.umlautlaw13_awake.f k).bind fun t163 => (some t163)) else (some false)) else (some false))) else (if (Int.tmod (wrap64 (x0 - x154001)) 4294967296) = 0 then (if (Go.bits .and .u64 (IntKind.u64.wrap (x0)) 255) = (IntKind.u64.wrap (x146001)) then ((XC.umlautlaw13_awake.f k).bind fun t164 => (some t164)) else (some false)) else (some false)))) else (if x0 ≥ (-2147483648) then (if x0 < 2147483648 then (if x154001 = x0 then (if (Int.tmod (wrap64 (x0 - x154001)) 4294967296) = 0 then (if (Go.bits .and .u64 (IntKind.u64.wrap (x0)) 255) = (IntKind.u64.wrap (x146001)) then ((XC.umlautlaw13_awake.f k).bind fun t165 => (some t165)) else (some false)) else (some false)) else (some false)) else (if (Int.tmod (wrap64 (x0 - x154001)) 4294967296) = 0 then (if (Go.bits .and .u64 (IntKind.u64.wrap (x0)) 255) = (IntKind.u64.wrap (x146001)) then ((XC.umlautlaw13_awake.f k).bind fun t166 => (some t166)) else (some false)) else (some false))) else (if (Int.tmod (wrap64 (x0 - x154001)) 4294967296) = 0 then (if (Go.bits .and .u64 (IntKind.u64.wrap (x0)) 255) = (IntKind.u64.wrap (x146001)) then ((XC.umlautlaw13_awake.f k).bind fun t167 => (some t167)) else (some false)) else (some false))))
def umlautlaw13_CastWidths.f (k : Nat) (a0 : Int) : Option (Bool) := (XC.umlautref11_Int.f a0).bind fun bt138 => ((cast_Call.f k (⟨#[98, 121, 116, 101]⟩ : ByteArray) bt138.1 bt138.2.1 bt138.2.2 0).bind fun bt141 => ((XC.umlautref11_Int.f a0).bind fun bt146 => ((cast_Call.f k (⟨#[119, 111, 114, 100]⟩ : ByteArray) bt146.1 bt146.2.1 bt146.2.2 0).bind fun bt149 => ((cast_Call.f k (⟨#[98, 121, 116, 101]⟩ : ByteArray) bt149.1 bt149.2.1 bt149.2.2.1 0).bind fun bt154 => (if bt141.2.2.2 = 0 then (if bt149.2.2.2 = 0 then (if bt154.2.2.2 = 0 then (if bt141.2.1 < 0 then (umlautlaw13_CastWidths.j0 k a0 true bt141.1 bt141.2.1 bt141.2.2.1 bt149.1 bt149.2.1 bt149.2.2.1) else (if bt141.2.1 > 255 then (umlautlaw13_CastWidths.j0 k a0 true bt141.1 bt141.2.1 bt141.2.2.1 bt149.1 bt149.2.1 bt149.2.2.1) else (if bt149.2.1 < (-2147483648) then (umlautlaw13_CastWidths.j0 k a0 true bt141.1 bt141.2.1 bt141.2.2.1 bt149.1 bt149.2.1 bt149.2.2.1) else (if bt149.2.1 ≥ 2147483648 then (umlautlaw13_CastWidths.j0 k a0 true bt141.1 bt141.2.1 bt141.2.2.1 bt149.1 bt149.2.1 bt149.2.2.1) else (umlautlaw13_CastWidths.j0 k a0 (bt154.2.1 != bt141.2.1) bt141.1 bt141.2.1 bt141.2.2.1 bt149.1 bt149.2.1 bt149.2.2.1))))) else (umlautlaw13_CastWidths.j0 k a0 true bt141.1 bt141.2.1 bt141.2.2.1 bt149.1 bt149.2.1 bt149.2.2.1)) else (umlautlaw13_CastWidths.j0 k a0 true bt141.1 bt141.2.1 bt141.2.2.1 bt149.1 bt149.2.1 bt149.2.2.1)) else (umlautlaw13_CastWidths.j0 k a0 true bt141.1 bt141.2.1 bt141.2.2.1 bt149.1 bt149.2.1 bt149.2.2.1))))))
theorem umlautlaw13_CastWidths.mono_l : ∀ k, (∀ y0 y1 y2 y3 y4 y5 y6 y7, LeO (umlautlaw13_CastWidths.j0 k y0 y1 y2 y3 y4 y5 y6 y7) (umlautlaw13_CastWidths.j0 (k + 1) y0 y1 y2 y3 y4 y5 y6 y7))
  | 0 => fun _ _ _ _ _ _ _ _ r h => by simp [umlautlaw13_CastWidths.j0] at h
  | k + 1 => by
    have ih0 := umlautlaw13_CastWidths.mono_l k
    · intro y0 y1 y2 y3 y4 y5 y6 y7
      unfold umlautlaw13_CastWidths.j0
      repeat' first
      | (with_reducible exact ih0 _ _ _ _ _ _ _ _)
      | (with_reducible exact XC.umlautlaw13_awake.mono _)
      | (with_reducible exact cast_Call.mono _ _ _ _ _ _)
      | (with_reducible exact LeO.refl _)
      | (with_reducible exact LeO.none _)
      | (with_reducible refine LeO.ite ?_ ?_)
      | (with_reducible refine LeO.bind ?_ (fun _ => ?_))
      | exact ih0 _ _ _ _ _ _ _ _
      | exact XC.umlautlaw13_awake.mono _
      | exact cast_Call.mono _ _ _ _ _ _
      | exact LeO.none _
      | refine LeO.ite ?_ ?_
      | refine LeO.bind ?_ (fun _ => ?_)
theorem umlautlaw13_CastWidths.mono : ∀ a0 k, LeO (umlautlaw13_CastWidths.f k a0) (umlautlaw13_CastWidths.f (k + 1) a0) := by
  intro a0 k
  have ih0 := umlautlaw13_CastWidths.mono_l k
  unfold umlautlaw13_CastWidths.f
  repeat' first
      | (with_reducible exact ih0 _ _ _ _ _ _ _ _)
      | (with_reducible exact XC.umlautlaw13_awake.mono _)
      | (with_reducible exact cast_Call.mono _ _ _ _ _ _)
      | (with_reducible exact LeO.refl _)
      | (with_reducible exact LeO.none _)
      | (with_reducible refine LeO.ite ?_ ?_)
      | (with_reducible refine LeO.bind ?_ (fun _ => ?_))
      | exact ih0 _ _ _ _ _ _ _ _
      | exact XC.umlautlaw13_awake.mono _
      | exact cast_Call.mono _ _ _ _ _ _
      | exact LeO.none _
      | refine LeO.ite ?_ ?_
      | refine LeO.bind ?_ (fun _ => ?_)
set_option maxHeartbeats 8000000 in
set_option maxRecDepth 100000 in
theorem umlautlaw13_CastWidths.calls (k : Nat) (a0 : Int) (r : Bool) (w : World) (hG0 : GW w) (h : umlautlaw13_CastWidths.f k a0 = some r) (hT : r = true) :
    Calls Tryz.prog 6 #[.int .i64 a0] w fun e w' => e = .returned (.bool r) ∧ Below w.heap.size w w' := by
  have hu24 := Tryz.underlying24
  have HT := Aside0.mk hT
  clear hT
  have HG := Aside0.mk hG0
  clear hG0
  have HB := Aside0.mk (Below.refl w.heap.size w)
  have H : ((XC.umlautref11_Int.f a0).bind fun bt138 => ((cast_Call.f k (⟨#[98, 121, 116, 101]⟩ : ByteArray) bt138.1 bt138.2.1 bt138.2.2 0).bind fun bt141 => ((XC.umlautref11_Int.f a0).bind fun bt146 => ((cast_Call.f k (⟨#[119, 111, 114, 100]⟩ : ByteArray) bt146.1 bt146.2.1 bt146.2.2 0).bind fun bt149 => ((cast_Call.f k (⟨#[98, 121, 116, 101]⟩ : ByteArray) bt149.1 bt149.2.1 bt149.2.2.1 0).bind fun bt154 => (if bt141.2.2.2 = 0 then (if bt149.2.2.2 = 0 then (if bt154.2.2.2 = 0 then (if bt141.2.1 < 0 then (umlautlaw13_CastWidths.j0 k a0 true bt141.1 bt141.2.1 bt141.2.2.1 bt149.1 bt149.2.1 bt149.2.2.1) else (if bt141.2.1 > 255 then (umlautlaw13_CastWidths.j0 k a0 true bt141.1 bt141.2.1 bt141.2.2.1 bt149.1 bt149.2.1 bt149.2.2.1) else (if bt149.2.1 < (-2147483648) then (umlautlaw13_CastWidths.j0 k a0 true bt141.1 bt141.2.1 bt141.2.2.1 bt149.1 bt149.2.1 bt149.2.2.1) else (if bt149.2.1 ≥ 2147483648 then (umlautlaw13_CastWidths.j0 k a0 true bt141.1 bt141.2.1 bt141.2.2.1 bt149.1 bt149.2.1 bt149.2.2.1) else (umlautlaw13_CastWidths.j0 k a0 (bt154.2.1 != bt141.2.1) bt141.1 bt141.2.1 bt141.2.2.1 bt149.1 bt149.2.1 bt149.2.2.1))))) else (umlautlaw13_CastWidths.j0 k a0 true bt141.1 bt141.2.1 bt141.2.2.1 bt149.1 bt149.2.1 bt149.2.2.1)) else (umlautlaw13_CastWidths.j0 k a0 true bt141.1 bt141.2.1 bt141.2.2.1 bt149.1 bt149.2.1 bt149.2.2.1)) else (umlautlaw13_CastWidths.j0 k a0 true bt141.1 bt141.2.1 bt141.2.2.1 bt149.1 bt149.2.1 bt149.2.2.1))))))) = some r := h
  clear h
  replace H := Option.bind_eq_some_iff.mp H
  obtain ⟨⟨t138, t139, t140⟩, A20, H⟩ := H
  replace H : ((cast_Call.f k (⟨#[98, 121, 116, 101]⟩ : ByteArray) t138 t139 t140 0).bind fun bt141 => ((XC.umlautref11_Int.f a0).bind fun bt146 => ((cast_Call.f k (⟨#[119, 111, 114, 100]⟩ : ByteArray) bt146.1 bt146.2.1 bt146.2.2 0).bind fun bt149 => ((cast_Call.f k (⟨#[98, 121, 116, 101]⟩ : ByteArray) bt149.1 bt149.2.1 bt149.2.2.1 0).bind fun bt154 => (if bt141.2.2.2 = 0 then (if bt149.2.2.2 = 0 then (if bt154.2.2.2 = 0 then (if bt141.2.1 < 0 then (umlautlaw13_CastWidths.j0 k a0 true bt141.1 bt141.2.1 bt141.2.2.1 bt149.1 bt149.2.1 bt149.2.2.1) else (if bt141.2.1 > 255 then (umlautlaw13_CastWidths.j0 k a0 true bt141.1 bt141.2.1 bt141.2.2.1 bt149.1 bt149.2.1 bt149.2.2.1) else (if bt149.2.1 < (-2147483648) then (umlautlaw13_CastWidths.j0 k a0 true bt141.1 bt141.2.1 bt141.2.2.1 bt149.1 bt149.2.1 bt149.2.2.1) else (if bt149.2.1 ≥ 2147483648 then (umlautlaw13_CastWidths.j0 k a0 true bt141.1 bt141.2.1 bt141.2.2.1 bt149.1 bt149.2.1 bt149.2.2.1) else (umlautlaw13_CastWidths.j0 k a0 (bt154.2.1 != bt141.2.1) bt141.1 bt141.2.1 bt141.2.2.1 bt149.1 bt149.2.1 bt149.2.2.1))))) else (umlautlaw13_CastWidths.j0 k a0 true bt141.1 bt141.2.1 bt141.2.2.1 bt149.1 bt149.2.1 bt149.2.2.1)) else (umlautlaw13_CastWidths.j0 k a0 true bt141.1 bt141.2.1 bt141.2.2.1 bt149.1 bt149.2.1 bt149.2.2.1)) else (umlautlaw13_CastWidths.j0 k a0 true bt141.1 bt141.2.1 bt141.2.2.1 bt149.1 bt149.2.1 bt149.2.2.1)))))) = some r := H
  have A2 := Aside0.mk A20
  clear A20
  replace H := Option.bind_eq_some_iff.mp H
  obtain ⟨⟨t141, t142, t143, t144⟩, A30, H⟩ := H
  replace H : ((XC.umlautref11_Int.f a0).bind fun bt146 => ((cast_Call.f k (⟨#[119, 111, 114, 100]⟩ : ByteArray) bt146.1 bt146.2.1 bt146.2.2 0).bind fun bt149 => ((cast_Call.f k (⟨#[98, 121, 116, 101]⟩ : ByteArray) bt149.1 bt149.2.1 bt149.2.2.1 0).bind fun bt154 => (if t144 = 0 then (if bt149.2.2.2 = 0 then (if bt154.2.2.2 = 0 then (if t142 < 0 then (umlautlaw13_CastWidths.j0 k a0 true t141 t142 t143 bt149.1 bt149.2.1 bt149.2.2.1) else (if t142 > 255 then (umlautlaw13_CastWidths.j0 k a0 true t141 t142 t143 bt149.1 bt149.2.1 bt149.2.2.1) else (if bt149.2.1 < (-2147483648) then (umlautlaw13_CastWidths.j0 k a0 true t141 t142 t143 bt149.1 bt149.2.1 bt149.2.2.1) else (if bt149.2.1 ≥ 2147483648 then (umlautlaw13_CastWidths.j0 k a0 true t141 t142 t143 bt149.1 bt149.2.1 bt149.2.2.1) else (umlautlaw13_CastWidths.j0 k a0 (bt154.2.1 != t142) t141 t142 t143 bt149.1 bt149.2.1 bt149.2.2.1))))) else (umlautlaw13_CastWidths.j0 k a0 true t141 t142 t143 bt149.1 bt149.2.1 bt149.2.2.1)) else (umlautlaw13_CastWidths.j0 k a0 true t141 t142 t143 bt149.1 bt149.2.1 bt149.2.2.1)) else (umlautlaw13_CastWidths.j0 k a0 true t141 t142 t143 bt149.1 bt149.2.1 bt149.2.2.1))))) = some r := H
  have A3 := Aside0.mk A30
  clear A30
  replace H := Option.bind_eq_some_iff.mp H
  obtain ⟨⟨t146, t147, t148⟩, A40, H⟩ := H
  replace H : ((cast_Call.f k (⟨#[119, 111, 114, 100]⟩ : ByteArray) t146 t147 t148 0).bind fun bt149 => ((cast_Call.f k (⟨#[98, 121, 116, 101]⟩ : ByteArray) bt149.1 bt149.2.1 bt149.2.2.1 0).bind fun bt154 => (if t144 = 0 then (if bt149.2.2.2 = 0 then (if bt154.2.2.2 = 0 then (if t142 < 0 then (umlautlaw13_CastWidths.j0 k a0 true t141 t142 t143 bt149.1 bt149.2.1 bt149.2.2.1) else (if t142 > 255 then (umlautlaw13_CastWidths.j0 k a0 true t141 t142 t143 bt149.1 bt149.2.1 bt149.2.2.1) else (if bt149.2.1 < (-2147483648) then (umlautlaw13_CastWidths.j0 k a0 true t141 t142 t143 bt149.1 bt149.2.1 bt149.2.2.1) else (if bt149.2.1 ≥ 2147483648 then (umlautlaw13_CastWidths.j0 k a0 true t141 t142 t143 bt149.1 bt149.2.1 bt149.2.2.1) else (umlautlaw13_CastWidths.j0 k a0 (bt154.2.1 != t142) t141 t142 t143 bt149.1 bt149.2.1 bt149.2.2.1))))) else (umlautlaw13_CastWidths.j0 k a0 true t141 t142 t143 bt149.1 bt149.2.1 bt149.2.2.1)) else (umlautlaw13_CastWidths.j0 k a0 true t141 t142 t143 bt149.1 bt149.2.1 bt149.2.2.1)) else (umlautlaw13_CastWidths.j0 k a0 true t141 t142 t143 bt149.1 bt149.2.1 bt149.2.2.1)))) = some r := H
  have A4 := Aside0.mk A40
  clear A40
  replace H := Option.bind_eq_some_iff.mp H
  obtain ⟨⟨t149, t150, t151, t152⟩, A50, H⟩ := H
  replace H : ((cast_Call.f k (⟨#[98, 121, 116, 101]⟩ : ByteArray) t149 t150 t151 0).bind fun bt154 => (if t144 = 0 then (if t152 = 0 then (if bt154.2.2.2 = 0 then (if t142 < 0 then (umlautlaw13_CastWidths.j0 k a0 true t141 t142 t143 t149 t150 t151) else (if t142 > 255 then (umlautlaw13_CastWidths.j0 k a0 true t141 t142 t143 t149 t150 t151) else (if t150 < (-2147483648) then (umlautlaw13_CastWidths.j0 k a0 true t141 t142 t143 t149 t150 t151) else (if t150 ≥ 2147483648 then (umlautlaw13_CastWidths.j0 k a0 true t141 t142 t143 t149 t150 t151) else (umlautlaw13_CastWidths.j0 k a0 (bt154.2.1 != t142) t141 t142 t143 t149 t150 t151))))) else (umlautlaw13_CastWidths.j0 k a0 true t141 t142 t143 t149 t150 t151)) else (umlautlaw13_CastWidths.j0 k a0 true t141 t142 t143 t149 t150 t151)) else (umlautlaw13_CastWidths.j0 k a0 true t141 t142 t143 t149 t150 t151))) = some r := H
  have A5 := Aside0.mk A50
  clear A50
  replace H := Option.bind_eq_some_iff.mp H
  obtain ⟨⟨t154, t155, t156, t157⟩, A60, H⟩ := H
  replace H : (if t144 = 0 then (if t152 = 0 then (if t157 = 0 then (if t142 < 0 then (umlautlaw13_CastWidths.j0 k a0 true t141 t142 t143 t149 t150 t151) else (if t142 > 255 then (umlautlaw13_CastWidths.j0 k a0 true t141 t142 t143 t149 t150 t151) else (if t150 < (-2147483648) then (umlautlaw13_CastWidths.j0 k a0 true t141 t142 t143 t149 t150 t151) else (if t150 ≥ 2147483648 then (umlautlaw13_CastWidths.j0 k a0 true t141 t142 t143 t149 t150 t151) else (umlautlaw13_CastWidths.j0 k a0 (t155 != t142) t141 t142 t143 t149 t150 t151))))) else (umlautlaw13_CastWidths.j0 k a0 true t141 t142 t143 t149 t150 t151)) else (umlautlaw13_CastWidths.j0 k a0 true t141 t142 t143 t149 t150 t151)) else (umlautlaw13_CastWidths.j0 k a0 true t141 t142 t143 t149 t150 t151)) = some r := H
  have A6 := Aside0.mk A60
  clear A60
  have HC7 := Aside0.mk H
  clear H
  go_enter Tryz.func6, Tryz.ntmps6
  go_upto_region 4 with (first | ((with_reducible refine gate_callee (f := 15) rfl ?_); refine goesL_ (some 11) rfl rfl Tryz.func15 (by kernel_rfl) rfl #[.int .i64 a0] rfl (by (try simp only [List.map_toArray, List.map_cons, List.map_nil]); first | done | rfl | (simp only [List.length_drop, List.length_take]; rfl)) ?_; (with_reducible refine (XC.umlautref11_Int.calls a0 t138 t139 t140 _ A2.out).mono ?_); rintro e w8 ⟨rfl, hb⟩; refine ⟨_, rfl, ?_⟩; have n0_ := Aside0.mk (below_step (by repeat (first | (with_reducible first | exact HB.out | apply below_alloc | apply pw_below_drewN | apply below_drew1) | exact HB.out)) hb); clear HB; have HB := n0_; clear n0_; (try clear hb); (try clear hb2); (try clear hk); (try clear hi)) | ((with_reducible refine gate_callee (f := 16) rfl ?_); refine goesL_ (some 12) rfl rfl Tryz.func16 (by kernel_rfl) rfl #[.string (⟨#[98, 121, 116, 101]⟩ : ByteArray), .agg #[.int .i64 t138, .int .i64 t139, .string t140], .int .i64 0] rfl (by (try simp only [List.map_toArray, List.map_cons, List.map_nil]); first | done | rfl | (simp only [List.length_drop, List.length_take]; rfl)) ?_; (with_reducible refine (cast_Call.calls k (⟨#[98, 121, 116, 101]⟩ : ByteArray) t138 t139 t140 0 t141 t142 t143 t144 _ ?side1 A3.out).mono ?_); (case side1 => exact GW.below HG.out (by repeat (first | (with_reducible first | exact HB.out | apply below_alloc | apply pw_below_drewN | apply below_drew1) | exact HB.out))); rintro e w9 ⟨rfl, hb⟩; refine ⟨_, rfl, ?_⟩; have n0_ := Aside0.mk (below_step (by repeat (first | (with_reducible first | exact HB.out | apply below_alloc | apply pw_below_drewN | apply below_drew1) | exact HB.out)) hb); clear HB; have HB := n0_; clear n0_; (try clear hb); (try clear hb2); (try clear hk); (try clear hi)) | ((with_reducible refine gate_dst (N := 3) rfl ?_); refine box_event ?hg (N := 3) ?hd (cs := #[.int .i64 0, .int .i64 0, .string (⟨#[]⟩ : ByteArray)]) (t := 24) ?hr ?_; (case hd => rfl); (case hg => rfl); (case hr => first | (go_simp; done) | (go_simp; rfl)); intro gb145 hg w10 hbox hb; have n0_ := Aside0.mk (below_step (by repeat (first | (with_reducible first | exact HB.out | apply below_alloc | apply pw_below_drewN | apply below_drew1) | exact HB.out)) hb); have n1_ := Aside0.mk (hbox); have n2_ := Aside0.mk ((by rw [hg]; exact (below_size (by repeat (first | (with_reducible first | exact HB.out | apply below_alloc | apply pw_below_drewN | apply below_drew1) | exact HB.out))) : w.heap.size ≤ gb145)); have n3_ := Aside0.mk ((by rw [hg]; exact (below_size (by repeat (first | (with_reducible first | exact HB.out | apply below_alloc | apply pw_below_drewN | apply below_drew1) | exact HB.out))) : w.heap.size ≤ gb145)); clear HB; have HB := n0_; have BK145 := n1_; have GW145 := n2_; have GE145 := n3_; clear n0_ n1_ n2_ n3_; clear hb hbox hg; have hcz11_0 : w10.cell? ⟨gb145, 0, none⟩ = some (.int .i64 0) := (blk_cell BK145.out 0).trans rfl; have hcz11_1 : w10.cell? ⟨gb145, 1, none⟩ = some (.int .i64 0) := (blk_cell BK145.out 1).trans rfl; have hcz11_2 : w10.cell? ⟨gb145, 2, none⟩ = some (.string (⟨#[]⟩ : ByteArray)) := (blk_cell BK145.out 2).trans rfl; have hfz11_0 := blk_frozen BK145.out 0; have hfz11_1 := blk_frozen BK145.out 1; have hfz11_2 := blk_frozen BK145.out 2) | ((with_reducible refine gate_callee (f := 15) rfl ?_); refine goesL_ (some 17) rfl rfl Tryz.func15 (by kernel_rfl) rfl #[.int .i64 a0] rfl (by (try simp only [List.map_toArray, List.map_cons, List.map_nil]); first | done | rfl | (simp only [List.length_drop, List.length_take]; rfl)) ?_; (with_reducible refine (XC.umlautref11_Int.calls a0 t146 t147 t148 _ A4.out).mono ?_); rintro e w12 ⟨rfl, hb⟩; refine ⟨_, rfl, ?_⟩; have n0_ := Aside0.mk (blk_below (g := gb145) (o := .cells #[.int .i64 t141, .int .i64 t142, .string t143] 24 (0, 0)) (by (with_reducible repeat (first | refine blk_drewN ?_ _ | refine blk_drew ?_ | refine blk_alloc ?_ _)); refine blk_put (cs := #[.int .i64 t141, .int .i64 t142, .string (⟨#[]⟩ : ByteArray)]) ?_ 2 _ rfl; (with_reducible repeat (first | refine blk_drewN ?_ _ | refine blk_drew ?_ | refine blk_alloc ?_ _)); refine blk_put (cs := #[.int .i64 t141, .int .i64 0, .string (⟨#[]⟩ : ByteArray)]) ?_ 1 _ rfl; (with_reducible repeat (first | refine blk_drewN ?_ _ | refine blk_drew ?_ | refine blk_alloc ?_ _)); refine blk_put (cs := #[.int .i64 0, .int .i64 0, .string (⟨#[]⟩ : ByteArray)]) ?_ 0 _ rfl; (with_reducible repeat (first | refine blk_drewN ?_ _ | refine blk_drew ?_ | refine blk_alloc ?_ _)); exact BK145.out) hb); have n1_ := Aside0.mk (below_step (by repeat (first | (with_reducible first | exact HB.out | apply below_alloc | apply pw_below_drewN | apply below_drew1 | refine below_set ?_ GE145.out) | exact HB.out)) hb); clear BK145; clear HB; have BK145 := n0_; have HB := n1_; clear n0_ n1_; (try clear hb); (try clear hb2); (try clear hk); (try clear hi)) | ((with_reducible refine gate_callee (f := 16) rfl ?_); refine goesL_ (some 18) rfl rfl Tryz.func16 (by kernel_rfl) rfl #[.string (⟨#[119, 111, 114, 100]⟩ : ByteArray), .agg #[.int .i64 t146, .int .i64 t147, .string t148], .int .i64 0] rfl (by (try simp only [List.map_toArray, List.map_cons, List.map_nil]); first | done | rfl | (simp only [List.length_drop, List.length_take]; rfl)) ?_; (with_reducible refine (cast_Call.calls k (⟨#[119, 111, 114, 100]⟩ : ByteArray) t146 t147 t148 0 t149 t150 t151 t152 _ ?side1 A5.out).mono ?_); (case side1 => exact GW.below HG.out (by repeat (first | (with_reducible first | exact HB.out | apply below_alloc | apply pw_below_drewN | apply below_drew1 | refine below_set ?_ GE145.out) | exact HB.out))); rintro e w13 ⟨rfl, hb⟩; refine ⟨_, rfl, ?_⟩; have n0_ := Aside0.mk (blk_below (g := gb145) (o := .cells #[.int .i64 t141, .int .i64 t142, .string t143] 24 (0, 0)) (by (with_reducible repeat (first | refine blk_drewN ?_ _ | refine blk_drew ?_ | refine blk_alloc ?_ _)); exact BK145.out) hb); have n1_ := Aside0.mk (below_step (by repeat (first | (with_reducible first | exact HB.out | apply below_alloc | apply pw_below_drewN | apply below_drew1 | refine below_set ?_ GE145.out) | exact HB.out)) hb); clear BK145; clear HB; have BK145 := n0_; have HB := n1_; clear n0_ n1_; (try clear hb); (try clear hb2); (try clear hk); (try clear hi)) | ((with_reducible refine gate_dst (N := 5) rfl ?_); refine box_event ?hg (N := 5) ?hd (cs := #[.int .i64 0, .int .i64 0, .string (⟨#[]⟩ : ByteArray)]) (t := 24) ?hr ?_; (case hd => rfl); (case hg => rfl); (case hr => first | (go_simp; done) | (go_simp; rfl)); intro gb153 hg w14 hbox hb; have n0_ := Aside0.mk (blk_below (g := gb145) (o := .cells #[.int .i64 t141, .int .i64 t142, .string t143] 24 (0, 0)) (by (with_reducible repeat (first | refine blk_drewN ?_ _ | refine blk_drew ?_ | refine blk_alloc ?_ _)); exact BK145.out) hb); have n1_ := Aside0.mk (below_step (by repeat (first | (with_reducible first | exact HB.out | apply below_alloc | apply pw_below_drewN | apply below_drew1 | refine below_set ?_ GE145.out) | exact HB.out)) hb); have n2_ := Aside0.mk (hbox); have n3_ := Aside0.mk ((by rw [hg]; exact (below_size (by repeat (first | (with_reducible first | exact HB.out | apply below_alloc | apply pw_below_drewN | apply below_drew1 | refine below_set ?_ GE145.out) | exact HB.out))) : w.heap.size ≤ gb153)); have n4_ := Aside0.mk ((by rw [hg]; exact (below_size (by repeat (first | (with_reducible first | exact HB.out | apply below_alloc | apply pw_below_drewN | apply below_drew1 | refine below_set ?_ GE145.out) | exact HB.out))) : w.heap.size ≤ gb153)); have n5_ := Aside0.mk ((by rw [hg]; exact Nat.ne_of_lt (blk_lt (g := gb145) (o := .cells #[.int .i64 t141, .int .i64 t142, .string t143] 24 (0, 0)) (by (with_reducible repeat (first | refine blk_drewN ?_ _ | refine blk_drew ?_ | refine blk_alloc ?_ _)); exact BK145.out)) : gb145 ≠ gb153)); have n6_ := Aside0.mk ((by rw [hg]; exact Nat.ne_of_gt (blk_lt (g := gb145) (o := .cells #[.int .i64 t141, .int .i64 t142, .string t143] 24 (0, 0)) (by (with_reducible repeat (first | refine blk_drewN ?_ _ | refine blk_drew ?_ | refine blk_alloc ?_ _)); exact BK145.out)) : gb153 ≠ gb145)); clear BK145; clear HB; have BK145 := n0_; have HB := n1_; have BK153 := n2_; have GW153 := n3_; have GE153 := n4_; have NB145_153 := n5_; have NB153_145 := n6_; clear n0_ n1_ n2_ n3_ n4_ n5_ n6_; clear hb hbox hg; have hnb15 := NB153_145.out; have hnc15 := NB145_153.out; have hcz16_0 : w14.cell? ⟨gb153, 0, none⟩ = some (.int .i64 0) := (blk_cell BK153.out 0).trans rfl; have hcz16_1 : w14.cell? ⟨gb153, 1, none⟩ = some (.int .i64 0) := (blk_cell BK153.out 1).trans rfl; have hcz16_2 : w14.cell? ⟨gb153, 2, none⟩ = some (.string (⟨#[]⟩ : ByteArray)) := (blk_cell BK153.out 2).trans rfl; have hfz16_0 := blk_frozen BK153.out 0; have hfz16_1 := blk_frozen BK153.out 1; have hfz16_2 := blk_frozen BK153.out 2) | ((with_reducible refine gate_callee (f := 16) rfl ?_); refine goesL_ (some 23) rfl rfl Tryz.func16 (by kernel_rfl) rfl #[.string (⟨#[98, 121, 116, 101]⟩ : ByteArray), .agg #[.int .i64 t149, .int .i64 t150, .string t151], .int .i64 0] rfl (by (try simp only [List.map_toArray, List.map_cons, List.map_nil]); first | done | rfl | (simp only [List.length_drop, List.length_take]; rfl)) ?_; (with_reducible refine (cast_Call.calls k (⟨#[98, 121, 116, 101]⟩ : ByteArray) t149 t150 t151 0 t154 t155 t156 t157 _ ?side1 A6.out).mono ?_); (case side1 => exact GW.below HG.out (by repeat (first | (with_reducible first | exact HB.out | apply below_alloc | apply pw_below_drewN | apply below_drew1 | refine below_set ?_ GE145.out | refine below_set ?_ GE153.out) | exact HB.out))); rintro e w17 ⟨rfl, hb⟩; refine ⟨_, rfl, ?_⟩; have n0_ := Aside0.mk (blk_below (g := gb145) (o := .cells #[.int .i64 t141, .int .i64 t142, .string t143] 24 (0, 0)) (by (with_reducible repeat (first | refine blk_drewN ?_ _ | refine blk_drew ?_ | refine blk_alloc ?_ _)); refine blk_far ?_ NB145_153.out _; (with_reducible repeat (first | refine blk_drewN ?_ _ | refine blk_drew ?_ | refine blk_alloc ?_ _)); refine blk_far ?_ NB145_153.out _; (with_reducible repeat (first | refine blk_drewN ?_ _ | refine blk_drew ?_ | refine blk_alloc ?_ _)); refine blk_far ?_ NB145_153.out _; (with_reducible repeat (first | refine blk_drewN ?_ _ | refine blk_drew ?_ | refine blk_alloc ?_ _)); exact BK145.out) hb); have n1_ := Aside0.mk (blk_below (g := gb153) (o := .cells #[.int .i64 t149, .int .i64 t150, .string t151] 24 (0, 0)) (by (with_reducible repeat (first | refine blk_drewN ?_ _ | refine blk_drew ?_ | refine blk_alloc ?_ _)); refine blk_put (cs := #[.int .i64 t149, .int .i64 t150, .string (⟨#[]⟩ : ByteArray)]) ?_ 2 _ rfl; (with_reducible repeat (first | refine blk_drewN ?_ _ | refine blk_drew ?_ | refine blk_alloc ?_ _)); refine blk_put (cs := #[.int .i64 t149, .int .i64 0, .string (⟨#[]⟩ : ByteArray)]) ?_ 1 _ rfl; (with_reducible repeat (first | refine blk_drewN ?_ _ | refine blk_drew ?_ | refine blk_alloc ?_ _)); refine blk_put (cs := #[.int .i64 0, .int .i64 0, .string (⟨#[]⟩ : ByteArray)]) ?_ 0 _ rfl; (with_reducible repeat (first | refine blk_drewN ?_ _ | refine blk_drew ?_ | refine blk_alloc ?_ _)); exact BK153.out) hb); have n2_ := Aside0.mk (below_step (by repeat (first | (with_reducible first | exact HB.out | apply below_alloc | apply pw_below_drewN | apply below_drew1 | refine below_set ?_ GE145.out | refine below_set ?_ GE153.out) | exact HB.out)) hb); clear BK145; clear BK153; clear HB; have BK145 := n0_; have BK153 := n1_; have HB := n2_; clear n0_ n1_ n2_; (try clear hb); (try clear hb2); (try clear hk); (try clear hi)) | ((with_reducible refine gate_dst (N := 7) rfl ?_); refine box_event ?hg (N := 7) ?hd (cs := #[.int .i64 0, .int .i64 0, .string (⟨#[]⟩ : ByteArray)]) (t := 24) ?hr ?_; (case hd => rfl); (case hg => rfl); (case hr => first | (go_simp; done) | (go_simp; rfl)); intro gb158 hg w18 hbox hb; have n0_ := Aside0.mk (blk_below (g := gb145) (o := .cells #[.int .i64 t141, .int .i64 t142, .string t143] 24 (0, 0)) (by (with_reducible repeat (first | refine blk_drewN ?_ _ | refine blk_drew ?_ | refine blk_alloc ?_ _)); exact BK145.out) hb); have n1_ := Aside0.mk (blk_below (g := gb153) (o := .cells #[.int .i64 t149, .int .i64 t150, .string t151] 24 (0, 0)) (by (with_reducible repeat (first | refine blk_drewN ?_ _ | refine blk_drew ?_ | refine blk_alloc ?_ _)); exact BK153.out) hb); have n2_ := Aside0.mk (below_step (by repeat (first | (with_reducible first | exact HB.out | apply below_alloc | apply pw_below_drewN | apply below_drew1 | refine below_set ?_ GE145.out | refine below_set ?_ GE153.out) | exact HB.out)) hb); have n3_ := Aside0.mk (hbox); have n4_ := Aside0.mk ((by rw [hg]; exact (below_size (by repeat (first | (with_reducible first | exact HB.out | apply below_alloc | apply pw_below_drewN | apply below_drew1 | refine below_set ?_ GE145.out | refine below_set ?_ GE153.out) | exact HB.out))) : w.heap.size ≤ gb158)); have n5_ := Aside0.mk ((by rw [hg]; exact (below_size (by repeat (first | (with_reducible first | exact HB.out | apply below_alloc | apply pw_below_drewN | apply below_drew1 | refine below_set ?_ GE145.out | refine below_set ?_ GE153.out) | exact HB.out))) : w.heap.size ≤ gb158)); have n6_ := Aside0.mk ((by rw [hg]; exact Nat.ne_of_lt (blk_lt (g := gb145) (o := .cells #[.int .i64 t141, .int .i64 t142, .string t143] 24 (0, 0)) (by (with_reducible repeat (first | refine blk_drewN ?_ _ | refine blk_drew ?_ | refine blk_alloc ?_ _)); exact BK145.out)) : gb145 ≠ gb158)); have n7_ := Aside0.mk ((by rw [hg]; exact Nat.ne_of_gt (blk_lt (g := gb145) (o := .cells #[.int .i64 t141, .int .i64 t142, .string t143] 24 (0, 0)) (by (with_reducible repeat (first | refine blk_drewN ?_ _ | refine blk_drew ?_ | refine blk_alloc ?_ _)); exact BK145.out)) : gb158 ≠ gb145)); have n8_ := Aside0.mk ((by rw [hg]; exact Nat.ne_of_lt (blk_lt (g := gb153) (o := .cells #[.int .i64 t149, .int .i64 t150, .string t151] 24 (0, 0)) (by (with_reducible repeat (first | refine blk_drewN ?_ _ | refine blk_drew ?_ | refine blk_alloc ?_ _)); exact BK153.out)) : gb153 ≠ gb158)); have n9_ := Aside0.mk ((by rw [hg]; exact Nat.ne_of_gt (blk_lt (g := gb153) (o := .cells #[.int .i64 t149, .int .i64 t150, .string t151] 24 (0, 0)) (by (with_reducible repeat (first | refine blk_drewN ?_ _ | refine blk_drew ?_ | refine blk_alloc ?_ _)); exact BK153.out)) : gb158 ≠ gb153)); clear BK145; clear BK153; clear HB; have BK145 := n0_; have BK153 := n1_; have HB := n2_; have BK158 := n3_; have GW158 := n4_; have GE158 := n5_; have NB145_158 := n6_; have NB158_145 := n7_; have NB153_158 := n8_; have NB158_153 := n9_; clear n0_ n1_ n2_ n3_ n4_ n5_ n6_ n7_ n8_ n9_; clear hb hbox hg; have hnb19 := NB158_145.out; have hnc19 := NB145_158.out; have hnb20 := NB158_153.out; have hnc20 := NB153_158.out; have hcz21_0 : w18.cell? ⟨gb158, 0, none⟩ = some (.int .i64 0) := (blk_cell BK158.out 0).trans rfl; have hcz21_1 : w18.cell? ⟨gb158, 1, none⟩ = some (.int .i64 0) := (blk_cell BK158.out 1).trans rfl; have hcz21_2 : w18.cell? ⟨gb158, 2, none⟩ = some (.string (⟨#[]⟩ : ByteArray)) := (blk_cell BK158.out 2).trans rfl; have hfz21_0 := blk_frozen BK158.out 0; have hfz21_1 := blk_frozen BK158.out 1; have hfz21_2 := blk_frozen BK158.out 2))
  (try simp only [Act.put, List.setIfInBounds_toArray, List.set_cons_zero, List.set_cons_succ])
  go_cut [62] (fun v62 wc => ∃ (kq : Nat) (x62_6 : Bool), v62 = .bool x62_6 ∧ Aside0 (umlautlaw13_CastWidths.j0 kq a0 x62_6 t141 t142 t143 t149 t150 t151 = some r) ∧ Aside0 (kq ≤ k) ∧ Aside0 (wc.heap[gb145]? = some (.cells #[.int .i64 t141, .int .i64 t142, .string t143] 24 (0, 0))) ∧ Aside0 (wc.heap[gb153]? = some (.cells #[.int .i64 t149, .int .i64 t150, .string t151] 24 (0, 0))) ∧ Aside0 (wc.heap[gb158]? = some (.cells #[.int .i64 t154, .int .i64 t155, .string t156] 24 (0, 0))) ∧ Aside0 (Below w.heap.size w wc))
  case first =>
    have H := HC7.out
    clear HC7
    by_cases c22 : t144 = 0
    · rw [if_pos c22] at H
      have c22b0 : (t144 == 0) = true := beq_iff_eq.mpr c22
      have c22b1 : (t144 != 0) = false := bne_eq_false_iff_eq.mpr c22
      clear c22
      (first | rw [c22b0] | (simp only [i64_w, i32_w]; rw [c22b0]) | skip)
      by_cases c23 : t152 = 0
      · rw [if_pos c23] at H
        have c23b0 : (t152 == 0) = true := beq_iff_eq.mpr c23
        have c23b1 : (t152 != 0) = false := bne_eq_false_iff_eq.mpr c23
        clear c23
        by_cases c24 : t157 = 0
        · rw [if_pos c24] at H
          have c24b0 : (t157 == 0) = true := beq_iff_eq.mpr c24
          have c24b1 : (t157 != 0) = false := bne_eq_false_iff_eq.mpr c24
          clear c24
          by_cases c25 : t142 < 0
          · rw [if_pos c25] at H
            have c25b0 : decide (t142 < 0) = true := decide_eq_true c25
            clear c25
            have H' := Aside0.mk H
            clear H
            have hnb26 := NB145_153.out
            have hnc26 := NB153_145.out
            have hnb27 := NB145_158.out
            have hnc27 := NB158_145.out
            have hcz28_0 : w18.cell? ⟨gb145, 0, none⟩ = some (.int .i64 t141) := (blk_cell BK145.out 0).trans rfl
            have hcz28_1 : w18.cell? ⟨gb145, 1, none⟩ = some (.int .i64 t142) := (blk_cell BK145.out 1).trans rfl
            have hcz28_2 : w18.cell? ⟨gb145, 2, none⟩ = some (.string t143) := (blk_cell BK145.out 2).trans rfl
            have hfz28_0 := blk_frozen BK145.out 0
            have hfz28_1 := blk_frozen BK145.out 1
            have hfz28_2 := blk_frozen BK145.out 2
            go_wp2
            go_meet
            case rel => exact ⟨_, (true), (by first | rfl | (simp; done) | (simp [*]; done)), H', ⟨by first | omega | exact Nat.le_refl _⟩, ⟨by (with_reducible repeat (first | refine blk_drewN ?_ _ | refine blk_drew ?_ | refine blk_alloc ?_ _)); refine blk_far ?_ NB145_158.out _; (with_reducible repeat (first | refine blk_drewN ?_ _ | refine blk_drew ?_ | refine blk_alloc ?_ _)); refine blk_far ?_ NB145_158.out _; (with_reducible repeat (first | refine blk_drewN ?_ _ | refine blk_drew ?_ | refine blk_alloc ?_ _)); refine blk_far ?_ NB145_158.out _; (with_reducible repeat (first | refine blk_drewN ?_ _ | refine blk_drew ?_ | refine blk_alloc ?_ _)); exact BK145.out⟩, ⟨by (with_reducible repeat (first | refine blk_drewN ?_ _ | refine blk_drew ?_ | refine blk_alloc ?_ _)); refine blk_far ?_ NB153_158.out _; (with_reducible repeat (first | refine blk_drewN ?_ _ | refine blk_drew ?_ | refine blk_alloc ?_ _)); refine blk_far ?_ NB153_158.out _; (with_reducible repeat (first | refine blk_drewN ?_ _ | refine blk_drew ?_ | refine blk_alloc ?_ _)); refine blk_far ?_ NB153_158.out _; (with_reducible repeat (first | refine blk_drewN ?_ _ | refine blk_drew ?_ | refine blk_alloc ?_ _)); exact BK153.out⟩, ⟨by (with_reducible repeat (first | refine blk_drewN ?_ _ | refine blk_drew ?_ | refine blk_alloc ?_ _)); refine blk_put (cs := #[.int .i64 t154, .int .i64 t155, .string (⟨#[]⟩ : ByteArray)]) ?_ 2 _ rfl; (with_reducible repeat (first | refine blk_drewN ?_ _ | refine blk_drew ?_ | refine blk_alloc ?_ _)); refine blk_put (cs := #[.int .i64 t154, .int .i64 0, .string (⟨#[]⟩ : ByteArray)]) ?_ 1 _ rfl; (with_reducible repeat (first | refine blk_drewN ?_ _ | refine blk_drew ?_ | refine blk_alloc ?_ _)); refine blk_put (cs := #[.int .i64 0, .int .i64 0, .string (⟨#[]⟩ : ByteArray)]) ?_ 0 _ rfl; (with_reducible repeat (first | refine blk_drewN ?_ _ | refine blk_drew ?_ | refine blk_alloc ?_ _)); exact BK158.out⟩, ⟨by repeat (first | (with_reducible first | exact HB.out | apply below_alloc | apply pw_below_drewN | apply below_drew1 | refine below_set ?_ GE145.out | refine below_set ?_ GE153.out | refine below_set ?_ GE158.out) | exact HB.out)⟩⟩
          · rw [if_neg c25] at H
            have c25b0 : decide (t142 < 0) = false := decide_eq_false c25
            clear c25
            by_cases c29 : t142 > 255
            · rw [if_pos c29] at H
              have c29b0 : decide (255 < t142) = true := decide_eq_true c29
              clear c29
              have H' := Aside0.mk H
              clear H
              have hnb30 := NB145_153.out
              have hnc30 := NB153_145.out
              have hnb31 := NB145_158.out
              have hnc31 := NB158_145.out
              have hcz32_0 : w18.cell? ⟨gb145, 0, none⟩ = some (.int .i64 t141) := (blk_cell BK145.out 0).trans rfl
              have hcz32_1 : w18.cell? ⟨gb145, 1, none⟩ = some (.int .i64 t142) := (blk_cell BK145.out 1).trans rfl
              have hcz32_2 : w18.cell? ⟨gb145, 2, none⟩ = some (.string t143) := (blk_cell BK145.out 2).trans rfl
              have hfz32_0 := blk_frozen BK145.out 0
              have hfz32_1 := blk_frozen BK145.out 1
              have hfz32_2 := blk_frozen BK145.out 2
              go_wp2
              go_meet
              case rel => exact ⟨_, (true), (by first | rfl | (simp; done) | (simp [*]; done)), H', ⟨by first | omega | exact Nat.le_refl _⟩, ⟨by (with_reducible repeat (first | refine blk_drewN ?_ _ | refine blk_drew ?_ | refine blk_alloc ?_ _)); refine blk_far ?_ NB145_158.out _; (with_reducible repeat (first | refine blk_drewN ?_ _ | refine blk_drew ?_ | refine blk_alloc ?_ _)); refine blk_far ?_ NB145_158.out _; (with_reducible repeat (first | refine blk_drewN ?_ _ | refine blk_drew ?_ | refine blk_alloc ?_ _)); refine blk_far ?_ NB145_158.out _; (with_reducible repeat (first | refine blk_drewN ?_ _ | refine blk_drew ?_ | refine blk_alloc ?_ _)); exact BK145.out⟩, ⟨by (with_reducible repeat (first | refine blk_drewN ?_ _ | refine blk_drew ?_ | refine blk_alloc ?_ _)); refine blk_far ?_ NB153_158.out _; (with_reducible repeat (first | refine blk_drewN ?_ _ | refine blk_drew ?_ | refine blk_alloc ?_ _)); refine blk_far ?_ NB153_158.out _; (with_reducible repeat (first | refine blk_drewN ?_ _ | refine blk_drew ?_ | refine blk_alloc ?_ _)); refine blk_far ?_ NB153_158.out _; (with_reducible repeat (first | refine blk_drewN ?_ _ | refine blk_drew ?_ | refine blk_alloc ?_ _)); exact BK153.out⟩, ⟨by (with_reducible repeat (first | refine blk_drewN ?_ _ | refine blk_drew ?_ | refine blk_alloc ?_ _)); refine blk_put (cs := #[.int .i64 t154, .int .i64 t155, .string (⟨#[]⟩ : ByteArray)]) ?_ 2 _ rfl; (with_reducible repeat (first | refine blk_drewN ?_ _ | refine blk_drew ?_ | refine blk_alloc ?_ _)); refine blk_put (cs := #[.int .i64 t154, .int .i64 0, .string (⟨#[]⟩ : ByteArray)]) ?_ 1 _ rfl; (with_reducible repeat (first | refine blk_drewN ?_ _ | refine blk_drew ?_ | refine blk_alloc ?_ _)); refine blk_put (cs := #[.int .i64 0, .int .i64 0, .string (⟨#[]⟩ : ByteArray)]) ?_ 0 _ rfl; (with_reducible repeat (first | refine blk_drewN ?_ _ | refine blk_drew ?_ | refine blk_alloc ?_ _)); exact BK158.out⟩, ⟨by repeat (first | (with_reducible first | exact HB.out | apply below_alloc | apply pw_below_drewN | apply below_drew1 | refine below_set ?_ GE145.out | refine below_set ?_ GE153.out | refine below_set ?_ GE158.out) | exact HB.out)⟩⟩
            · rw [if_neg c29] at H
              have c29b0 : decide (255 < t142) = false := decide_eq_false c29
              clear c29
              by_cases c33 : t150 < (-2147483648)
              · rw [if_pos c33] at H
                have c33b0 : decide (t150 < (-2147483648)) = true := decide_eq_true c33
                clear c33
                have H' := Aside0.mk H
                clear H
                have hnb34 := NB145_153.out
                have hnc34 := NB153_145.out
                have hnb35 := NB145_158.out
                have hnc35 := NB158_145.out
                have hcz36_0 : w18.cell? ⟨gb145, 0, none⟩ = some (.int .i64 t141) := (blk_cell BK145.out 0).trans rfl
                have hcz36_1 : w18.cell? ⟨gb145, 1, none⟩ = some (.int .i64 t142) := (blk_cell BK145.out 1).trans rfl
                have hcz36_2 : w18.cell? ⟨gb145, 2, none⟩ = some (.string t143) := (blk_cell BK145.out 2).trans rfl
                have hfz36_0 := blk_frozen BK145.out 0
                have hfz36_1 := blk_frozen BK145.out 1
                have hfz36_2 := blk_frozen BK145.out 2
                have hnb37 := NB153_158.out
                have hnc37 := NB158_153.out
                have hcz38_0 : w18.cell? ⟨gb153, 0, none⟩ = some (.int .i64 t149) := (blk_cell BK153.out 0).trans rfl
                have hcz38_1 : w18.cell? ⟨gb153, 1, none⟩ = some (.int .i64 t150) := (blk_cell BK153.out 1).trans rfl
                have hcz38_2 : w18.cell? ⟨gb153, 2, none⟩ = some (.string t151) := (blk_cell BK153.out 2).trans rfl
                have hfz38_0 := blk_frozen BK153.out 0
                have hfz38_1 := blk_frozen BK153.out 1
                have hfz38_2 := blk_frozen BK153.out 2
                go_wp2
                go_meet
                case rel => exact ⟨_, (true), (by first | rfl | (simp; done) | (simp [*]; done)), H', ⟨by first | omega | exact Nat.le_refl _⟩, ⟨by (with_reducible repeat (first | refine blk_drewN ?_ _ | refine blk_drew ?_ | refine blk_alloc ?_ _)); refine blk_far ?_ NB145_158.out _; (with_reducible repeat (first | refine blk_drewN ?_ _ | refine blk_drew ?_ | refine blk_alloc ?_ _)); refine blk_far ?_ NB145_158.out _; (with_reducible repeat (first | refine blk_drewN ?_ _ | refine blk_drew ?_ | refine blk_alloc ?_ _)); refine blk_far ?_ NB145_158.out _; (with_reducible repeat (first | refine blk_drewN ?_ _ | refine blk_drew ?_ | refine blk_alloc ?_ _)); exact BK145.out⟩, ⟨by (with_reducible repeat (first | refine blk_drewN ?_ _ | refine blk_drew ?_ | refine blk_alloc ?_ _)); refine blk_far ?_ NB153_158.out _; (with_reducible repeat (first | refine blk_drewN ?_ _ | refine blk_drew ?_ | refine blk_alloc ?_ _)); refine blk_far ?_ NB153_158.out _; (with_reducible repeat (first | refine blk_drewN ?_ _ | refine blk_drew ?_ | refine blk_alloc ?_ _)); refine blk_far ?_ NB153_158.out _; (with_reducible repeat (first | refine blk_drewN ?_ _ | refine blk_drew ?_ | refine blk_alloc ?_ _)); exact BK153.out⟩, ⟨by (with_reducible repeat (first | refine blk_drewN ?_ _ | refine blk_drew ?_ | refine blk_alloc ?_ _)); refine blk_put (cs := #[.int .i64 t154, .int .i64 t155, .string (⟨#[]⟩ : ByteArray)]) ?_ 2 _ rfl; (with_reducible repeat (first | refine blk_drewN ?_ _ | refine blk_drew ?_ | refine blk_alloc ?_ _)); refine blk_put (cs := #[.int .i64 t154, .int .i64 0, .string (⟨#[]⟩ : ByteArray)]) ?_ 1 _ rfl; (with_reducible repeat (first | refine blk_drewN ?_ _ | refine blk_drew ?_ | refine blk_alloc ?_ _)); refine blk_put (cs := #[.int .i64 0, .int .i64 0, .string (⟨#[]⟩ : ByteArray)]) ?_ 0 _ rfl; (with_reducible repeat (first | refine blk_drewN ?_ _ | refine blk_drew ?_ | refine blk_alloc ?_ _)); exact BK158.out⟩, ⟨by repeat (first | (with_reducible first | exact HB.out | apply below_alloc | apply pw_below_drewN | apply below_drew1 | refine below_set ?_ GE145.out | refine below_set ?_ GE153.out | refine below_set ?_ GE158.out) | exact HB.out)⟩⟩
              · rw [if_neg c33] at H
                have c33b0 : decide (t150 < (-2147483648)) = false := decide_eq_false c33
                clear c33
                by_cases c39 : t150 ≥ 2147483648
                · rw [if_pos c39] at H
                  have c39b0 : decide (2147483648 ≤ t150) = true := decide_eq_true c39
                  clear c39
                  have H' := Aside0.mk H
                  clear H
                  have hnb40 := NB145_153.out
                  have hnc40 := NB153_145.out
                  have hnb41 := NB145_158.out
                  have hnc41 := NB158_145.out
                  have hcz42_0 : w18.cell? ⟨gb145, 0, none⟩ = some (.int .i64 t141) := (blk_cell BK145.out 0).trans rfl
                  have hcz42_1 : w18.cell? ⟨gb145, 1, none⟩ = some (.int .i64 t142) := (blk_cell BK145.out 1).trans rfl
                  have hcz42_2 : w18.cell? ⟨gb145, 2, none⟩ = some (.string t143) := (blk_cell BK145.out 2).trans rfl
                  have hfz42_0 := blk_frozen BK145.out 0
                  have hfz42_1 := blk_frozen BK145.out 1
                  have hfz42_2 := blk_frozen BK145.out 2
                  have hnb43 := NB153_158.out
                  have hnc43 := NB158_153.out
                  have hcz44_0 : w18.cell? ⟨gb153, 0, none⟩ = some (.int .i64 t149) := (blk_cell BK153.out 0).trans rfl
                  have hcz44_1 : w18.cell? ⟨gb153, 1, none⟩ = some (.int .i64 t150) := (blk_cell BK153.out 1).trans rfl
                  have hcz44_2 : w18.cell? ⟨gb153, 2, none⟩ = some (.string t151) := (blk_cell BK153.out 2).trans rfl
                  have hfz44_0 := blk_frozen BK153.out 0
                  have hfz44_1 := blk_frozen BK153.out 1
                  have hfz44_2 := blk_frozen BK153.out 2
                  go_wp2
                  go_meet
                  case rel => exact ⟨_, (true), (by first | rfl | (simp; done) | (simp [*]; done)), H', ⟨by first | omega | exact Nat.le_refl _⟩, ⟨by (with_reducible repeat (first | refine blk_drewN ?_ _ | refine blk_drew ?_ | refine blk_alloc ?_ _)); refine blk_far ?_ NB145_158.out _; (with_reducible repeat (first | refine blk_drewN ?_ _ | refine blk_drew ?_ | refine blk_alloc ?_ _)); refine blk_far ?_ NB145_158.out _; (with_reducible repeat (first | refine blk_drewN ?_ _ | refine blk_drew ?_ | refine blk_alloc ?_ _)); refine blk_far ?_ NB145_158.out _; (with_reducible repeat (first | refine blk_drewN ?_ _ | refine blk_drew ?_ | refine blk_alloc ?_ _)); exact BK145.out⟩, ⟨by (with_reducible repeat (first | refine blk_drewN ?_ _ | refine blk_drew ?_ | refine blk_alloc ?_ _)); refine blk_far ?_ NB153_158.out _; (with_reducible repeat (first | refine blk_drewN ?_ _ | refine blk_drew ?_ | refine blk_alloc ?_ _)); refine blk_far ?_ NB153_158.out _; (with_reducible repeat (first | refine blk_drewN ?_ _ | refine blk_drew ?_ | refine blk_alloc ?_ _)); refine blk_far ?_ NB153_158.out _; (with_reducible repeat (first | refine blk_drewN ?_ _ | refine blk_drew ?_ | refine blk_alloc ?_ _)); exact BK153.out⟩, ⟨by (with_reducible repeat (first | refine blk_drewN ?_ _ | refine blk_drew ?_ | refine blk_alloc ?_ _)); refine blk_put (cs := #[.int .i64 t154, .int .i64 t155, .string (⟨#[]⟩ : ByteArray)]) ?_ 2 _ rfl; (with_reducible repeat (first | refine blk_drewN ?_ _ | refine blk_drew ?_ | refine blk_alloc ?_ _)); refine blk_put (cs := #[.int .i64 t154, .int .i64 0, .string (⟨#[]⟩ : ByteArray)]) ?_ 1 _ rfl; (with_reducible repeat (first | refine blk_drewN ?_ _ | refine blk_drew ?_ | refine blk_alloc ?_ _)); refine blk_put (cs := #[.int .i64 0, .int .i64 0, .string (⟨#[]⟩ : ByteArray)]) ?_ 0 _ rfl; (with_reducible repeat (first | refine blk_drewN ?_ _ | refine blk_drew ?_ | refine blk_alloc ?_ _)); exact BK158.out⟩, ⟨by repeat (first | (with_reducible first | exact HB.out | apply below_alloc | apply pw_below_drewN | apply below_drew1 | refine below_set ?_ GE145.out | refine below_set ?_ GE153.out | refine below_set ?_ GE158.out) | exact HB.out)⟩⟩
                · rw [if_neg c39] at H
                  have c39b0 : decide (2147483648 ≤ t150) = false := decide_eq_false c39
                  clear c39
                  have H' := Aside0.mk H
                  clear H
                  have hnb45 := NB145_153.out
                  have hnc45 := NB153_145.out
                  have hnb46 := NB145_158.out
                  have hnc46 := NB158_145.out
                  have hcz47_0 : w18.cell? ⟨gb145, 0, none⟩ = some (.int .i64 t141) := (blk_cell BK145.out 0).trans rfl
                  have hcz47_1 : w18.cell? ⟨gb145, 1, none⟩ = some (.int .i64 t142) := (blk_cell BK145.out 1).trans rfl
                  have hcz47_2 : w18.cell? ⟨gb145, 2, none⟩ = some (.string t143) := (blk_cell BK145.out 2).trans rfl
                  have hfz47_0 := blk_frozen BK145.out 0
                  have hfz47_1 := blk_frozen BK145.out 1
                  have hfz47_2 := blk_frozen BK145.out 2
                  have hnb48 := NB153_158.out
                  have hnc48 := NB158_153.out
                  have hcz49_0 : w18.cell? ⟨gb153, 0, none⟩ = some (.int .i64 t149) := (blk_cell BK153.out 0).trans rfl
                  have hcz49_1 : w18.cell? ⟨gb153, 1, none⟩ = some (.int .i64 t150) := (blk_cell BK153.out 1).trans rfl
                  have hcz49_2 : w18.cell? ⟨gb153, 2, none⟩ = some (.string t151) := (blk_cell BK153.out 2).trans rfl
                  have hfz49_0 := blk_frozen BK153.out 0
                  have hfz49_1 := blk_frozen BK153.out 1
                  have hfz49_2 := blk_frozen BK153.out 2
                  have hcz50_0 : w18.cell? ⟨gb158, 0, none⟩ = some (.int .i64 0) := (blk_cell BK158.out 0).trans rfl
                  have hcz50_1 : w18.cell? ⟨gb158, 1, none⟩ = some (.int .i64 0) := (blk_cell BK158.out 1).trans rfl
                  have hcz50_2 : w18.cell? ⟨gb158, 2, none⟩ = some (.string (⟨#[]⟩ : ByteArray)) := (blk_cell BK158.out 2).trans rfl
                  have hfz50_0 := blk_frozen BK158.out 0
                  have hfz50_1 := blk_frozen BK158.out 1
                  have hfz50_2 := blk_frozen BK158.out 2
                  go_wp2
                  go_meet
                  case rel => exact ⟨_, ((t155 != t142)), (by first | rfl | (simp; done) | (simp [*]; done)), H', ⟨by first | omega | exact Nat.le_refl _⟩, ⟨by (with_reducible repeat (first | refine blk_drewN ?_ _ | refine blk_drew ?_ | refine blk_alloc ?_ _)); refine blk_far ?_ NB145_158.out _; (with_reducible repeat (first | refine blk_drewN ?_ _ | refine blk_drew ?_ | refine blk_alloc ?_ _)); refine blk_far ?_ NB145_158.out _; (with_reducible repeat (first | refine blk_drewN ?_ _ | refine blk_drew ?_ | refine blk_alloc ?_ _)); refine blk_far ?_ NB145_158.out _; (with_reducible repeat (first | refine blk_drewN ?_ _ | refine blk_drew ?_ | refine blk_alloc ?_ _)); exact BK145.out⟩, ⟨by (with_reducible repeat (first | refine blk_drewN ?_ _ | refine blk_drew ?_ | refine blk_alloc ?_ _)); refine blk_far ?_ NB153_158.out _; (with_reducible repeat (first | refine blk_drewN ?_ _ | refine blk_drew ?_ | refine blk_alloc ?_ _)); refine blk_far ?_ NB153_158.out _; (with_reducible repeat (first | refine blk_drewN ?_ _ | refine blk_drew ?_ | refine blk_alloc ?_ _)); refine blk_far ?_ NB153_158.out _; (with_reducible repeat (first | refine blk_drewN ?_ _ | refine blk_drew ?_ | refine blk_alloc ?_ _)); exact BK153.out⟩, ⟨by (with_reducible repeat (first | refine blk_drewN ?_ _ | refine blk_drew ?_ | refine blk_alloc ?_ _)); refine blk_put (cs := #[.int .i64 t154, .int .i64 t155, .string (⟨#[]⟩ : ByteArray)]) ?_ 2 _ rfl; (with_reducible repeat (first | refine blk_drewN ?_ _ | refine blk_drew ?_ | refine blk_alloc ?_ _)); refine blk_put (cs := #[.int .i64 t154, .int .i64 0, .string (⟨#[]⟩ : ByteArray)]) ?_ 1 _ rfl; (with_reducible repeat (first | refine blk_drewN ?_ _ | refine blk_drew ?_ | refine blk_alloc ?_ _)); refine blk_put (cs := #[.int .i64 0, .int .i64 0, .string (⟨#[]⟩ : ByteArray)]) ?_ 0 _ rfl; (with_reducible repeat (first | refine blk_drewN ?_ _ | refine blk_drew ?_ | refine blk_alloc ?_ _)); exact BK158.out⟩, ⟨by repeat (first | (with_reducible first | exact HB.out | apply below_alloc | apply pw_below_drewN | apply below_drew1 | refine below_set ?_ GE145.out | refine below_set ?_ GE153.out | refine below_set ?_ GE158.out) | exact HB.out)⟩⟩
        · rw [if_neg c24] at H
          have c24b0 : (t157 == 0) = false := beq_eq_false_iff_ne.mpr c24
          have c24b1 : (t157 != 0) = true := bne_iff_ne.mpr c24
          have H' := Aside0.mk H
          clear H
          go_wp2
          go_meet
          case rel => exact ⟨_, (true), (by first | rfl | (simp; done) | (simp [*]; done)), H', ⟨by first | omega | exact Nat.le_refl _⟩, ⟨by (with_reducible repeat (first | refine blk_drewN ?_ _ | refine blk_drew ?_ | refine blk_alloc ?_ _)); refine blk_far ?_ NB145_158.out _; (with_reducible repeat (first | refine blk_drewN ?_ _ | refine blk_drew ?_ | refine blk_alloc ?_ _)); refine blk_far ?_ NB145_158.out _; (with_reducible repeat (first | refine blk_drewN ?_ _ | refine blk_drew ?_ | refine blk_alloc ?_ _)); refine blk_far ?_ NB145_158.out _; (with_reducible repeat (first | refine blk_drewN ?_ _ | refine blk_drew ?_ | refine blk_alloc ?_ _)); exact BK145.out⟩, ⟨by (with_reducible repeat (first | refine blk_drewN ?_ _ | refine blk_drew ?_ | refine blk_alloc ?_ _)); refine blk_far ?_ NB153_158.out _; (with_reducible repeat (first | refine blk_drewN ?_ _ | refine blk_drew ?_ | refine blk_alloc ?_ _)); refine blk_far ?_ NB153_158.out _; (with_reducible repeat (first | refine blk_drewN ?_ _ | refine blk_drew ?_ | refine blk_alloc ?_ _)); refine blk_far ?_ NB153_158.out _; (with_reducible repeat (first | refine blk_drewN ?_ _ | refine blk_drew ?_ | refine blk_alloc ?_ _)); exact BK153.out⟩, ⟨by (with_reducible repeat (first | refine blk_drewN ?_ _ | refine blk_drew ?_ | refine blk_alloc ?_ _)); refine blk_put (cs := #[.int .i64 t154, .int .i64 t155, .string (⟨#[]⟩ : ByteArray)]) ?_ 2 _ rfl; (with_reducible repeat (first | refine blk_drewN ?_ _ | refine blk_drew ?_ | refine blk_alloc ?_ _)); refine blk_put (cs := #[.int .i64 t154, .int .i64 0, .string (⟨#[]⟩ : ByteArray)]) ?_ 1 _ rfl; (with_reducible repeat (first | refine blk_drewN ?_ _ | refine blk_drew ?_ | refine blk_alloc ?_ _)); refine blk_put (cs := #[.int .i64 0, .int .i64 0, .string (⟨#[]⟩ : ByteArray)]) ?_ 0 _ rfl; (with_reducible repeat (first | refine blk_drewN ?_ _ | refine blk_drew ?_ | refine blk_alloc ?_ _)); exact BK158.out⟩, ⟨by repeat (first | (with_reducible first | exact HB.out | apply below_alloc | apply pw_below_drewN | apply below_drew1 | refine below_set ?_ GE145.out | refine below_set ?_ GE153.out | refine below_set ?_ GE158.out) | exact HB.out)⟩⟩
      · rw [if_neg c23] at H
        have c23b0 : (t152 == 0) = false := beq_eq_false_iff_ne.mpr c23
        have c23b1 : (t152 != 0) = true := bne_iff_ne.mpr c23
        have H' := Aside0.mk H
        clear H
        go_wp2
        go_meet
        case rel => exact ⟨_, (true), (by first | rfl | (simp; done) | (simp [*]; done)), H', ⟨by first | omega | exact Nat.le_refl _⟩, ⟨by (with_reducible repeat (first | refine blk_drewN ?_ _ | refine blk_drew ?_ | refine blk_alloc ?_ _)); refine blk_far ?_ NB145_158.out _; (with_reducible repeat (first | refine blk_drewN ?_ _ | refine blk_drew ?_ | refine blk_alloc ?_ _)); refine blk_far ?_ NB145_158.out _; (with_reducible repeat (first | refine blk_drewN ?_ _ | refine blk_drew ?_ | refine blk_alloc ?_ _)); refine blk_far ?_ NB145_158.out _; (with_reducible repeat (first | refine blk_drewN ?_ _ | refine blk_drew ?_ | refine blk_alloc ?_ _)); exact BK145.out⟩, ⟨by (with_reducible repeat (first | refine blk_drewN ?_ _ | refine blk_drew ?_ | refine blk_alloc ?_ _)); refine blk_far ?_ NB153_158.out _; (with_reducible repeat (first | refine blk_drewN ?_ _ | refine blk_drew ?_ | refine blk_alloc ?_ _)); refine blk_far ?_ NB153_158.out _; (with_reducible repeat (first | refine blk_drewN ?_ _ | refine blk_drew ?_ | refine blk_alloc ?_ _)); refine blk_far ?_ NB153_158.out _; (with_reducible repeat (first | refine blk_drewN ?_ _ | refine blk_drew ?_ | refine blk_alloc ?_ _)); exact BK153.out⟩, ⟨by (with_reducible repeat (first | refine blk_drewN ?_ _ | refine blk_drew ?_ | refine blk_alloc ?_ _)); refine blk_put (cs := #[.int .i64 t154, .int .i64 t155, .string (⟨#[]⟩ : ByteArray)]) ?_ 2 _ rfl; (with_reducible repeat (first | refine blk_drewN ?_ _ | refine blk_drew ?_ | refine blk_alloc ?_ _)); refine blk_put (cs := #[.int .i64 t154, .int .i64 0, .string (⟨#[]⟩ : ByteArray)]) ?_ 1 _ rfl; (with_reducible repeat (first | refine blk_drewN ?_ _ | refine blk_drew ?_ | refine blk_alloc ?_ _)); refine blk_put (cs := #[.int .i64 0, .int .i64 0, .string (⟨#[]⟩ : ByteArray)]) ?_ 0 _ rfl; (with_reducible repeat (first | refine blk_drewN ?_ _ | refine blk_drew ?_ | refine blk_alloc ?_ _)); exact BK158.out⟩, ⟨by repeat (first | (with_reducible first | exact HB.out | apply below_alloc | apply pw_below_drewN | apply below_drew1 | refine below_set ?_ GE145.out | refine below_set ?_ GE153.out | refine below_set ?_ GE158.out) | exact HB.out)⟩⟩
    · rw [if_neg c22] at H
      have c22b0 : (t144 == 0) = false := beq_eq_false_iff_ne.mpr c22
      have c22b1 : (t144 != 0) = true := bne_iff_ne.mpr c22
      (first | rw [c22b0] | (simp only [i64_w, i32_w]; rw [c22b0]) | skip)
      have H' := Aside0.mk H
      clear H
      go_wp2
      go_meet
      case rel => exact ⟨_, (true), (by first | rfl | (simp; done) | (simp [*]; done)), H', ⟨by first | omega | exact Nat.le_refl _⟩, ⟨by (with_reducible repeat (first | refine blk_drewN ?_ _ | refine blk_drew ?_ | refine blk_alloc ?_ _)); refine blk_far ?_ NB145_158.out _; (with_reducible repeat (first | refine blk_drewN ?_ _ | refine blk_drew ?_ | refine blk_alloc ?_ _)); refine blk_far ?_ NB145_158.out _; (with_reducible repeat (first | refine blk_drewN ?_ _ | refine blk_drew ?_ | refine blk_alloc ?_ _)); refine blk_far ?_ NB145_158.out _; (with_reducible repeat (first | refine blk_drewN ?_ _ | refine blk_drew ?_ | refine blk_alloc ?_ _)); exact BK145.out⟩, ⟨by (with_reducible repeat (first | refine blk_drewN ?_ _ | refine blk_drew ?_ | refine blk_alloc ?_ _)); refine blk_far ?_ NB153_158.out _; (with_reducible repeat (first | refine blk_drewN ?_ _ | refine blk_drew ?_ | refine blk_alloc ?_ _)); refine blk_far ?_ NB153_158.out _; (with_reducible repeat (first | refine blk_drewN ?_ _ | refine blk_drew ?_ | refine blk_alloc ?_ _)); refine blk_far ?_ NB153_158.out _; (with_reducible repeat (first | refine blk_drewN ?_ _ | refine blk_drew ?_ | refine blk_alloc ?_ _)); exact BK153.out⟩, ⟨by (with_reducible repeat (first | refine blk_drewN ?_ _ | refine blk_drew ?_ | refine blk_alloc ?_ _)); refine blk_put (cs := #[.int .i64 t154, .int .i64 t155, .string (⟨#[]⟩ : ByteArray)]) ?_ 2 _ rfl; (with_reducible repeat (first | refine blk_drewN ?_ _ | refine blk_drew ?_ | refine blk_alloc ?_ _)); refine blk_put (cs := #[.int .i64 t154, .int .i64 0, .string (⟨#[]⟩ : ByteArray)]) ?_ 1 _ rfl; (with_reducible repeat (first | refine blk_drewN ?_ _ | refine blk_drew ?_ | refine blk_alloc ?_ _)); refine blk_put (cs := #[.int .i64 0, .int .i64 0, .string (⟨#[]⟩ : ByteArray)]) ?_ 0 _ rfl; (with_reducible repeat (first | refine blk_drewN ?_ _ | refine blk_drew ?_ | refine blk_alloc ?_ _)); exact BK158.out⟩, ⟨by repeat (first | (with_reducible first | exact HB.out | apply below_alloc | apply pw_below_drewN | apply below_drew1 | refine below_set ?_ GE145.out | refine below_set ?_ GE153.out | refine below_set ?_ GE158.out) | exact HB.out)⟩⟩
  case rest =>
    clear HC7
    try clear c1
    try clear c2
    try clear p2
    try clear c3
    try clear c4
    try clear c6
    try clear c15
    try clear c16
    try clear c19
    try clear c20
    try clear c22
    try clear c22b0
    try clear c22b1
    try clear c23
    try clear c23b0
    try clear c23b1
    try clear c24
    try clear c24b0
    try clear c24b1
    try clear c25
    try clear c25b0
    try clear c26
    try clear c27
    try clear c29
    try clear c29b0
    try clear c30
    try clear c31
    try clear c33
    try clear c33b0
    try clear c34
    try clear c35
    try clear c37
    try clear c39
    try clear c39b0
    try clear c40
    try clear c41
    try clear c43
    try clear c45
    try clear c46
    try clear c48
    try clear hcz11_0
    try clear hcz11_1
    try clear hcz11_2
    try clear hcz16_0
    try clear hcz16_1
    try clear hcz16_2
    try clear hcz21_0
    try clear hcz21_1
    try clear hcz21_2
    try clear hcz28_0
    try clear hcz28_1
    try clear hcz28_2
    try clear hcz32_0
    try clear hcz32_1
    try clear hcz32_2
    try clear hcz36_0
    try clear hcz36_1
    try clear hcz36_2
    try clear hcz38_0
    try clear hcz38_1
    try clear hcz38_2
    try clear hcz42_0
    try clear hcz42_1
    try clear hcz42_2
    try clear hcz44_0
    try clear hcz44_1
    try clear hcz44_2
    try clear hcz47_0
    try clear hcz47_1
    try clear hcz47_2
    try clear hcz49_0
    try clear hcz49_1
    try clear hcz49_2
    try clear hcz50_0
    try clear hcz50_1
    try clear hcz50_2
    try clear hfz11_0
    try clear hfz11_1
    try clear hfz11_2
    try clear hfz16_0
    try clear hfz16_1
    try clear hfz16_2
    try clear hfz21_0
    try clear hfz21_1
    try clear hfz21_2
    try clear hfz28_0
    try clear hfz28_1
    try clear hfz28_2
    try clear hfz32_0
    try clear hfz32_1
    try clear hfz32_2
    try clear hfz36_0
    try clear hfz36_1
    try clear hfz36_2
    try clear hfz38_0
    try clear hfz38_1
    try clear hfz38_2
    try clear hfz42_0
    try clear hfz42_1
    try clear hfz42_2
    try clear hfz44_0
    try clear hfz44_1
    try clear hfz44_2
    try clear hfz47_0
    try clear hfz47_1
    try clear hfz47_2
    try clear hfz49_0
    try clear hfz49_1
    try clear hfz49_2
    try clear hfz50_0
    try clear hfz50_1
    try clear hfz50_2
    obtain ⟨kq, x62_6, rfl, HA, HJ6, BK145, BK153, BK158, HB⟩ := hcut
    cases kq with
    | zero => exact absurd HA.out (by simp [umlautlaw13_CastWidths.j0])
    | succ kj6 =>
      have H := HA.out
      clear HA
      simp only [umlautlaw13_CastWidths.j0] at H
      by_cases c51 : x62_6 = true
      · subst c51
        have H1 : (some false) = some r := by rw [if_pos rfl] at H; exact H
        clear H
        have H := H1
        clear H1
        exact absurd (H.trans (congrArg some HT.out)) (by decide)
      · replace c51 := Bool.eq_false_iff.mpr c51
        subst c51
        have H1 : (if a0 ≥ 0 then (if a0 ≤ 255 then (if t142 = a0 then (if a0 ≥ (-2147483648) then (if a0 < 2147483648 then (if t150 = a0 then (if (Int.tmod (wrap64 (a0 - t150)) 4294967296) = 0 then (if (Go.bits .and .u64 (IntKind.u64.wrap (a0)) 255) = (IntKind.u64.wrap (t142)) then ((XC.umlautlaw13_awake.f kj6).bind fun t159 => (some t159)) else (some false)) else (some false)) else (some false)) else (if (Int.tmod (wrap64 (a0 - t150)) 4294967296) = 0 then (if (Go.bits .and .u64 (IntKind.u64.wrap (a0)) 255) = (IntKind.u64.wrap (t142)) then ((XC.umlautlaw13_awake.f kj6).bind fun t160 => (some t160)) else (some false)) else (some false))) else (if (Int.tmod (wrap64 (a0 - t150)) 4294967296) = 0 then (if (Go.bits .and .u64 (IntKind.u64.wrap (a0)) 255) = (IntKind.u64.wrap (t142)) then ((XC.umlautlaw13_awake.f kj6).bind fun t161 => (some t161)) else (some false)) else (some false))) else (some false)) else (if a0 ≥ (-2147483648) then (if a0 < 2147483648 then (if t150 = a0 then (if (Int.tmod (wrap64 (a0 - t150)) 4294967296) = 0 then (if (Go.bits .and .u64 (IntKind.u64.wrap (a0)) 255) = (IntKind.u64.wrap (t142)) then ((XC.umlautlaw13_awake.f kj6).bind fun t162 => (some t162)) else (some false)) else (some false)) else (some false)) else (if (Int.tmod (wrap64 (a0 - t150)) 4294967296) = 0 then (if (Go.bits .and .u64 (IntKind.u64.wrap (a0)) 255) = (IntKind.u64.wrap (t142)) then ((XC.umlautlaw13_awake.f kj6).bind fun t163 => (some t163)) else (some false)) else (some false))) else (if (Int.tmod (wrap64 (a0 - t150)) 4294967296) = 0 then (if (Go.bits .and .u64 (IntKind.u64.wrap (a0)) 255) = (IntKind.u64.wrap (t142)) then ((XC.umlautlaw13_awake.f kj6).bind fun t164 => (some t164)) else (some false)) else (some false)))) else (if a0 ≥ (-2147483648) then (if a0 < 2147483648 then (if t150 = a0 then (if (Int.tmod (wrap64 (a0 - t150)) 4294967296) = 0 then (if (Go.bits .and .u64 (IntKind.u64.wrap (a0)) 255) = (IntKind.u64.wrap (t142)) then ((XC.umlautlaw13_awake.f kj6).bind fun t165 => (some t165)) else (some false)) else (some false)) else (some false)) else (if (Int.tmod (wrap64 (a0 - t150)) 4294967296) = 0 then (if (Go.bits .and .u64 (IntKind.u64.wrap (a0)) 255) = (IntKind.u64.wrap (t142)) then ((XC.umlautlaw13_awake.f kj6).bind fun t166 => (some t166)) else (some false)) else (some false))) else (if (Int.tmod (wrap64 (a0 - t150)) 4294967296) = 0 then (if (Go.bits .and .u64 (IntKind.u64.wrap (a0)) 255) = (IntKind.u64.wrap (t142)) then ((XC.umlautlaw13_awake.f kj6).bind fun t167 => (some t167)) else (some false)) else (some false)))) = some r := by rw [if_neg (show ¬ (false = true) by decide)] at H; exact H
        clear H
        have H := H1
        clear H1
        by_cases c52 : a0 ≥ 0
        · rw [if_pos c52] at H
          have c52b0 : decide (0 ≤ a0) = true := decide_eq_true c52
          clear c52
          by_cases c53 : a0 ≤ 255
          · rw [if_pos c53] at H
            have c53b0 : decide (a0 ≤ 255) = true := decide_eq_true c53
            clear c53
            by_cases c54 : t142 = a0
            · rw [if_pos c54] at H
              have c54b0 : (t142 == a0) = true := beq_iff_eq.mpr c54
              have c54b1 : (t142 != a0) = false := bne_eq_false_iff_eq.mpr c54
              clear c54
              by_cases c55 : a0 ≥ (-2147483648)
              · rw [if_pos c55] at H
                have c55b0 : decide ((-2147483648) ≤ a0) = true := decide_eq_true c55
                clear c55
                by_cases c56 : a0 < 2147483648
                · rw [if_pos c56] at H
                  have c56b0 : decide (a0 < 2147483648) = true := decide_eq_true c56
                  clear c56
                  by_cases c57 : t150 = a0
                  · rw [if_pos c57] at H
                    have c57b0 : (t150 == a0) = true := beq_iff_eq.mpr c57
                    have c57b1 : (t150 != a0) = false := bne_eq_false_iff_eq.mpr c57
                    clear c57
                    by_cases c58 : (Int.tmod (wrap64 (a0 - t150)) 4294967296) = 0
                    · rw [if_pos c58] at H
                      have c58b0 : ((Int.tmod (wrap64 (a0 - t150)) 4294967296) == 0) = true := beq_iff_eq.mpr c58
                      have c58b1 : ((Int.tmod (wrap64 (a0 - t150)) 4294967296) != 0) = false := bne_eq_false_iff_eq.mpr c58
                      clear c58
                      by_cases c59 : (Go.bits .and .u64 (IntKind.u64.wrap (a0)) 255) = (IntKind.u64.wrap (t142))
                      · rw [if_pos c59] at H
                        have c59b0 : ((Go.bits .and .u64 (IntKind.u64.wrap (a0)) 255) == (IntKind.u64.wrap (t142))) = true := beq_iff_eq.mpr c59
                        have c59b1 : ((Go.bits .and .u64 (IntKind.u64.wrap (a0)) 255) != (IntKind.u64.wrap (t142))) = false := bne_eq_false_iff_eq.mpr c59
                        clear c59
                        replace H := Option.bind_eq_some_iff.mp H
                        obtain ⟨t159, A600, H⟩ := H
                        replace H : (some t159) = some r := H
                        have A60 := Aside0.mk A600
                        clear A600
                        obtain rfl := Option.some.inj H
                        have hnb61 := NB145_153.out
                        have hnc61 := NB153_145.out
                        have hnb62 := NB145_158.out
                        have hnc62 := NB158_145.out
                        have hcz63_0 : wc.cell? ⟨gb145, 0, none⟩ = some (.int .i64 t141) := (blk_cell BK145.out 0).trans rfl
                        have hcz63_1 : wc.cell? ⟨gb145, 1, none⟩ = some (.int .i64 t142) := (blk_cell BK145.out 1).trans rfl
                        have hcz63_2 : wc.cell? ⟨gb145, 2, none⟩ = some (.string t143) := (blk_cell BK145.out 2).trans rfl
                        have hfz63_0 := blk_frozen BK145.out 0
                        have hfz63_1 := blk_frozen BK145.out 1
                        have hfz63_2 := blk_frozen BK145.out 2
                        have hnb64 := NB153_158.out
                        have hnc64 := NB158_153.out
                        have hcz65_0 : wc.cell? ⟨gb153, 0, none⟩ = some (.int .i64 t149) := (blk_cell BK153.out 0).trans rfl
                        have hcz65_1 : wc.cell? ⟨gb153, 1, none⟩ = some (.int .i64 t150) := (blk_cell BK153.out 1).trans rfl
                        have hcz65_2 : wc.cell? ⟨gb153, 2, none⟩ = some (.string t151) := (blk_cell BK153.out 2).trans rfl
                        have hfz65_0 := blk_frozen BK153.out 0
                        have hfz65_1 := blk_frozen BK153.out 1
                        have hfz65_2 := blk_frozen BK153.out 2
                        go_wp2_with (first | (go_at_call 10; (with_reducible refine (XC.umlautlaw13_awake.calls kj6  t159 _ ?side1 A60.out).mono ?_); (case side1 => exact GW.below HG.out (by repeat (first | (with_reducible first | exact HB.out | apply below_alloc | apply pw_below_drewN | apply below_drew1 | refine below_set ?_ GE145.out | refine below_set ?_ GE153.out | refine below_set ?_ GE158.out) | exact HB.out))); rintro e w66 ⟨rfl, hb⟩; have n0_ := Aside0.mk (blk_below (g := gb145) (o := .cells #[.int .i64 t141, .int .i64 t142, .string t143] 24 (0, 0)) (by (with_reducible repeat (first | refine blk_drewN ?_ _ | refine blk_drew ?_ | refine blk_alloc ?_ _)); exact BK145.out) hb); have n1_ := Aside0.mk (blk_below (g := gb153) (o := .cells #[.int .i64 t149, .int .i64 t150, .string t151] 24 (0, 0)) (by (with_reducible repeat (first | refine blk_drewN ?_ _ | refine blk_drew ?_ | refine blk_alloc ?_ _)); exact BK153.out) hb); have n2_ := Aside0.mk (blk_below (g := gb158) (o := .cells #[.int .i64 t154, .int .i64 t155, .string t156] 24 (0, 0)) (by (with_reducible repeat (first | refine blk_drewN ?_ _ | refine blk_drew ?_ | refine blk_alloc ?_ _)); exact BK158.out) hb); have n3_ := Aside0.mk (below_step (by repeat (first | (with_reducible first | exact HB.out | apply below_alloc | apply pw_below_drewN | apply below_drew1 | refine below_set ?_ GE145.out | refine below_set ?_ GE153.out | refine below_set ?_ GE158.out) | exact HB.out)) hb); clear BK145; clear BK153; clear BK158; clear HB; have BK145 := n0_; have BK153 := n1_; have BK158 := n2_; have HB := n3_; clear n0_ n1_ n2_ n3_; (try clear hb); (try clear hb2); (try clear hk); (try clear hi)))
                        go_ret
                        exact ⟨by first | rfl | (simp [errW_none, errW_some] <;> rfl) | (simp [*, errW_none, errW_some] <;> rfl), by repeat (first | (with_reducible first | exact HB.out | apply below_alloc | apply pw_below_drewN | apply below_drew1 | refine below_set ?_ GE145.out | refine below_set ?_ GE153.out | refine below_set ?_ GE158.out) | exact HB.out)⟩
                      · rw [if_neg c59] at H
                        have c59b0 : ((Go.bits .and .u64 (IntKind.u64.wrap (a0)) 255) == (IntKind.u64.wrap (t142))) = false := beq_eq_false_iff_ne.mpr c59
                        have c59b1 : ((Go.bits .and .u64 (IntKind.u64.wrap (a0)) 255) != (IntKind.u64.wrap (t142))) = true := bne_iff_ne.mpr c59
                        exact absurd (H.trans (congrArg some HT.out)) (by decide)
                    · rw [if_neg c58] at H
                      have c58b0 : ((Int.tmod (wrap64 (a0 - t150)) 4294967296) == 0) = false := beq_eq_false_iff_ne.mpr c58
                      have c58b1 : ((Int.tmod (wrap64 (a0 - t150)) 4294967296) != 0) = true := bne_iff_ne.mpr c58
                      exact absurd (H.trans (congrArg some HT.out)) (by decide)
                  · rw [if_neg c57] at H
                    have c57b0 : (t150 == a0) = false := beq_eq_false_iff_ne.mpr c57
                    have c57b1 : (t150 != a0) = true := bne_iff_ne.mpr c57
                    exact absurd (H.trans (congrArg some HT.out)) (by decide)
                · rw [if_neg c56] at H
                  have c56b0 : decide (a0 < 2147483648) = false := decide_eq_false c56
                  clear c56
                  by_cases c67 : (Int.tmod (wrap64 (a0 - t150)) 4294967296) = 0
                  · rw [if_pos c67] at H
                    have c67b0 : ((Int.tmod (wrap64 (a0 - t150)) 4294967296) == 0) = true := beq_iff_eq.mpr c67
                    have c67b1 : ((Int.tmod (wrap64 (a0 - t150)) 4294967296) != 0) = false := bne_eq_false_iff_eq.mpr c67
                    clear c67
                    by_cases c68 : (Go.bits .and .u64 (IntKind.u64.wrap (a0)) 255) = (IntKind.u64.wrap (t142))
                    · rw [if_pos c68] at H
                      have c68b0 : ((Go.bits .and .u64 (IntKind.u64.wrap (a0)) 255) == (IntKind.u64.wrap (t142))) = true := beq_iff_eq.mpr c68
                      have c68b1 : ((Go.bits .and .u64 (IntKind.u64.wrap (a0)) 255) != (IntKind.u64.wrap (t142))) = false := bne_eq_false_iff_eq.mpr c68
                      clear c68
                      replace H := Option.bind_eq_some_iff.mp H
                      obtain ⟨t160, A690, H⟩ := H
                      replace H : (some t160) = some r := H
                      have A69 := Aside0.mk A690
                      clear A690
                      obtain rfl := Option.some.inj H
                      have hnb70 := NB145_153.out
                      have hnc70 := NB153_145.out
                      have hnb71 := NB145_158.out
                      have hnc71 := NB158_145.out
                      have hcz72_0 : wc.cell? ⟨gb145, 0, none⟩ = some (.int .i64 t141) := (blk_cell BK145.out 0).trans rfl
                      have hcz72_1 : wc.cell? ⟨gb145, 1, none⟩ = some (.int .i64 t142) := (blk_cell BK145.out 1).trans rfl
                      have hcz72_2 : wc.cell? ⟨gb145, 2, none⟩ = some (.string t143) := (blk_cell BK145.out 2).trans rfl
                      have hfz72_0 := blk_frozen BK145.out 0
                      have hfz72_1 := blk_frozen BK145.out 1
                      have hfz72_2 := blk_frozen BK145.out 2
                      have hnb73 := NB153_158.out
                      have hnc73 := NB158_153.out
                      have hcz74_0 : wc.cell? ⟨gb153, 0, none⟩ = some (.int .i64 t149) := (blk_cell BK153.out 0).trans rfl
                      have hcz74_1 : wc.cell? ⟨gb153, 1, none⟩ = some (.int .i64 t150) := (blk_cell BK153.out 1).trans rfl
                      have hcz74_2 : wc.cell? ⟨gb153, 2, none⟩ = some (.string t151) := (blk_cell BK153.out 2).trans rfl
                      have hfz74_0 := blk_frozen BK153.out 0
                      have hfz74_1 := blk_frozen BK153.out 1
                      have hfz74_2 := blk_frozen BK153.out 2
                      go_wp2_with (first | (go_at_call 10; (with_reducible refine (XC.umlautlaw13_awake.calls kj6  t160 _ ?side1 A69.out).mono ?_); (case side1 => exact GW.below HG.out (by repeat (first | (with_reducible first | exact HB.out | apply below_alloc | apply pw_below_drewN | apply below_drew1 | refine below_set ?_ GE145.out | refine below_set ?_ GE153.out | refine below_set ?_ GE158.out) | exact HB.out))); rintro e w75 ⟨rfl, hb⟩; have n0_ := Aside0.mk (blk_below (g := gb145) (o := .cells #[.int .i64 t141, .int .i64 t142, .string t143] 24 (0, 0)) (by (with_reducible repeat (first | refine blk_drewN ?_ _ | refine blk_drew ?_ | refine blk_alloc ?_ _)); exact BK145.out) hb); have n1_ := Aside0.mk (blk_below (g := gb153) (o := .cells #[.int .i64 t149, .int .i64 t150, .string t151] 24 (0, 0)) (by (with_reducible repeat (first | refine blk_drewN ?_ _ | refine blk_drew ?_ | refine blk_alloc ?_ _)); exact BK153.out) hb); have n2_ := Aside0.mk (blk_below (g := gb158) (o := .cells #[.int .i64 t154, .int .i64 t155, .string t156] 24 (0, 0)) (by (with_reducible repeat (first | refine blk_drewN ?_ _ | refine blk_drew ?_ | refine blk_alloc ?_ _)); exact BK158.out) hb); have n3_ := Aside0.mk (below_step (by repeat (first | (with_reducible first | exact HB.out | apply below_alloc | apply pw_below_drewN | apply below_drew1 | refine below_set ?_ GE145.out | refine below_set ?_ GE153.out | refine below_set ?_ GE158.out) | exact HB.out)) hb); clear BK145; clear BK153; clear BK158; clear HB; have BK145 := n0_; have BK153 := n1_; have BK158 := n2_; have HB := n3_; clear n0_ n1_ n2_ n3_; (try clear hb); (try clear hb2); (try clear hk); (try clear hi)))
                      go_ret
                      exact ⟨by first | rfl | (simp [errW_none, errW_some] <;> rfl) | (simp [*, errW_none, errW_some] <;> rfl), by repeat (first | (with_reducible first | exact HB.out | apply below_alloc | apply pw_below_drewN | apply below_drew1 | refine below_set ?_ GE145.out | refine below_set ?_ GE153.out | refine below_set ?_ GE158.out) | exact HB.out)⟩
                    · rw [if_neg c68] at H
                      have c68b0 : ((Go.bits .and .u64 (IntKind.u64.wrap (a0)) 255) == (IntKind.u64.wrap (t142))) = false := beq_eq_false_iff_ne.mpr c68
                      have c68b1 : ((Go.bits .and .u64 (IntKind.u64.wrap (a0)) 255) != (IntKind.u64.wrap (t142))) = true := bne_iff_ne.mpr c68
                      exact absurd (H.trans (congrArg some HT.out)) (by decide)
                  · rw [if_neg c67] at H
                    have c67b0 : ((Int.tmod (wrap64 (a0 - t150)) 4294967296) == 0) = false := beq_eq_false_iff_ne.mpr c67
                    have c67b1 : ((Int.tmod (wrap64 (a0 - t150)) 4294967296) != 0) = true := bne_iff_ne.mpr c67
                    exact absurd (H.trans (congrArg some HT.out)) (by decide)
              · rw [if_neg c55] at H
                have c55b0 : decide ((-2147483648) ≤ a0) = false := decide_eq_false c55
                clear c55
                by_cases c76 : (Int.tmod (wrap64 (a0 - t150)) 4294967296) = 0
                · rw [if_pos c76] at H
                  have c76b0 : ((Int.tmod (wrap64 (a0 - t150)) 4294967296) == 0) = true := beq_iff_eq.mpr c76
                  have c76b1 : ((Int.tmod (wrap64 (a0 - t150)) 4294967296) != 0) = false := bne_eq_false_iff_eq.mpr c76
                  clear c76
                  by_cases c77 : (Go.bits .and .u64 (IntKind.u64.wrap (a0)) 255) = (IntKind.u64.wrap (t142))
                  · rw [if_pos c77] at H
                    have c77b0 : ((Go.bits .and .u64 (IntKind.u64.wrap (a0)) 255) == (IntKind.u64.wrap (t142))) = true := beq_iff_eq.mpr c77
                    have c77b1 : ((Go.bits .and .u64 (IntKind.u64.wrap (a0)) 255) != (IntKind.u64.wrap (t142))) = false := bne_eq_false_iff_eq.mpr c77
                    clear c77
                    replace H := Option.bind_eq_some_iff.mp H
                    obtain ⟨t161, A780, H⟩ := H
                    replace H : (some t161) = some r := H
                    have A78 := Aside0.mk A780
                    clear A780
                    obtain rfl := Option.some.inj H
                    have hnb79 := NB145_153.out
                    have hnc79 := NB153_145.out
                    have hnb80 := NB145_158.out
                    have hnc80 := NB158_145.out
                    have hcz81_0 : wc.cell? ⟨gb145, 0, none⟩ = some (.int .i64 t141) := (blk_cell BK145.out 0).trans rfl
                    have hcz81_1 : wc.cell? ⟨gb145, 1, none⟩ = some (.int .i64 t142) := (blk_cell BK145.out 1).trans rfl
                    have hcz81_2 : wc.cell? ⟨gb145, 2, none⟩ = some (.string t143) := (blk_cell BK145.out 2).trans rfl
                    have hfz81_0 := blk_frozen BK145.out 0
                    have hfz81_1 := blk_frozen BK145.out 1
                    have hfz81_2 := blk_frozen BK145.out 2
                    have hnb82 := NB153_158.out
                    have hnc82 := NB158_153.out
                    have hcz83_0 : wc.cell? ⟨gb153, 0, none⟩ = some (.int .i64 t149) := (blk_cell BK153.out 0).trans rfl
                    have hcz83_1 : wc.cell? ⟨gb153, 1, none⟩ = some (.int .i64 t150) := (blk_cell BK153.out 1).trans rfl
                    have hcz83_2 : wc.cell? ⟨gb153, 2, none⟩ = some (.string t151) := (blk_cell BK153.out 2).trans rfl
                    have hfz83_0 := blk_frozen BK153.out 0
                    have hfz83_1 := blk_frozen BK153.out 1
                    have hfz83_2 := blk_frozen BK153.out 2
                    go_wp2_with (first | (go_at_call 10; (with_reducible refine (XC.umlautlaw13_awake.calls kj6  t161 _ ?side1 A78.out).mono ?_); (case side1 => exact GW.below HG.out (by repeat (first | (with_reducible first | exact HB.out | apply below_alloc | apply pw_below_drewN | apply below_drew1 | refine below_set ?_ GE145.out | refine below_set ?_ GE153.out | refine below_set ?_ GE158.out) | exact HB.out))); rintro e w84 ⟨rfl, hb⟩; have n0_ := Aside0.mk (blk_below (g := gb145) (o := .cells #[.int .i64 t141, .int .i64 t142, .string t143] 24 (0, 0)) (by (with_reducible repeat (first | refine blk_drewN ?_ _ | refine blk_drew ?_ | refine blk_alloc ?_ _)); exact BK145.out) hb); have n1_ := Aside0.mk (blk_below (g := gb153) (o := .cells #[.int .i64 t149, .int .i64 t150, .string t151] 24 (0, 0)) (by (with_reducible repeat (first | refine blk_drewN ?_ _ | refine blk_drew ?_ | refine blk_alloc ?_ _)); exact BK153.out) hb); have n2_ := Aside0.mk (blk_below (g := gb158) (o := .cells #[.int .i64 t154, .int .i64 t155, .string t156] 24 (0, 0)) (by (with_reducible repeat (first | refine blk_drewN ?_ _ | refine blk_drew ?_ | refine blk_alloc ?_ _)); exact BK158.out) hb); have n3_ := Aside0.mk (below_step (by repeat (first | (with_reducible first | exact HB.out | apply below_alloc | apply pw_below_drewN | apply below_drew1 | refine below_set ?_ GE145.out | refine below_set ?_ GE153.out | refine below_set ?_ GE158.out) | exact HB.out)) hb); clear BK145; clear BK153; clear BK158; clear HB; have BK145 := n0_; have BK153 := n1_; have BK158 := n2_; have HB := n3_; clear n0_ n1_ n2_ n3_; (try clear hb); (try clear hb2); (try clear hk); (try clear hi)))
                    go_ret
                    exact ⟨by first | rfl | (simp [errW_none, errW_some] <;> rfl) | (simp [*, errW_none, errW_some] <;> rfl), by repeat (first | (with_reducible first | exact HB.out | apply below_alloc | apply pw_below_drewN | apply below_drew1 | refine below_set ?_ GE145.out | refine below_set ?_ GE153.out | refine below_set ?_ GE158.out) | exact HB.out)⟩
                  · rw [if_neg c77] at H
                    have c77b0 : ((Go.bits .and .u64 (IntKind.u64.wrap (a0)) 255) == (IntKind.u64.wrap (t142))) = false := beq_eq_false_iff_ne.mpr c77
                    have c77b1 : ((Go.bits .and .u64 (IntKind.u64.wrap (a0)) 255) != (IntKind.u64.wrap (t142))) = true := bne_iff_ne.mpr c77
                    exact absurd (H.trans (congrArg some HT.out)) (by decide)
                · rw [if_neg c76] at H
                  have c76b0 : ((Int.tmod (wrap64 (a0 - t150)) 4294967296) == 0) = false := beq_eq_false_iff_ne.mpr c76
                  have c76b1 : ((Int.tmod (wrap64 (a0 - t150)) 4294967296) != 0) = true := bne_iff_ne.mpr c76
                  exact absurd (H.trans (congrArg some HT.out)) (by decide)
            · rw [if_neg c54] at H
              have c54b0 : (t142 == a0) = false := beq_eq_false_iff_ne.mpr c54
              have c54b1 : (t142 != a0) = true := bne_iff_ne.mpr c54
              exact absurd (H.trans (congrArg some HT.out)) (by decide)
          · rw [if_neg c53] at H
            have c53b0 : decide (a0 ≤ 255) = false := decide_eq_false c53
            clear c53
            by_cases c85 : a0 ≥ (-2147483648)
            · rw [if_pos c85] at H
              have c85b0 : decide ((-2147483648) ≤ a0) = true := decide_eq_true c85
              clear c85
              by_cases c86 : a0 < 2147483648
              · rw [if_pos c86] at H
                have c86b0 : decide (a0 < 2147483648) = true := decide_eq_true c86
                clear c86
                by_cases c87 : t150 = a0
                · rw [if_pos c87] at H
                  have c87b0 : (t150 == a0) = true := beq_iff_eq.mpr c87
                  have c87b1 : (t150 != a0) = false := bne_eq_false_iff_eq.mpr c87
                  clear c87
                  by_cases c88 : (Int.tmod (wrap64 (a0 - t150)) 4294967296) = 0
                  · rw [if_pos c88] at H
                    have c88b0 : ((Int.tmod (wrap64 (a0 - t150)) 4294967296) == 0) = true := beq_iff_eq.mpr c88
                    have c88b1 : ((Int.tmod (wrap64 (a0 - t150)) 4294967296) != 0) = false := bne_eq_false_iff_eq.mpr c88
                    clear c88
                    by_cases c89 : (Go.bits .and .u64 (IntKind.u64.wrap (a0)) 255) = (IntKind.u64.wrap (t142))
                    · rw [if_pos c89] at H
                      have c89b0 : ((Go.bits .and .u64 (IntKind.u64.wrap (a0)) 255) == (IntKind.u64.wrap (t142))) = true := beq_iff_eq.mpr c89
                      have c89b1 : ((Go.bits .and .u64 (IntKind.u64.wrap (a0)) 255) != (IntKind.u64.wrap (t142))) = false := bne_eq_false_iff_eq.mpr c89
                      clear c89
                      replace H := Option.bind_eq_some_iff.mp H
                      obtain ⟨t162, A900, H⟩ := H
                      replace H : (some t162) = some r := H
                      have A90 := Aside0.mk A900
                      clear A900
                      obtain rfl := Option.some.inj H
                      have hnb91 := NB153_145.out
                      have hnc91 := NB145_153.out
                      have hnb92 := NB153_158.out
                      have hnc92 := NB158_153.out
                      have hcz93_0 : wc.cell? ⟨gb153, 0, none⟩ = some (.int .i64 t149) := (blk_cell BK153.out 0).trans rfl
                      have hcz93_1 : wc.cell? ⟨gb153, 1, none⟩ = some (.int .i64 t150) := (blk_cell BK153.out 1).trans rfl
                      have hcz93_2 : wc.cell? ⟨gb153, 2, none⟩ = some (.string t151) := (blk_cell BK153.out 2).trans rfl
                      have hfz93_0 := blk_frozen BK153.out 0
                      have hfz93_1 := blk_frozen BK153.out 1
                      have hfz93_2 := blk_frozen BK153.out 2
                      have hnb94 := NB145_158.out
                      have hnc94 := NB158_145.out
                      have hcz95_0 : wc.cell? ⟨gb145, 0, none⟩ = some (.int .i64 t141) := (blk_cell BK145.out 0).trans rfl
                      have hcz95_1 : wc.cell? ⟨gb145, 1, none⟩ = some (.int .i64 t142) := (blk_cell BK145.out 1).trans rfl
                      have hcz95_2 : wc.cell? ⟨gb145, 2, none⟩ = some (.string t143) := (blk_cell BK145.out 2).trans rfl
                      have hfz95_0 := blk_frozen BK145.out 0
                      have hfz95_1 := blk_frozen BK145.out 1
                      have hfz95_2 := blk_frozen BK145.out 2
                      go_wp2_with (first | (go_at_call 10; (with_reducible refine (XC.umlautlaw13_awake.calls kj6  t162 _ ?side1 A90.out).mono ?_); (case side1 => exact GW.below HG.out (by repeat (first | (with_reducible first | exact HB.out | apply below_alloc | apply pw_below_drewN | apply below_drew1 | refine below_set ?_ GE145.out | refine below_set ?_ GE153.out | refine below_set ?_ GE158.out) | exact HB.out))); rintro e w96 ⟨rfl, hb⟩; have n0_ := Aside0.mk (blk_below (g := gb145) (o := .cells #[.int .i64 t141, .int .i64 t142, .string t143] 24 (0, 0)) (by (with_reducible repeat (first | refine blk_drewN ?_ _ | refine blk_drew ?_ | refine blk_alloc ?_ _)); exact BK145.out) hb); have n1_ := Aside0.mk (blk_below (g := gb153) (o := .cells #[.int .i64 t149, .int .i64 t150, .string t151] 24 (0, 0)) (by (with_reducible repeat (first | refine blk_drewN ?_ _ | refine blk_drew ?_ | refine blk_alloc ?_ _)); exact BK153.out) hb); have n2_ := Aside0.mk (blk_below (g := gb158) (o := .cells #[.int .i64 t154, .int .i64 t155, .string t156] 24 (0, 0)) (by (with_reducible repeat (first | refine blk_drewN ?_ _ | refine blk_drew ?_ | refine blk_alloc ?_ _)); exact BK158.out) hb); have n3_ := Aside0.mk (below_step (by repeat (first | (with_reducible first | exact HB.out | apply below_alloc | apply pw_below_drewN | apply below_drew1 | refine below_set ?_ GE145.out | refine below_set ?_ GE153.out | refine below_set ?_ GE158.out) | exact HB.out)) hb); clear BK145; clear BK153; clear BK158; clear HB; have BK145 := n0_; have BK153 := n1_; have BK158 := n2_; have HB := n3_; clear n0_ n1_ n2_ n3_; (try clear hb); (try clear hb2); (try clear hk); (try clear hi)))
                      go_ret
                      exact ⟨by first | rfl | (simp [errW_none, errW_some] <;> rfl) | (simp [*, errW_none, errW_some] <;> rfl), by repeat (first | (with_reducible first | exact HB.out | apply below_alloc | apply pw_below_drewN | apply below_drew1 | refine below_set ?_ GE145.out | refine below_set ?_ GE153.out | refine below_set ?_ GE158.out) | exact HB.out)⟩
                    · rw [if_neg c89] at H
                      have c89b0 : ((Go.bits .and .u64 (IntKind.u64.wrap (a0)) 255) == (IntKind.u64.wrap (t142))) = false := beq_eq_false_iff_ne.mpr c89
                      have c89b1 : ((Go.bits .and .u64 (IntKind.u64.wrap (a0)) 255) != (IntKind.u64.wrap (t142))) = true := bne_iff_ne.mpr c89
                      exact absurd (H.trans (congrArg some HT.out)) (by decide)
                  · rw [if_neg c88] at H
                    have c88b0 : ((Int.tmod (wrap64 (a0 - t150)) 4294967296) == 0) = false := beq_eq_false_iff_ne.mpr c88
                    have c88b1 : ((Int.tmod (wrap64 (a0 - t150)) 4294967296) != 0) = true := bne_iff_ne.mpr c88
                    exact absurd (H.trans (congrArg some HT.out)) (by decide)
                · rw [if_neg c87] at H
                  have c87b0 : (t150 == a0) = false := beq_eq_false_iff_ne.mpr c87
                  have c87b1 : (t150 != a0) = true := bne_iff_ne.mpr c87
                  exact absurd (H.trans (congrArg some HT.out)) (by decide)
              · rw [if_neg c86] at H
                have c86b0 : decide (a0 < 2147483648) = false := decide_eq_false c86
                clear c86
                by_cases c97 : (Int.tmod (wrap64 (a0 - t150)) 4294967296) = 0
                · rw [if_pos c97] at H
                  have c97b0 : ((Int.tmod (wrap64 (a0 - t150)) 4294967296) == 0) = true := beq_iff_eq.mpr c97
                  have c97b1 : ((Int.tmod (wrap64 (a0 - t150)) 4294967296) != 0) = false := bne_eq_false_iff_eq.mpr c97
                  clear c97
                  by_cases c98 : (Go.bits .and .u64 (IntKind.u64.wrap (a0)) 255) = (IntKind.u64.wrap (t142))
                  · rw [if_pos c98] at H
                    have c98b0 : ((Go.bits .and .u64 (IntKind.u64.wrap (a0)) 255) == (IntKind.u64.wrap (t142))) = true := beq_iff_eq.mpr c98
                    have c98b1 : ((Go.bits .and .u64 (IntKind.u64.wrap (a0)) 255) != (IntKind.u64.wrap (t142))) = false := bne_eq_false_iff_eq.mpr c98
                    clear c98
                    replace H := Option.bind_eq_some_iff.mp H
                    obtain ⟨t163, A990, H⟩ := H
                    replace H : (some t163) = some r := H
                    have A99 := Aside0.mk A990
                    clear A990
                    obtain rfl := Option.some.inj H
                    have hnb100 := NB153_145.out
                    have hnc100 := NB145_153.out
                    have hnb101 := NB153_158.out
                    have hnc101 := NB158_153.out
                    have hcz102_0 : wc.cell? ⟨gb153, 0, none⟩ = some (.int .i64 t149) := (blk_cell BK153.out 0).trans rfl
                    have hcz102_1 : wc.cell? ⟨gb153, 1, none⟩ = some (.int .i64 t150) := (blk_cell BK153.out 1).trans rfl
                    have hcz102_2 : wc.cell? ⟨gb153, 2, none⟩ = some (.string t151) := (blk_cell BK153.out 2).trans rfl
                    have hfz102_0 := blk_frozen BK153.out 0
                    have hfz102_1 := blk_frozen BK153.out 1
                    have hfz102_2 := blk_frozen BK153.out 2
                    have hnb103 := NB145_158.out
                    have hnc103 := NB158_145.out
                    have hcz104_0 : wc.cell? ⟨gb145, 0, none⟩ = some (.int .i64 t141) := (blk_cell BK145.out 0).trans rfl
                    have hcz104_1 : wc.cell? ⟨gb145, 1, none⟩ = some (.int .i64 t142) := (blk_cell BK145.out 1).trans rfl
                    have hcz104_2 : wc.cell? ⟨gb145, 2, none⟩ = some (.string t143) := (blk_cell BK145.out 2).trans rfl
                    have hfz104_0 := blk_frozen BK145.out 0
                    have hfz104_1 := blk_frozen BK145.out 1
                    have hfz104_2 := blk_frozen BK145.out 2
                    go_wp2_with (first | (go_at_call 10; (with_reducible refine (XC.umlautlaw13_awake.calls kj6  t163 _ ?side1 A99.out).mono ?_); (case side1 => exact GW.below HG.out (by repeat (first | (with_reducible first | exact HB.out | apply below_alloc | apply pw_below_drewN | apply below_drew1 | refine below_set ?_ GE145.out | refine below_set ?_ GE153.out | refine below_set ?_ GE158.out) | exact HB.out))); rintro e w105 ⟨rfl, hb⟩; have n0_ := Aside0.mk (blk_below (g := gb145) (o := .cells #[.int .i64 t141, .int .i64 t142, .string t143] 24 (0, 0)) (by (with_reducible repeat (first | refine blk_drewN ?_ _ | refine blk_drew ?_ | refine blk_alloc ?_ _)); exact BK145.out) hb); have n1_ := Aside0.mk (blk_below (g := gb153) (o := .cells #[.int .i64 t149, .int .i64 t150, .string t151] 24 (0, 0)) (by (with_reducible repeat (first | refine blk_drewN ?_ _ | refine blk_drew ?_ | refine blk_alloc ?_ _)); exact BK153.out) hb); have n2_ := Aside0.mk (blk_below (g := gb158) (o := .cells #[.int .i64 t154, .int .i64 t155, .string t156] 24 (0, 0)) (by (with_reducible repeat (first | refine blk_drewN ?_ _ | refine blk_drew ?_ | refine blk_alloc ?_ _)); exact BK158.out) hb); have n3_ := Aside0.mk (below_step (by repeat (first | (with_reducible first | exact HB.out | apply below_alloc | apply pw_below_drewN | apply below_drew1 | refine below_set ?_ GE145.out | refine below_set ?_ GE153.out | refine below_set ?_ GE158.out) | exact HB.out)) hb); clear BK145; clear BK153; clear BK158; clear HB; have BK145 := n0_; have BK153 := n1_; have BK158 := n2_; have HB := n3_; clear n0_ n1_ n2_ n3_; (try clear hb); (try clear hb2); (try clear hk); (try clear hi)))
                    go_ret
                    exact ⟨by first | rfl | (simp [errW_none, errW_some] <;> rfl) | (simp [*, errW_none, errW_some] <;> rfl), by repeat (first | (with_reducible first | exact HB.out | apply below_alloc | apply pw_below_drewN | apply below_drew1 | refine below_set ?_ GE145.out | refine below_set ?_ GE153.out | refine below_set ?_ GE158.out) | exact HB.out)⟩
                  · rw [if_neg c98] at H
                    have c98b0 : ((Go.bits .and .u64 (IntKind.u64.wrap (a0)) 255) == (IntKind.u64.wrap (t142))) = false := beq_eq_false_iff_ne.mpr c98
                    have c98b1 : ((Go.bits .and .u64 (IntKind.u64.wrap (a0)) 255) != (IntKind.u64.wrap (t142))) = true := bne_iff_ne.mpr c98
                    exact absurd (H.trans (congrArg some HT.out)) (by decide)
                · rw [if_neg c97] at H
                  have c97b0 : ((Int.tmod (wrap64 (a0 - t150)) 4294967296) == 0) = false := beq_eq_false_iff_ne.mpr c97
                  have c97b1 : ((Int.tmod (wrap64 (a0 - t150)) 4294967296) != 0) = true := bne_iff_ne.mpr c97
                  exact absurd (H.trans (congrArg some HT.out)) (by decide)
            · rw [if_neg c85] at H
              have c85b0 : decide ((-2147483648) ≤ a0) = false := decide_eq_false c85
              clear c85
              by_cases c106 : (Int.tmod (wrap64 (a0 - t150)) 4294967296) = 0
              · rw [if_pos c106] at H
                have c106b0 : ((Int.tmod (wrap64 (a0 - t150)) 4294967296) == 0) = true := beq_iff_eq.mpr c106
                have c106b1 : ((Int.tmod (wrap64 (a0 - t150)) 4294967296) != 0) = false := bne_eq_false_iff_eq.mpr c106
                clear c106
                by_cases c107 : (Go.bits .and .u64 (IntKind.u64.wrap (a0)) 255) = (IntKind.u64.wrap (t142))
                · rw [if_pos c107] at H
                  have c107b0 : ((Go.bits .and .u64 (IntKind.u64.wrap (a0)) 255) == (IntKind.u64.wrap (t142))) = true := beq_iff_eq.mpr c107
                  have c107b1 : ((Go.bits .and .u64 (IntKind.u64.wrap (a0)) 255) != (IntKind.u64.wrap (t142))) = false := bne_eq_false_iff_eq.mpr c107
                  clear c107
                  replace H := Option.bind_eq_some_iff.mp H
                  obtain ⟨t164, A1080, H⟩ := H
                  replace H : (some t164) = some r := H
                  have A108 := Aside0.mk A1080
                  clear A1080
                  obtain rfl := Option.some.inj H
                  have hnb109 := NB153_145.out
                  have hnc109 := NB145_153.out
                  have hnb110 := NB153_158.out
                  have hnc110 := NB158_153.out
                  have hcz111_0 : wc.cell? ⟨gb153, 0, none⟩ = some (.int .i64 t149) := (blk_cell BK153.out 0).trans rfl
                  have hcz111_1 : wc.cell? ⟨gb153, 1, none⟩ = some (.int .i64 t150) := (blk_cell BK153.out 1).trans rfl
                  have hcz111_2 : wc.cell? ⟨gb153, 2, none⟩ = some (.string t151) := (blk_cell BK153.out 2).trans rfl
                  have hfz111_0 := blk_frozen BK153.out 0
                  have hfz111_1 := blk_frozen BK153.out 1
                  have hfz111_2 := blk_frozen BK153.out 2
                  have hnb112 := NB145_158.out
                  have hnc112 := NB158_145.out
                  have hcz113_0 : wc.cell? ⟨gb145, 0, none⟩ = some (.int .i64 t141) := (blk_cell BK145.out 0).trans rfl
                  have hcz113_1 : wc.cell? ⟨gb145, 1, none⟩ = some (.int .i64 t142) := (blk_cell BK145.out 1).trans rfl
                  have hcz113_2 : wc.cell? ⟨gb145, 2, none⟩ = some (.string t143) := (blk_cell BK145.out 2).trans rfl
                  have hfz113_0 := blk_frozen BK145.out 0
                  have hfz113_1 := blk_frozen BK145.out 1
                  have hfz113_2 := blk_frozen BK145.out 2
                  go_wp2_with (first | (go_at_call 10; (with_reducible refine (XC.umlautlaw13_awake.calls kj6  t164 _ ?side1 A108.out).mono ?_); (case side1 => exact GW.below HG.out (by repeat (first | (with_reducible first | exact HB.out | apply below_alloc | apply pw_below_drewN | apply below_drew1 | refine below_set ?_ GE145.out | refine below_set ?_ GE153.out | refine below_set ?_ GE158.out) | exact HB.out))); rintro e w114 ⟨rfl, hb⟩; have n0_ := Aside0.mk (blk_below (g := gb145) (o := .cells #[.int .i64 t141, .int .i64 t142, .string t143] 24 (0, 0)) (by (with_reducible repeat (first | refine blk_drewN ?_ _ | refine blk_drew ?_ | refine blk_alloc ?_ _)); exact BK145.out) hb); have n1_ := Aside0.mk (blk_below (g := gb153) (o := .cells #[.int .i64 t149, .int .i64 t150, .string t151] 24 (0, 0)) (by (with_reducible repeat (first | refine blk_drewN ?_ _ | refine blk_drew ?_ | refine blk_alloc ?_ _)); exact BK153.out) hb); have n2_ := Aside0.mk (blk_below (g := gb158) (o := .cells #[.int .i64 t154, .int .i64 t155, .string t156] 24 (0, 0)) (by (with_reducible repeat (first | refine blk_drewN ?_ _ | refine blk_drew ?_ | refine blk_alloc ?_ _)); exact BK158.out) hb); have n3_ := Aside0.mk (below_step (by repeat (first | (with_reducible first | exact HB.out | apply below_alloc | apply pw_below_drewN | apply below_drew1 | refine below_set ?_ GE145.out | refine below_set ?_ GE153.out | refine below_set ?_ GE158.out) | exact HB.out)) hb); clear BK145; clear BK153; clear BK158; clear HB; have BK145 := n0_; have BK153 := n1_; have BK158 := n2_; have HB := n3_; clear n0_ n1_ n2_ n3_; (try clear hb); (try clear hb2); (try clear hk); (try clear hi)))
                  go_ret
                  exact ⟨by first | rfl | (simp [errW_none, errW_some] <;> rfl) | (simp [*, errW_none, errW_some] <;> rfl), by repeat (first | (with_reducible first | exact HB.out | apply below_alloc | apply pw_below_drewN | apply below_drew1 | refine below_set ?_ GE145.out | refine below_set ?_ GE153.out | refine below_set ?_ GE158.out) | exact HB.out)⟩
                · rw [if_neg c107] at H
                  have c107b0 : ((Go.bits .and .u64 (IntKind.u64.wrap (a0)) 255) == (IntKind.u64.wrap (t142))) = false := beq_eq_false_iff_ne.mpr c107
                  have c107b1 : ((Go.bits .and .u64 (IntKind.u64.wrap (a0)) 255) != (IntKind.u64.wrap (t142))) = true := bne_iff_ne.mpr c107
                  exact absurd (H.trans (congrArg some HT.out)) (by decide)
              · rw [if_neg c106] at H
                have c106b0 : ((Int.tmod (wrap64 (a0 - t150)) 4294967296) == 0) = false := beq_eq_false_iff_ne.mpr c106
                have c106b1 : ((Int.tmod (wrap64 (a0 - t150)) 4294967296) != 0) = true := bne_iff_ne.mpr c106
                exact absurd (H.trans (congrArg some HT.out)) (by decide)
        · rw [if_neg c52] at H
          have c52b0 : decide (0 ≤ a0) = false := decide_eq_false c52
          clear c52
          by_cases c115 : a0 ≥ (-2147483648)
          · rw [if_pos c115] at H
            have c115b0 : decide ((-2147483648) ≤ a0) = true := decide_eq_true c115
            clear c115
            by_cases c116 : a0 < 2147483648
            · rw [if_pos c116] at H
              have c116b0 : decide (a0 < 2147483648) = true := decide_eq_true c116
              clear c116
              by_cases c117 : t150 = a0
              · rw [if_pos c117] at H
                have c117b0 : (t150 == a0) = true := beq_iff_eq.mpr c117
                have c117b1 : (t150 != a0) = false := bne_eq_false_iff_eq.mpr c117
                clear c117
                by_cases c118 : (Int.tmod (wrap64 (a0 - t150)) 4294967296) = 0
                · rw [if_pos c118] at H
                  have c118b0 : ((Int.tmod (wrap64 (a0 - t150)) 4294967296) == 0) = true := beq_iff_eq.mpr c118
                  have c118b1 : ((Int.tmod (wrap64 (a0 - t150)) 4294967296) != 0) = false := bne_eq_false_iff_eq.mpr c118
                  clear c118
                  by_cases c119 : (Go.bits .and .u64 (IntKind.u64.wrap (a0)) 255) = (IntKind.u64.wrap (t142))
                  · rw [if_pos c119] at H
                    have c119b0 : ((Go.bits .and .u64 (IntKind.u64.wrap (a0)) 255) == (IntKind.u64.wrap (t142))) = true := beq_iff_eq.mpr c119
                    have c119b1 : ((Go.bits .and .u64 (IntKind.u64.wrap (a0)) 255) != (IntKind.u64.wrap (t142))) = false := bne_eq_false_iff_eq.mpr c119
                    clear c119
                    replace H := Option.bind_eq_some_iff.mp H
                    obtain ⟨t165, A1200, H⟩ := H
                    replace H : (some t165) = some r := H
                    have A120 := Aside0.mk A1200
                    clear A1200
                    obtain rfl := Option.some.inj H
                    have hnb121 := NB153_145.out
                    have hnc121 := NB145_153.out
                    have hnb122 := NB153_158.out
                    have hnc122 := NB158_153.out
                    have hcz123_0 : wc.cell? ⟨gb153, 0, none⟩ = some (.int .i64 t149) := (blk_cell BK153.out 0).trans rfl
                    have hcz123_1 : wc.cell? ⟨gb153, 1, none⟩ = some (.int .i64 t150) := (blk_cell BK153.out 1).trans rfl
                    have hcz123_2 : wc.cell? ⟨gb153, 2, none⟩ = some (.string t151) := (blk_cell BK153.out 2).trans rfl
                    have hfz123_0 := blk_frozen BK153.out 0
                    have hfz123_1 := blk_frozen BK153.out 1
                    have hfz123_2 := blk_frozen BK153.out 2
                    have hnb124 := NB145_158.out
                    have hnc124 := NB158_145.out
                    have hcz125_0 : wc.cell? ⟨gb145, 0, none⟩ = some (.int .i64 t141) := (blk_cell BK145.out 0).trans rfl
                    have hcz125_1 : wc.cell? ⟨gb145, 1, none⟩ = some (.int .i64 t142) := (blk_cell BK145.out 1).trans rfl
                    have hcz125_2 : wc.cell? ⟨gb145, 2, none⟩ = some (.string t143) := (blk_cell BK145.out 2).trans rfl
                    have hfz125_0 := blk_frozen BK145.out 0
                    have hfz125_1 := blk_frozen BK145.out 1
                    have hfz125_2 := blk_frozen BK145.out 2
                    go_wp2_with (first | (go_at_call 10; (with_reducible refine (XC.umlautlaw13_awake.calls kj6  t165 _ ?side1 A120.out).mono ?_); (case side1 => exact GW.below HG.out (by repeat (first | (with_reducible first | exact HB.out | apply below_alloc | apply pw_below_drewN | apply below_drew1 | refine below_set ?_ GE145.out | refine below_set ?_ GE153.out | refine below_set ?_ GE158.out) | exact HB.out))); rintro e w126 ⟨rfl, hb⟩; have n0_ := Aside0.mk (blk_below (g := gb145) (o := .cells #[.int .i64 t141, .int .i64 t142, .string t143] 24 (0, 0)) (by (with_reducible repeat (first | refine blk_drewN ?_ _ | refine blk_drew ?_ | refine blk_alloc ?_ _)); exact BK145.out) hb); have n1_ := Aside0.mk (blk_below (g := gb153) (o := .cells #[.int .i64 t149, .int .i64 t150, .string t151] 24 (0, 0)) (by (with_reducible repeat (first | refine blk_drewN ?_ _ | refine blk_drew ?_ | refine blk_alloc ?_ _)); exact BK153.out) hb); have n2_ := Aside0.mk (blk_below (g := gb158) (o := .cells #[.int .i64 t154, .int .i64 t155, .string t156] 24 (0, 0)) (by (with_reducible repeat (first | refine blk_drewN ?_ _ | refine blk_drew ?_ | refine blk_alloc ?_ _)); exact BK158.out) hb); have n3_ := Aside0.mk (below_step (by repeat (first | (with_reducible first | exact HB.out | apply below_alloc | apply pw_below_drewN | apply below_drew1 | refine below_set ?_ GE145.out | refine below_set ?_ GE153.out | refine below_set ?_ GE158.out) | exact HB.out)) hb); clear BK145; clear BK153; clear BK158; clear HB; have BK145 := n0_; have BK153 := n1_; have BK158 := n2_; have HB := n3_; clear n0_ n1_ n2_ n3_; (try clear hb); (try clear hb2); (try clear hk); (try clear hi)))
                    go_ret
                    exact ⟨by first | rfl | (simp [errW_none, errW_some] <;> rfl) | (simp [*, errW_none, errW_some] <;> rfl), by repeat (first | (with_reducible first | exact HB.out | apply below_alloc | apply pw_below_drewN | apply below_drew1 | refine below_set ?_ GE145.out | refine below_set ?_ GE153.out | refine below_set ?_ GE158.out) | exact HB.out)⟩
                  · rw [if_neg c119] at H
                    have c119b0 : ((Go.bits .and .u64 (IntKind.u64.wrap (a0)) 255) == (IntKind.u64.wrap (t142))) = false := beq_eq_false_iff_ne.mpr c119
                    have c119b1 : ((Go.bits .and .u64 (IntKind.u64.wrap (a0)) 255) != (IntKind.u64.wrap (t142))) = true := bne_iff_ne.mpr c119
                    exact absurd (H.trans (congrArg some HT.out)) (by decide)
                · rw [if_neg c118] at H
                  have c118b0 : ((Int.tmod (wrap64 (a0 - t150)) 4294967296) == 0) = false := beq_eq_false_iff_ne.mpr c118
                  have c118b1 : ((Int.tmod (wrap64 (a0 - t150)) 4294967296) != 0) = true := bne_iff_ne.mpr c118
                  exact absurd (H.trans (congrArg some HT.out)) (by decide)
              · rw [if_neg c117] at H
                have c117b0 : (t150 == a0) = false := beq_eq_false_iff_ne.mpr c117
                have c117b1 : (t150 != a0) = true := bne_iff_ne.mpr c117
                exact absurd (H.trans (congrArg some HT.out)) (by decide)
            · rw [if_neg c116] at H
              have c116b0 : decide (a0 < 2147483648) = false := decide_eq_false c116
              clear c116
              by_cases c127 : (Int.tmod (wrap64 (a0 - t150)) 4294967296) = 0
              · rw [if_pos c127] at H
                have c127b0 : ((Int.tmod (wrap64 (a0 - t150)) 4294967296) == 0) = true := beq_iff_eq.mpr c127
                have c127b1 : ((Int.tmod (wrap64 (a0 - t150)) 4294967296) != 0) = false := bne_eq_false_iff_eq.mpr c127
                clear c127
                by_cases c128 : (Go.bits .and .u64 (IntKind.u64.wrap (a0)) 255) = (IntKind.u64.wrap (t142))
                · rw [if_pos c128] at H
                  have c128b0 : ((Go.bits .and .u64 (IntKind.u64.wrap (a0)) 255) == (IntKind.u64.wrap (t142))) = true := beq_iff_eq.mpr c128
                  have c128b1 : ((Go.bits .and .u64 (IntKind.u64.wrap (a0)) 255) != (IntKind.u64.wrap (t142))) = false := bne_eq_false_iff_eq.mpr c128
                  clear c128
                  replace H := Option.bind_eq_some_iff.mp H
                  obtain ⟨t166, A1290, H⟩ := H
                  replace H : (some t166) = some r := H
                  have A129 := Aside0.mk A1290
                  clear A1290
                  obtain rfl := Option.some.inj H
                  have hnb130 := NB153_145.out
                  have hnc130 := NB145_153.out
                  have hnb131 := NB153_158.out
                  have hnc131 := NB158_153.out
                  have hcz132_0 : wc.cell? ⟨gb153, 0, none⟩ = some (.int .i64 t149) := (blk_cell BK153.out 0).trans rfl
                  have hcz132_1 : wc.cell? ⟨gb153, 1, none⟩ = some (.int .i64 t150) := (blk_cell BK153.out 1).trans rfl
                  have hcz132_2 : wc.cell? ⟨gb153, 2, none⟩ = some (.string t151) := (blk_cell BK153.out 2).trans rfl
                  have hfz132_0 := blk_frozen BK153.out 0
                  have hfz132_1 := blk_frozen BK153.out 1
                  have hfz132_2 := blk_frozen BK153.out 2
                  have hnb133 := NB145_158.out
                  have hnc133 := NB158_145.out
                  have hcz134_0 : wc.cell? ⟨gb145, 0, none⟩ = some (.int .i64 t141) := (blk_cell BK145.out 0).trans rfl
                  have hcz134_1 : wc.cell? ⟨gb145, 1, none⟩ = some (.int .i64 t142) := (blk_cell BK145.out 1).trans rfl
                  have hcz134_2 : wc.cell? ⟨gb145, 2, none⟩ = some (.string t143) := (blk_cell BK145.out 2).trans rfl
                  have hfz134_0 := blk_frozen BK145.out 0
                  have hfz134_1 := blk_frozen BK145.out 1
                  have hfz134_2 := blk_frozen BK145.out 2
                  go_wp2_with (first | (go_at_call 10; (with_reducible refine (XC.umlautlaw13_awake.calls kj6  t166 _ ?side1 A129.out).mono ?_); (case side1 => exact GW.below HG.out (by repeat (first | (with_reducible first | exact HB.out | apply below_alloc | apply pw_below_drewN | apply below_drew1 | refine below_set ?_ GE145.out | refine below_set ?_ GE153.out | refine below_set ?_ GE158.out) | exact HB.out))); rintro e w135 ⟨rfl, hb⟩; have n0_ := Aside0.mk (blk_below (g := gb145) (o := .cells #[.int .i64 t141, .int .i64 t142, .string t143] 24 (0, 0)) (by (with_reducible repeat (first | refine blk_drewN ?_ _ | refine blk_drew ?_ | refine blk_alloc ?_ _)); exact BK145.out) hb); have n1_ := Aside0.mk (blk_below (g := gb153) (o := .cells #[.int .i64 t149, .int .i64 t150, .string t151] 24 (0, 0)) (by (with_reducible repeat (first | refine blk_drewN ?_ _ | refine blk_drew ?_ | refine blk_alloc ?_ _)); exact BK153.out) hb); have n2_ := Aside0.mk (blk_below (g := gb158) (o := .cells #[.int .i64 t154, .int .i64 t155, .string t156] 24 (0, 0)) (by (with_reducible repeat (first | refine blk_drewN ?_ _ | refine blk_drew ?_ | refine blk_alloc ?_ _)); exact BK158.out) hb); have n3_ := Aside0.mk (below_step (by repeat (first | (with_reducible first | exact HB.out | apply below_alloc | apply pw_below_drewN | apply below_drew1 | refine below_set ?_ GE145.out | refine below_set ?_ GE153.out | refine below_set ?_ GE158.out) | exact HB.out)) hb); clear BK145; clear BK153; clear BK158; clear HB; have BK145 := n0_; have BK153 := n1_; have BK158 := n2_; have HB := n3_; clear n0_ n1_ n2_ n3_; (try clear hb); (try clear hb2); (try clear hk); (try clear hi)))
                  go_ret
                  exact ⟨by first | rfl | (simp [errW_none, errW_some] <;> rfl) | (simp [*, errW_none, errW_some] <;> rfl), by repeat (first | (with_reducible first | exact HB.out | apply below_alloc | apply pw_below_drewN | apply below_drew1 | refine below_set ?_ GE145.out | refine below_set ?_ GE153.out | refine below_set ?_ GE158.out) | exact HB.out)⟩
                · rw [if_neg c128] at H
                  have c128b0 : ((Go.bits .and .u64 (IntKind.u64.wrap (a0)) 255) == (IntKind.u64.wrap (t142))) = false := beq_eq_false_iff_ne.mpr c128
                  have c128b1 : ((Go.bits .and .u64 (IntKind.u64.wrap (a0)) 255) != (IntKind.u64.wrap (t142))) = true := bne_iff_ne.mpr c128
                  exact absurd (H.trans (congrArg some HT.out)) (by decide)
              · rw [if_neg c127] at H
                have c127b0 : ((Int.tmod (wrap64 (a0 - t150)) 4294967296) == 0) = false := beq_eq_false_iff_ne.mpr c127
                have c127b1 : ((Int.tmod (wrap64 (a0 - t150)) 4294967296) != 0) = true := bne_iff_ne.mpr c127
                exact absurd (H.trans (congrArg some HT.out)) (by decide)
          · rw [if_neg c115] at H
            have c115b0 : decide ((-2147483648) ≤ a0) = false := decide_eq_false c115
            clear c115
            by_cases c136 : (Int.tmod (wrap64 (a0 - t150)) 4294967296) = 0
            · rw [if_pos c136] at H
              have c136b0 : ((Int.tmod (wrap64 (a0 - t150)) 4294967296) == 0) = true := beq_iff_eq.mpr c136
              have c136b1 : ((Int.tmod (wrap64 (a0 - t150)) 4294967296) != 0) = false := bne_eq_false_iff_eq.mpr c136
              clear c136
              by_cases c137 : (Go.bits .and .u64 (IntKind.u64.wrap (a0)) 255) = (IntKind.u64.wrap (t142))
              · rw [if_pos c137] at H
                have c137b0 : ((Go.bits .and .u64 (IntKind.u64.wrap (a0)) 255) == (IntKind.u64.wrap (t142))) = true := beq_iff_eq.mpr c137
                have c137b1 : ((Go.bits .and .u64 (IntKind.u64.wrap (a0)) 255) != (IntKind.u64.wrap (t142))) = false := bne_eq_false_iff_eq.mpr c137
                clear c137
                replace H := Option.bind_eq_some_iff.mp H
                obtain ⟨t167, A1380, H⟩ := H
                replace H : (some t167) = some r := H
                have A138 := Aside0.mk A1380
                clear A1380
                obtain rfl := Option.some.inj H
                have hnb139 := NB153_145.out
                have hnc139 := NB145_153.out
                have hnb140 := NB153_158.out
                have hnc140 := NB158_153.out
                have hcz141_0 : wc.cell? ⟨gb153, 0, none⟩ = some (.int .i64 t149) := (blk_cell BK153.out 0).trans rfl
                have hcz141_1 : wc.cell? ⟨gb153, 1, none⟩ = some (.int .i64 t150) := (blk_cell BK153.out 1).trans rfl
                have hcz141_2 : wc.cell? ⟨gb153, 2, none⟩ = some (.string t151) := (blk_cell BK153.out 2).trans rfl
                have hfz141_0 := blk_frozen BK153.out 0
                have hfz141_1 := blk_frozen BK153.out 1
                have hfz141_2 := blk_frozen BK153.out 2
                have hnb142 := NB145_158.out
                have hnc142 := NB158_145.out
                have hcz143_0 : wc.cell? ⟨gb145, 0, none⟩ = some (.int .i64 t141) := (blk_cell BK145.out 0).trans rfl
                have hcz143_1 : wc.cell? ⟨gb145, 1, none⟩ = some (.int .i64 t142) := (blk_cell BK145.out 1).trans rfl
                have hcz143_2 : wc.cell? ⟨gb145, 2, none⟩ = some (.string t143) := (blk_cell BK145.out 2).trans rfl
                have hfz143_0 := blk_frozen BK145.out 0
                have hfz143_1 := blk_frozen BK145.out 1
                have hfz143_2 := blk_frozen BK145.out 2
                go_wp2_with (first | (go_at_call 10; (with_reducible refine (XC.umlautlaw13_awake.calls kj6  t167 _ ?side1 A138.out).mono ?_); (case side1 => exact GW.below HG.out (by repeat (first | (with_reducible first | exact HB.out | apply below_alloc | apply pw_below_drewN | apply below_drew1 | refine below_set ?_ GE145.out | refine below_set ?_ GE153.out | refine below_set ?_ GE158.out) | exact HB.out))); rintro e w144 ⟨rfl, hb⟩; have n0_ := Aside0.mk (blk_below (g := gb145) (o := .cells #[.int .i64 t141, .int .i64 t142, .string t143] 24 (0, 0)) (by (with_reducible repeat (first | refine blk_drewN ?_ _ | refine blk_drew ?_ | refine blk_alloc ?_ _)); exact BK145.out) hb); have n1_ := Aside0.mk (blk_below (g := gb153) (o := .cells #[.int .i64 t149, .int .i64 t150, .string t151] 24 (0, 0)) (by (with_reducible repeat (first | refine blk_drewN ?_ _ | refine blk_drew ?_ | refine blk_alloc ?_ _)); exact BK153.out) hb); have n2_ := Aside0.mk (blk_below (g := gb158) (o := .cells #[.int .i64 t154, .int .i64 t155, .string t156] 24 (0, 0)) (by (with_reducible repeat (first | refine blk_drewN ?_ _ | refine blk_drew ?_ | refine blk_alloc ?_ _)); exact BK158.out) hb); have n3_ := Aside0.mk (below_step (by repeat (first | (with_reducible first | exact HB.out | apply below_alloc | apply pw_below_drewN | apply below_drew1 | refine below_set ?_ GE145.out | refine below_set ?_ GE153.out | refine below_set ?_ GE158.out) | exact HB.out)) hb); clear BK145; clear BK153; clear BK158; clear HB; have BK145 := n0_; have BK153 := n1_; have BK158 := n2_; have HB := n3_; clear n0_ n1_ n2_ n3_; (try clear hb); (try clear hb2); (try clear hk); (try clear hi)))
                go_ret
                exact ⟨by first | rfl | (simp [errW_none, errW_some] <;> rfl) | (simp [*, errW_none, errW_some] <;> rfl), by repeat (first | (with_reducible first | exact HB.out | apply below_alloc | apply pw_below_drewN | apply below_drew1 | refine below_set ?_ GE145.out | refine below_set ?_ GE153.out | refine below_set ?_ GE158.out) | exact HB.out)⟩
              · rw [if_neg c137] at H
                have c137b0 : ((Go.bits .and .u64 (IntKind.u64.wrap (a0)) 255) == (IntKind.u64.wrap (t142))) = false := beq_eq_false_iff_ne.mpr c137
                have c137b1 : ((Go.bits .and .u64 (IntKind.u64.wrap (a0)) 255) != (IntKind.u64.wrap (t142))) = true := bne_iff_ne.mpr c137
                exact absurd (H.trans (congrArg some HT.out)) (by decide)
            · rw [if_neg c136] at H
              have c136b0 : ((Int.tmod (wrap64 (a0 - t150)) 4294967296) == 0) = false := beq_eq_false_iff_ne.mpr c136
              have c136b1 : ((Int.tmod (wrap64 (a0 - t150)) 4294967296) != 0) = true := bne_iff_ne.mpr c136
              exact absurd (H.trans (congrArg some HT.out)) (by decide)

/-- THE ONE PURE STATEMENT of umlautlaw13_CastWidths: yours. -/
def umlautlaw13_CastWidths.Pure : Prop := ∀ (a0 : Int), (Lit.int .i64 a0).wf = true → ∃ k, umlautlaw13_CastWidths.f k a0 = some true
theorem umlautlaw13_CastWidths.walk (P : umlautlaw13_CastWidths.Pure) (a0 : Int) (w : World) (hG0 : GW w) (w0 : (Lit.int .i64 a0).wf = true) :
    Calls Tryz.prog 6 #[.int .i64 a0] w fun e w' => e = .returned (.bool true) ∧ Below w.heap.size w w' := by
  obtain ⟨k, h⟩ := P a0 w0
  refine (umlautlaw13_CastWidths.calls k a0 true w hG0 h rfl).mono ?_
  rintro e w' ⟨rfl, hd⟩
  exact ⟨rfl, hd⟩

end Go.Proofs.YtmgoncnjagihgaaGreatDoor.XF
