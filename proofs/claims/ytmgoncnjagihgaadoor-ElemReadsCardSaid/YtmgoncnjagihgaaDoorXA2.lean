-- laid by a program of this session (its print of the translation over its own contracts)
import Derived.Test.YtmgoncnjagihgaaDoorXA0
import Derived.Test.YtmgoncnjagihgaaDoorXA1
namespace Go.Proofs.YtmgoncnjagihgaaDoor.XA
open Go.Proofs.YtmgoncnjagihgaaDoor.Given Go.Proofs.YtmgoncnjagihgaaDoor.Lem
open Go.RowKit Go.Proofs.YtmgoncnjagihgaaDoorW.PrintWords Go.Proofs.YtmgoncnjagihgaaDoorW.PrintLast Go.Proofs.YtmgoncnjagihgaaDoorW.PrintMore
attribute [local go_sem] max2_int min2_int max_two min_two max_three min_three max_four min_four   -- for this text's walks alone
set_option linter.unusedVariables false
set_option linter.unusedSimpArgs false

/-! ### umlautlaw3_ElemChanges: function 3 -/
def umlautlaw3_ElemChanges.f (k : Nat) (a0 : Int) (a1 : Int) (a2 : Int) : Option (Bool) := (elem_Elem_With.f k a0 a1 a2).bind fun t125 => ((umlautref5_Of.f a0).bind fun bt126 => (if a1 = 1 then ((umlautref5_Elem_Word.f (Go.bits .and .i64 a2 65535) bt126.2.1 bt126.2.2.1 bt126.2.2.2).bind fun t131 => (if t125 = t131 then ((umlautlaw3_awake.f k).bind fun t132 => (some t132)) else (some false))) else (if a1 = 2 then ((umlautref5_Elem_Word.f bt126.1 (Go.bits .and .i64 a2 255) bt126.2.2.1 bt126.2.2.2).bind fun t133 => (if t125 = t133 then ((umlautlaw3_awake.f k).bind fun t134 => (some t134)) else (some false))) else (if a1 = 3 then ((umlautref5_Elem_Word.f bt126.1 bt126.2.1 (Go.bits .and .i64 a2 127) bt126.2.2.2).bind fun t135 => (if t125 = t135 then ((umlautlaw3_awake.f k).bind fun t136 => (some t136)) else (some false))) else ((umlautref5_Elem_Word.f bt126.1 bt126.2.1 bt126.2.2.1 bt126.2.2.2).bind fun t137 => (if t125 = t137 then ((umlautlaw3_awake.f k).bind fun t138 => (some t138)) else (some false)))))))
theorem umlautlaw3_ElemChanges.mono : ∀ a0 a1 a2 k, LeO (umlautlaw3_ElemChanges.f k a0 a1 a2) (umlautlaw3_ElemChanges.f (k + 1) a0 a1 a2) := by
  intro a0 a1 a2 k
  unfold umlautlaw3_ElemChanges.f
  repeat' first
      | (with_reducible exact elem_Elem_With.mono _ _ _ _)
      | (with_reducible exact umlautlaw3_awake.mono _)
      | (with_reducible exact LeO.refl _)
      | (with_reducible exact LeO.none _)
      | (with_reducible refine LeO.ite ?_ ?_)
      | (with_reducible refine LeO.bind ?_ (fun _ => ?_))
      | exact elem_Elem_With.mono _ _ _ _
      | exact umlautlaw3_awake.mono _
      | exact LeO.none _
      | refine LeO.ite ?_ ?_
      | refine LeO.bind ?_ (fun _ => ?_)
set_option maxHeartbeats 8000000 in
set_option maxRecDepth 100000 in
theorem umlautlaw3_ElemChanges.calls (k : Nat) (a0 : Int) (a1 : Int) (a2 : Int) (r : Bool) (w : World) (hG0 : GW w) (h : umlautlaw3_ElemChanges.f k a0 a1 a2 = some r) (hT : r = true) :
    Calls Tryd.prog 3 #[.int .u32 a0, .int .i64 a1, .int .i64 a2] w fun e w' => e = .returned (.bool r) ∧ Below w.heap.size w w' := by
  have hu26 := Tryd.underlying26
  have HT := Aside0.mk hT
  clear hT
  have HG := Aside0.mk hG0
  clear hG0
  have HB := Aside0.mk (Below.refl w.heap.size w)
  have H : ((elem_Elem_With.f k a0 a1 a2).bind fun t125 => ((umlautref5_Of.f a0).bind fun bt126 => (if a1 = 1 then ((umlautref5_Elem_Word.f (Go.bits .and .i64 a2 65535) bt126.2.1 bt126.2.2.1 bt126.2.2.2).bind fun t131 => (if t125 = t131 then ((umlautlaw3_awake.f k).bind fun t132 => (some t132)) else (some false))) else (if a1 = 2 then ((umlautref5_Elem_Word.f bt126.1 (Go.bits .and .i64 a2 255) bt126.2.2.1 bt126.2.2.2).bind fun t133 => (if t125 = t133 then ((umlautlaw3_awake.f k).bind fun t134 => (some t134)) else (some false))) else (if a1 = 3 then ((umlautref5_Elem_Word.f bt126.1 bt126.2.1 (Go.bits .and .i64 a2 127) bt126.2.2.2).bind fun t135 => (if t125 = t135 then ((umlautlaw3_awake.f k).bind fun t136 => (some t136)) else (some false))) else ((umlautref5_Elem_Word.f bt126.1 bt126.2.1 bt126.2.2.1 bt126.2.2.2).bind fun t137 => (if t125 = t137 then ((umlautlaw3_awake.f k).bind fun t138 => (some t138)) else (some false)))))))) = some r := h
  clear h
  replace H := Option.bind_eq_some_iff.mp H
  obtain ⟨t125, A40, H⟩ := H
  replace H : ((umlautref5_Of.f a0).bind fun bt126 => (if a1 = 1 then ((umlautref5_Elem_Word.f (Go.bits .and .i64 a2 65535) bt126.2.1 bt126.2.2.1 bt126.2.2.2).bind fun t131 => (if t125 = t131 then ((umlautlaw3_awake.f k).bind fun t132 => (some t132)) else (some false))) else (if a1 = 2 then ((umlautref5_Elem_Word.f bt126.1 (Go.bits .and .i64 a2 255) bt126.2.2.1 bt126.2.2.2).bind fun t133 => (if t125 = t133 then ((umlautlaw3_awake.f k).bind fun t134 => (some t134)) else (some false))) else (if a1 = 3 then ((umlautref5_Elem_Word.f bt126.1 bt126.2.1 (Go.bits .and .i64 a2 127) bt126.2.2.2).bind fun t135 => (if t125 = t135 then ((umlautlaw3_awake.f k).bind fun t136 => (some t136)) else (some false))) else ((umlautref5_Elem_Word.f bt126.1 bt126.2.1 bt126.2.2.1 bt126.2.2.2).bind fun t137 => (if t125 = t137 then ((umlautlaw3_awake.f k).bind fun t138 => (some t138)) else (some false))))))) = some r := H
  have A4 := Aside0.mk A40
  clear A40
  replace H := Option.bind_eq_some_iff.mp H
  obtain ⟨⟨t126, t127, t128, t129⟩, A50, H⟩ := H
  replace H : (if a1 = 1 then ((umlautref5_Elem_Word.f (Go.bits .and .i64 a2 65535) t127 t128 t129).bind fun t131 => (if t125 = t131 then ((umlautlaw3_awake.f k).bind fun t132 => (some t132)) else (some false))) else (if a1 = 2 then ((umlautref5_Elem_Word.f t126 (Go.bits .and .i64 a2 255) t128 t129).bind fun t133 => (if t125 = t133 then ((umlautlaw3_awake.f k).bind fun t134 => (some t134)) else (some false))) else (if a1 = 3 then ((umlautref5_Elem_Word.f t126 t127 (Go.bits .and .i64 a2 127) t129).bind fun t135 => (if t125 = t135 then ((umlautlaw3_awake.f k).bind fun t136 => (some t136)) else (some false))) else ((umlautref5_Elem_Word.f t126 t127 t128 t129).bind fun t137 => (if t125 = t137 then ((umlautlaw3_awake.f k).bind fun t138 => (some t138)) else (some false)))))) = some r := H
  have A5 := Aside0.mk A50
  clear A50
  by_cases c6 : a1 = 1
  · rw [if_pos c6] at H
    have c6b0 : (a1 == 1) = true := beq_iff_eq.mpr c6
    have c6b1 : (a1 != 1) = false := bne_eq_false_iff_eq.mpr c6
    clear c6
    replace H := Option.bind_eq_some_iff.mp H
    obtain ⟨t131, A70, H⟩ := H
    replace H : (if t125 = t131 then ((umlautlaw3_awake.f k).bind fun t132 => (some t132)) else (some false)) = some r := H
    have A7 := Aside0.mk A70
    clear A70
    by_cases c8 : t125 = t131
    · rw [if_pos c8] at H
      have c8b0 : (t125 == t131) = true := beq_iff_eq.mpr c8
      have c8b1 : (t125 != t131) = false := bne_eq_false_iff_eq.mpr c8
      clear c8
      replace H := Option.bind_eq_some_iff.mp H
      obtain ⟨t132, A90, H⟩ := H
      replace H : (some t132) = some r := H
      have A9 := Aside0.mk A90
      clear A90
      obtain rfl := Option.some.inj H
      go_enter Tryd.func3, Tryd.ntmps3
      go_wp2_with (first | ((with_reducible refine gate_callee (f := 7) rfl ?_); refine goesL_ (some 12) rfl rfl Tryd.func7 (by kernel_rfl) rfl #[.int .u32 a0, .int .i64 a1, .int .i64 a2] rfl (by (try simp only [List.map_toArray, List.map_cons, List.map_nil]); first | done | rfl | (simp only [List.length_drop, List.length_take]; rfl)) ?_; (with_reducible refine (elem_Elem_With.calls k a0 a1 a2 t125 _ A4.out).mono ?_); rintro e w10 ⟨rfl, hb⟩; refine ⟨_, rfl, ?_⟩; have n0_ := Aside0.mk (below_step (by repeat (first | (with_reducible first | exact HB.out | apply below_alloc | apply pw_below_drewN | apply below_drew1) | exact HB.out)) hb); clear HB; have HB := n0_; clear n0_; (try clear hb); (try clear hb2); (try clear hk); (try clear hi)) | ((with_reducible refine gate_callee (f := 8) rfl ?_); refine goesL_ (some 14) rfl rfl Tryd.func8 (by kernel_rfl) rfl #[.int .u32 a0] rfl (by (try simp only [List.map_toArray, List.map_cons, List.map_nil]); first | done | rfl | (simp only [List.length_drop, List.length_take]; rfl)) ?_; (with_reducible refine (umlautref5_Of.calls a0 t126 t127 t128 t129 _ A5.out).mono ?_); rintro e w11 ⟨rfl, hb⟩; refine ⟨_, rfl, ?_⟩; have n0_ := Aside0.mk (below_step (by repeat (first | (with_reducible first | exact HB.out | apply below_alloc | apply pw_below_drewN | apply below_drew1) | exact HB.out)) hb); clear HB; have HB := n0_; clear n0_; (try clear hb); (try clear hb2); (try clear hk); (try clear hi)) | ((with_reducible refine gate_dst (N := 8) rfl ?_); refine box_event ?hg (N := 8) ?hd (cs := #[.int .i64 0, .int .i64 0, .int .i64 0, .bool false]) (t := 26) ?hr ?_; (case hd => rfl); (case hg => rfl); (case hr => first | (go_simp; done) | (go_simp; rfl)); intro gb130 hg w12 hbox hb; have n0_ := Aside0.mk (below_step (by repeat (first | (with_reducible first | exact HB.out | apply below_alloc | apply pw_below_drewN | apply below_drew1) | exact HB.out)) hb); have n1_ := Aside0.mk (hbox); have n2_ := Aside0.mk ((by rw [hg]; exact (below_size (by repeat (first | (with_reducible first | exact HB.out | apply below_alloc | apply pw_below_drewN | apply below_drew1) | exact HB.out))) : w.heap.size ≤ gb130)); have n3_ := Aside0.mk ((by rw [hg]; exact (below_size (by repeat (first | (with_reducible first | exact HB.out | apply below_alloc | apply pw_below_drewN | apply below_drew1) | exact HB.out))) : w.heap.size ≤ gb130)); clear HB; have HB := n0_; have BK130 := n1_; have GW130 := n2_; have GE130 := n3_; clear n0_ n1_ n2_ n3_; clear hb hbox hg; have hcz13_0 : w12.cell? ⟨gb130, 0, none⟩ = some (.int .i64 0) := (blk_cell BK130.out 0).trans rfl; have hcz13_1 : w12.cell? ⟨gb130, 1, none⟩ = some (.int .i64 0) := (blk_cell BK130.out 1).trans rfl; have hcz13_2 : w12.cell? ⟨gb130, 2, none⟩ = some (.int .i64 0) := (blk_cell BK130.out 2).trans rfl; have hcz13_3 : w12.cell? ⟨gb130, 3, none⟩ = some (.bool false) := (blk_cell BK130.out 3).trans rfl; have hfz13_0 := blk_frozen BK130.out 0; have hfz13_1 := blk_frozen BK130.out 1; have hfz13_2 := blk_frozen BK130.out 2; have hfz13_3 := blk_frozen BK130.out 3) | ((with_reducible refine gate_callee (f := 9) rfl ?_); refine goesL_ (some 33) rfl rfl Tryd.func9 (by kernel_rfl) rfl #[.agg #[.int .i64 (Go.bits .and .i64 a2 65535), .int .i64 t127, .int .i64 t128, .bool t129]] rfl (by (try simp only [List.map_toArray, List.map_cons, List.map_nil]); first | done | rfl | (simp only [List.length_drop, List.length_take]; rfl)) ?_; (with_reducible refine (umlautref5_Elem_Word.calls (Go.bits .and .i64 a2 65535) t127 t128 t129 t131 _ A7.out).mono ?_); rintro e w14 ⟨rfl, hb⟩; refine ⟨_, rfl, ?_⟩; have n0_ := Aside0.mk (blk_below (g := gb130) (o := .cells #[.int .i64 (Go.bits .and .i64 a2 65535), .int .i64 t127, .int .i64 t128, .bool t129] 26 (0, 0)) (by (with_reducible repeat (first | refine blk_drewN ?_ _ | refine blk_drew ?_ | refine blk_alloc ?_ _)); refine blk_put (cs := #[.int .i64 t126, .int .i64 t127, .int .i64 t128, .bool t129]) ?_ 0 _ rfl; (with_reducible repeat (first | refine blk_drewN ?_ _ | refine blk_drew ?_ | refine blk_alloc ?_ _)); refine blk_put (cs := #[.int .i64 t126, .int .i64 t127, .int .i64 t128, .bool false]) ?_ 3 _ rfl; (with_reducible repeat (first | refine blk_drewN ?_ _ | refine blk_drew ?_ | refine blk_alloc ?_ _)); refine blk_put (cs := #[.int .i64 t126, .int .i64 t127, .int .i64 0, .bool false]) ?_ 2 _ rfl; (with_reducible repeat (first | refine blk_drewN ?_ _ | refine blk_drew ?_ | refine blk_alloc ?_ _)); refine blk_put (cs := #[.int .i64 t126, .int .i64 0, .int .i64 0, .bool false]) ?_ 1 _ rfl; (with_reducible repeat (first | refine blk_drewN ?_ _ | refine blk_drew ?_ | refine blk_alloc ?_ _)); refine blk_put (cs := #[.int .i64 0, .int .i64 0, .int .i64 0, .bool false]) ?_ 0 _ rfl; (with_reducible repeat (first | refine blk_drewN ?_ _ | refine blk_drew ?_ | refine blk_alloc ?_ _)); exact BK130.out) hb); have n1_ := Aside0.mk (below_step (by repeat (first | (with_reducible first | exact HB.out | apply below_alloc | apply pw_below_drewN | apply below_drew1 | refine below_set ?_ GE130.out) | exact HB.out)) hb); clear BK130; clear HB; have BK130 := n0_; have HB := n1_; clear n0_ n1_; (try clear hb); (try clear hb2); (try clear hk); (try clear hi)) | (go_at_call 10; (with_reducible refine (umlautlaw3_awake.calls k  t132 _ ?side1 A9.out).mono ?_); (case side1 => exact GW.below HG.out (by repeat (first | (with_reducible first | exact HB.out | apply below_alloc | apply pw_below_drewN | apply below_drew1 | refine below_set ?_ GE130.out) | exact HB.out))); rintro e w15 ⟨rfl, hb⟩; have n0_ := Aside0.mk (blk_below (g := gb130) (o := .cells #[.int .i64 (Go.bits .and .i64 a2 65535), .int .i64 t127, .int .i64 t128, .bool t129] 26 (0, 0)) (by (with_reducible repeat (first | refine blk_drewN ?_ _ | refine blk_drew ?_ | refine blk_alloc ?_ _)); exact BK130.out) hb); have n1_ := Aside0.mk (below_step (by repeat (first | (with_reducible first | exact HB.out | apply below_alloc | apply pw_below_drewN | apply below_drew1 | refine below_set ?_ GE130.out) | exact HB.out)) hb); clear BK130; clear HB; have BK130 := n0_; have HB := n1_; clear n0_ n1_; (try clear hb); (try clear hb2); (try clear hk); (try clear hi)))
      go_ret
      exact ⟨by first | rfl | (simp [errW_none, errW_some] <;> rfl) | (simp [*, errW_none, errW_some] <;> rfl), by repeat (first | (with_reducible first | exact HB.out | apply below_alloc | apply pw_below_drewN | apply below_drew1 | refine below_set ?_ GE130.out) | exact HB.out)⟩
    · rw [if_neg c8] at H
      have c8b0 : (t125 == t131) = false := beq_eq_false_iff_ne.mpr c8
      have c8b1 : (t125 != t131) = true := bne_iff_ne.mpr c8
      exact absurd (H.trans (congrArg some HT.out)) (by decide)
  · rw [if_neg c6] at H
    have c6b0 : (a1 == 1) = false := beq_eq_false_iff_ne.mpr c6
    have c6b1 : (a1 != 1) = true := bne_iff_ne.mpr c6
    by_cases c16 : a1 = 2
    · rw [if_pos c16] at H
      have c16b0 : (a1 == 2) = true := beq_iff_eq.mpr c16
      have c16b1 : (a1 != 2) = false := bne_eq_false_iff_eq.mpr c16
      clear c16
      replace H := Option.bind_eq_some_iff.mp H
      obtain ⟨t133, A170, H⟩ := H
      replace H : (if t125 = t133 then ((umlautlaw3_awake.f k).bind fun t134 => (some t134)) else (some false)) = some r := H
      have A17 := Aside0.mk A170
      clear A170
      by_cases c18 : t125 = t133
      · rw [if_pos c18] at H
        have c18b0 : (t125 == t133) = true := beq_iff_eq.mpr c18
        have c18b1 : (t125 != t133) = false := bne_eq_false_iff_eq.mpr c18
        clear c18
        replace H := Option.bind_eq_some_iff.mp H
        obtain ⟨t134, A190, H⟩ := H
        replace H : (some t134) = some r := H
        have A19 := Aside0.mk A190
        clear A190
        obtain rfl := Option.some.inj H
        go_enter Tryd.func3, Tryd.ntmps3
        go_wp2_with (first | ((with_reducible refine gate_callee (f := 7) rfl ?_); refine goesL_ (some 12) rfl rfl Tryd.func7 (by kernel_rfl) rfl #[.int .u32 a0, .int .i64 a1, .int .i64 a2] rfl (by (try simp only [List.map_toArray, List.map_cons, List.map_nil]); first | done | rfl | (simp only [List.length_drop, List.length_take]; rfl)) ?_; (with_reducible refine (elem_Elem_With.calls k a0 a1 a2 t125 _ A4.out).mono ?_); rintro e w20 ⟨rfl, hb⟩; refine ⟨_, rfl, ?_⟩; have n0_ := Aside0.mk (below_step (by repeat (first | (with_reducible first | exact HB.out | apply below_alloc | apply pw_below_drewN | apply below_drew1) | exact HB.out)) hb); clear HB; have HB := n0_; clear n0_; (try clear hb); (try clear hb2); (try clear hk); (try clear hi)) | ((with_reducible refine gate_callee (f := 8) rfl ?_); refine goesL_ (some 14) rfl rfl Tryd.func8 (by kernel_rfl) rfl #[.int .u32 a0] rfl (by (try simp only [List.map_toArray, List.map_cons, List.map_nil]); first | done | rfl | (simp only [List.length_drop, List.length_take]; rfl)) ?_; (with_reducible refine (umlautref5_Of.calls a0 t126 t127 t128 t129 _ A5.out).mono ?_); rintro e w21 ⟨rfl, hb⟩; refine ⟨_, rfl, ?_⟩; have n0_ := Aside0.mk (below_step (by repeat (first | (with_reducible first | exact HB.out | apply below_alloc | apply pw_below_drewN | apply below_drew1) | exact HB.out)) hb); clear HB; have HB := n0_; clear n0_; (try clear hb); (try clear hb2); (try clear hk); (try clear hi)) | ((with_reducible refine gate_dst (N := 8) rfl ?_); refine box_event ?hg (N := 8) ?hd (cs := #[.int .i64 0, .int .i64 0, .int .i64 0, .bool false]) (t := 26) ?hr ?_; (case hd => rfl); (case hg => rfl); (case hr => first | (go_simp; done) | (go_simp; rfl)); intro gb130 hg w22 hbox hb; have n0_ := Aside0.mk (below_step (by repeat (first | (with_reducible first | exact HB.out | apply below_alloc | apply pw_below_drewN | apply below_drew1) | exact HB.out)) hb); have n1_ := Aside0.mk (hbox); have n2_ := Aside0.mk ((by rw [hg]; exact (below_size (by repeat (first | (with_reducible first | exact HB.out | apply below_alloc | apply pw_below_drewN | apply below_drew1) | exact HB.out))) : w.heap.size ≤ gb130)); have n3_ := Aside0.mk ((by rw [hg]; exact (below_size (by repeat (first | (with_reducible first | exact HB.out | apply below_alloc | apply pw_below_drewN | apply below_drew1) | exact HB.out))) : w.heap.size ≤ gb130)); clear HB; have HB := n0_; have BK130 := n1_; have GW130 := n2_; have GE130 := n3_; clear n0_ n1_ n2_ n3_; clear hb hbox hg; have hcz23_0 : w22.cell? ⟨gb130, 0, none⟩ = some (.int .i64 0) := (blk_cell BK130.out 0).trans rfl; have hcz23_1 : w22.cell? ⟨gb130, 1, none⟩ = some (.int .i64 0) := (blk_cell BK130.out 1).trans rfl; have hcz23_2 : w22.cell? ⟨gb130, 2, none⟩ = some (.int .i64 0) := (blk_cell BK130.out 2).trans rfl; have hcz23_3 : w22.cell? ⟨gb130, 3, none⟩ = some (.bool false) := (blk_cell BK130.out 3).trans rfl; have hfz23_0 := blk_frozen BK130.out 0; have hfz23_1 := blk_frozen BK130.out 1; have hfz23_2 := blk_frozen BK130.out 2; have hfz23_3 := blk_frozen BK130.out 3) | ((with_reducible refine gate_callee (f := 9) rfl ?_); refine goesL_ (some 33) rfl rfl Tryd.func9 (by kernel_rfl) rfl #[.agg #[.int .i64 t126, .int .i64 (Go.bits .and .i64 a2 255), .int .i64 t128, .bool t129]] rfl (by (try simp only [List.map_toArray, List.map_cons, List.map_nil]); first | done | rfl | (simp only [List.length_drop, List.length_take]; rfl)) ?_; (with_reducible refine (umlautref5_Elem_Word.calls t126 (Go.bits .and .i64 a2 255) t128 t129 t133 _ A17.out).mono ?_); rintro e w24 ⟨rfl, hb⟩; refine ⟨_, rfl, ?_⟩; have n0_ := Aside0.mk (blk_below (g := gb130) (o := .cells #[.int .i64 t126, .int .i64 (Go.bits .and .i64 a2 255), .int .i64 t128, .bool t129] 26 (0, 0)) (by (with_reducible repeat (first | refine blk_drewN ?_ _ | refine blk_drew ?_ | refine blk_alloc ?_ _)); refine blk_put (cs := #[.int .i64 t126, .int .i64 t127, .int .i64 t128, .bool t129]) ?_ 1 _ rfl; (with_reducible repeat (first | refine blk_drewN ?_ _ | refine blk_drew ?_ | refine blk_alloc ?_ _)); refine blk_put (cs := #[.int .i64 t126, .int .i64 t127, .int .i64 t128, .bool false]) ?_ 3 _ rfl; (with_reducible repeat (first | refine blk_drewN ?_ _ | refine blk_drew ?_ | refine blk_alloc ?_ _)); refine blk_put (cs := #[.int .i64 t126, .int .i64 t127, .int .i64 0, .bool false]) ?_ 2 _ rfl; (with_reducible repeat (first | refine blk_drewN ?_ _ | refine blk_drew ?_ | refine blk_alloc ?_ _)); refine blk_put (cs := #[.int .i64 t126, .int .i64 0, .int .i64 0, .bool false]) ?_ 1 _ rfl; (with_reducible repeat (first | refine blk_drewN ?_ _ | refine blk_drew ?_ | refine blk_alloc ?_ _)); refine blk_put (cs := #[.int .i64 0, .int .i64 0, .int .i64 0, .bool false]) ?_ 0 _ rfl; (with_reducible repeat (first | refine blk_drewN ?_ _ | refine blk_drew ?_ | refine blk_alloc ?_ _)); exact BK130.out) hb); have n1_ := Aside0.mk (below_step (by repeat (first | (with_reducible first | exact HB.out | apply below_alloc | apply pw_below_drewN | apply below_drew1 | refine below_set ?_ GE130.out) | exact HB.out)) hb); clear BK130; clear HB; have BK130 := n0_; have HB := n1_; clear n0_ n1_; (try clear hb); (try clear hb2); (try clear hk); (try clear hi)) | (go_at_call 10; (with_reducible refine (umlautlaw3_awake.calls k  t134 _ ?side1 A19.out).mono ?_); (case side1 => exact GW.below HG.out (by repeat (first | (with_reducible first | exact HB.out | apply below_alloc | apply pw_below_drewN | apply below_drew1 | refine below_set ?_ GE130.out) | exact HB.out))); rintro e w25 ⟨rfl, hb⟩; have n0_ := Aside0.mk (blk_below (g := gb130) (o := .cells #[.int .i64 t126, .int .i64 (Go.bits .and .i64 a2 255), .int .i64 t128, .bool t129] 26 (0, 0)) (by (with_reducible repeat (first | refine blk_drewN ?_ _ | refine blk_drew ?_ | refine blk_alloc ?_ _)); exact BK130.out) hb); have n1_ := Aside0.mk (below_step (by repeat (first | (with_reducible first | exact HB.out | apply below_alloc | apply pw_below_drewN | apply below_drew1 | refine below_set ?_ GE130.out) | exact HB.out)) hb); clear BK130; clear HB; have BK130 := n0_; have HB := n1_; clear n0_ n1_; (try clear hb); (try clear hb2); (try clear hk); (try clear hi)))
        go_ret
        exact ⟨by first | rfl | (simp [errW_none, errW_some] <;> rfl) | (simp [*, errW_none, errW_some] <;> rfl), by repeat (first | (with_reducible first | exact HB.out | apply below_alloc | apply pw_below_drewN | apply below_drew1 | refine below_set ?_ GE130.out) | exact HB.out)⟩
      · rw [if_neg c18] at H
        have c18b0 : (t125 == t133) = false := beq_eq_false_iff_ne.mpr c18
        have c18b1 : (t125 != t133) = true := bne_iff_ne.mpr c18
        exact absurd (H.trans (congrArg some HT.out)) (by decide)
    · rw [if_neg c16] at H
      have c16b0 : (a1 == 2) = false := beq_eq_false_iff_ne.mpr c16
      have c16b1 : (a1 != 2) = true := bne_iff_ne.mpr c16
      by_cases c26 : a1 = 3
      · rw [if_pos c26] at H
        have c26b0 : (a1 == 3) = true := beq_iff_eq.mpr c26
        have c26b1 : (a1 != 3) = false := bne_eq_false_iff_eq.mpr c26
        clear c26
        replace H := Option.bind_eq_some_iff.mp H
        obtain ⟨t135, A270, H⟩ := H
        replace H : (if t125 = t135 then ((umlautlaw3_awake.f k).bind fun t136 => (some t136)) else (some false)) = some r := H
        have A27 := Aside0.mk A270
        clear A270
        by_cases c28 : t125 = t135
        · rw [if_pos c28] at H
          have c28b0 : (t125 == t135) = true := beq_iff_eq.mpr c28
          have c28b1 : (t125 != t135) = false := bne_eq_false_iff_eq.mpr c28
          clear c28
          replace H := Option.bind_eq_some_iff.mp H
          obtain ⟨t136, A290, H⟩ := H
          replace H : (some t136) = some r := H
          have A29 := Aside0.mk A290
          clear A290
          obtain rfl := Option.some.inj H
          go_enter Tryd.func3, Tryd.ntmps3
          go_wp2_with (first | ((with_reducible refine gate_callee (f := 7) rfl ?_); refine goesL_ (some 12) rfl rfl Tryd.func7 (by kernel_rfl) rfl #[.int .u32 a0, .int .i64 a1, .int .i64 a2] rfl (by (try simp only [List.map_toArray, List.map_cons, List.map_nil]); first | done | rfl | (simp only [List.length_drop, List.length_take]; rfl)) ?_; (with_reducible refine (elem_Elem_With.calls k a0 a1 a2 t125 _ A4.out).mono ?_); rintro e w30 ⟨rfl, hb⟩; refine ⟨_, rfl, ?_⟩; have n0_ := Aside0.mk (below_step (by repeat (first | (with_reducible first | exact HB.out | apply below_alloc | apply pw_below_drewN | apply below_drew1) | exact HB.out)) hb); clear HB; have HB := n0_; clear n0_; (try clear hb); (try clear hb2); (try clear hk); (try clear hi)) | ((with_reducible refine gate_callee (f := 8) rfl ?_); refine goesL_ (some 14) rfl rfl Tryd.func8 (by kernel_rfl) rfl #[.int .u32 a0] rfl (by (try simp only [List.map_toArray, List.map_cons, List.map_nil]); first | done | rfl | (simp only [List.length_drop, List.length_take]; rfl)) ?_; (with_reducible refine (umlautref5_Of.calls a0 t126 t127 t128 t129 _ A5.out).mono ?_); rintro e w31 ⟨rfl, hb⟩; refine ⟨_, rfl, ?_⟩; have n0_ := Aside0.mk (below_step (by repeat (first | (with_reducible first | exact HB.out | apply below_alloc | apply pw_below_drewN | apply below_drew1) | exact HB.out)) hb); clear HB; have HB := n0_; clear n0_; (try clear hb); (try clear hb2); (try clear hk); (try clear hi)) | ((with_reducible refine gate_dst (N := 8) rfl ?_); refine box_event ?hg (N := 8) ?hd (cs := #[.int .i64 0, .int .i64 0, .int .i64 0, .bool false]) (t := 26) ?hr ?_; (case hd => rfl); (case hg => rfl); (case hr => first | (go_simp; done) | (go_simp; rfl)); intro gb130 hg w32 hbox hb; have n0_ := Aside0.mk (below_step (by repeat (first | (with_reducible first | exact HB.out | apply below_alloc | apply pw_below_drewN | apply below_drew1) | exact HB.out)) hb); have n1_ := Aside0.mk (hbox); have n2_ := Aside0.mk ((by rw [hg]; exact (below_size (by repeat (first | (with_reducible first | exact HB.out | apply below_alloc | apply pw_below_drewN | apply below_drew1) | exact HB.out))) : w.heap.size ≤ gb130)); have n3_ := Aside0.mk ((by rw [hg]; exact (below_size (by repeat (first | (with_reducible first | exact HB.out | apply below_alloc | apply pw_below_drewN | apply below_drew1) | exact HB.out))) : w.heap.size ≤ gb130)); clear HB; have HB := n0_; have BK130 := n1_; have GW130 := n2_; have GE130 := n3_; clear n0_ n1_ n2_ n3_; clear hb hbox hg; have hcz33_0 : w32.cell? ⟨gb130, 0, none⟩ = some (.int .i64 0) := (blk_cell BK130.out 0).trans rfl; have hcz33_1 : w32.cell? ⟨gb130, 1, none⟩ = some (.int .i64 0) := (blk_cell BK130.out 1).trans rfl; have hcz33_2 : w32.cell? ⟨gb130, 2, none⟩ = some (.int .i64 0) := (blk_cell BK130.out 2).trans rfl; have hcz33_3 : w32.cell? ⟨gb130, 3, none⟩ = some (.bool false) := (blk_cell BK130.out 3).trans rfl; have hfz33_0 := blk_frozen BK130.out 0; have hfz33_1 := blk_frozen BK130.out 1; have hfz33_2 := blk_frozen BK130.out 2; have hfz33_3 := blk_frozen BK130.out 3) | ((with_reducible refine gate_callee (f := 9) rfl ?_); refine goesL_ (some 33) rfl rfl Tryd.func9 (by kernel_rfl) rfl #[.agg #[.int .i64 t126, .int .i64 t127, .int .i64 (Go.bits .and .i64 a2 127), .bool t129]] rfl (by (try simp only [List.map_toArray, List.map_cons, List.map_nil]); first | done | rfl | (simp only [List.length_drop, List.length_take]; rfl)) ?_; (with_reducible refine (umlautref5_Elem_Word.calls t126 t127 (Go.bits .and .i64 a2 127) t129 t135 _ A27.out).mono ?_); rintro e w34 ⟨rfl, hb⟩; refine ⟨_, rfl, ?_⟩; have n0_ := Aside0.mk (blk_below (g := gb130) (o := .cells #[.int .i64 t126, .int .i64 t127, .int .i64 (Go.bits .and .i64 a2 127), .bool t129] 26 (0, 0)) (by (with_reducible repeat (first | refine blk_drewN ?_ _ | refine blk_drew ?_ | refine blk_alloc ?_ _)); refine blk_put (cs := #[.int .i64 t126, .int .i64 t127, .int .i64 t128, .bool t129]) ?_ 2 _ rfl; (with_reducible repeat (first | refine blk_drewN ?_ _ | refine blk_drew ?_ | refine blk_alloc ?_ _)); refine blk_put (cs := #[.int .i64 t126, .int .i64 t127, .int .i64 t128, .bool false]) ?_ 3 _ rfl; (with_reducible repeat (first | refine blk_drewN ?_ _ | refine blk_drew ?_ | refine blk_alloc ?_ _)); refine blk_put (cs := #[.int .i64 t126, .int .i64 t127, .int .i64 0, .bool false]) ?_ 2 _ rfl; (with_reducible repeat (first | refine blk_drewN ?_ _ | refine blk_drew ?_ | refine blk_alloc ?_ _)); refine blk_put (cs := #[.int .i64 t126, .int .i64 0, .int .i64 0, .bool false]) ?_ 1 _ rfl; (with_reducible repeat (first | refine blk_drewN ?_ _ | refine blk_drew ?_ | refine blk_alloc ?_ _)); refine blk_put (cs := #[.int .i64 0, .int .i64 0, .int .i64 0, .bool false]) ?_ 0 _ rfl; (with_reducible repeat (first | refine blk_drewN ?_ _ | refine blk_drew ?_ | refine blk_alloc ?_ _)); exact BK130.out) hb); have n1_ := Aside0.mk (below_step (by repeat (first | (with_reducible first | exact HB.out | apply below_alloc | apply pw_below_drewN | apply below_drew1 | refine below_set ?_ GE130.out) | exact HB.out)) hb); clear BK130; clear HB; have BK130 := n0_; have HB := n1_; clear n0_ n1_; (try clear hb); (try clear hb2); (try clear hk); (try clear hi)) | (go_at_call 10; (with_reducible refine (umlautlaw3_awake.calls k  t136 _ ?side1 A29.out).mono ?_); (case side1 => exact GW.below HG.out (by repeat (first | (with_reducible first | exact HB.out | apply below_alloc | apply pw_below_drewN | apply below_drew1 | refine below_set ?_ GE130.out) | exact HB.out))); rintro e w35 ⟨rfl, hb⟩; have n0_ := Aside0.mk (blk_below (g := gb130) (o := .cells #[.int .i64 t126, .int .i64 t127, .int .i64 (Go.bits .and .i64 a2 127), .bool t129] 26 (0, 0)) (by (with_reducible repeat (first | refine blk_drewN ?_ _ | refine blk_drew ?_ | refine blk_alloc ?_ _)); exact BK130.out) hb); have n1_ := Aside0.mk (below_step (by repeat (first | (with_reducible first | exact HB.out | apply below_alloc | apply pw_below_drewN | apply below_drew1 | refine below_set ?_ GE130.out) | exact HB.out)) hb); clear BK130; clear HB; have BK130 := n0_; have HB := n1_; clear n0_ n1_; (try clear hb); (try clear hb2); (try clear hk); (try clear hi)))
          go_ret
          exact ⟨by first | rfl | (simp [errW_none, errW_some] <;> rfl) | (simp [*, errW_none, errW_some] <;> rfl), by repeat (first | (with_reducible first | exact HB.out | apply below_alloc | apply pw_below_drewN | apply below_drew1 | refine below_set ?_ GE130.out) | exact HB.out)⟩
        · rw [if_neg c28] at H
          have c28b0 : (t125 == t135) = false := beq_eq_false_iff_ne.mpr c28
          have c28b1 : (t125 != t135) = true := bne_iff_ne.mpr c28
          exact absurd (H.trans (congrArg some HT.out)) (by decide)
      · rw [if_neg c26] at H
        have c26b0 : (a1 == 3) = false := beq_eq_false_iff_ne.mpr c26
        have c26b1 : (a1 != 3) = true := bne_iff_ne.mpr c26
        replace H := Option.bind_eq_some_iff.mp H
        obtain ⟨t137, A360, H⟩ := H
        replace H : (if t125 = t137 then ((umlautlaw3_awake.f k).bind fun t138 => (some t138)) else (some false)) = some r := H
        have A36 := Aside0.mk A360
        clear A360
        by_cases c37 : t125 = t137
        · rw [if_pos c37] at H
          have c37b0 : (t125 == t137) = true := beq_iff_eq.mpr c37
          have c37b1 : (t125 != t137) = false := bne_eq_false_iff_eq.mpr c37
          clear c37
          replace H := Option.bind_eq_some_iff.mp H
          obtain ⟨t138, A380, H⟩ := H
          replace H : (some t138) = some r := H
          have A38 := Aside0.mk A380
          clear A380
          obtain rfl := Option.some.inj H
          go_enter Tryd.func3, Tryd.ntmps3
          go_wp2_with (first | ((with_reducible refine gate_callee (f := 7) rfl ?_); refine goesL_ (some 12) rfl rfl Tryd.func7 (by kernel_rfl) rfl #[.int .u32 a0, .int .i64 a1, .int .i64 a2] rfl (by (try simp only [List.map_toArray, List.map_cons, List.map_nil]); first | done | rfl | (simp only [List.length_drop, List.length_take]; rfl)) ?_; (with_reducible refine (elem_Elem_With.calls k a0 a1 a2 t125 _ A4.out).mono ?_); rintro e w39 ⟨rfl, hb⟩; refine ⟨_, rfl, ?_⟩; have n0_ := Aside0.mk (below_step (by repeat (first | (with_reducible first | exact HB.out | apply below_alloc | apply pw_below_drewN | apply below_drew1) | exact HB.out)) hb); clear HB; have HB := n0_; clear n0_; (try clear hb); (try clear hb2); (try clear hk); (try clear hi)) | ((with_reducible refine gate_callee (f := 8) rfl ?_); refine goesL_ (some 14) rfl rfl Tryd.func8 (by kernel_rfl) rfl #[.int .u32 a0] rfl (by (try simp only [List.map_toArray, List.map_cons, List.map_nil]); first | done | rfl | (simp only [List.length_drop, List.length_take]; rfl)) ?_; (with_reducible refine (umlautref5_Of.calls a0 t126 t127 t128 t129 _ A5.out).mono ?_); rintro e w40 ⟨rfl, hb⟩; refine ⟨_, rfl, ?_⟩; have n0_ := Aside0.mk (below_step (by repeat (first | (with_reducible first | exact HB.out | apply below_alloc | apply pw_below_drewN | apply below_drew1) | exact HB.out)) hb); clear HB; have HB := n0_; clear n0_; (try clear hb); (try clear hb2); (try clear hk); (try clear hi)) | ((with_reducible refine gate_dst (N := 8) rfl ?_); refine box_event ?hg (N := 8) ?hd (cs := #[.int .i64 0, .int .i64 0, .int .i64 0, .bool false]) (t := 26) ?hr ?_; (case hd => rfl); (case hg => rfl); (case hr => first | (go_simp; done) | (go_simp; rfl)); intro gb130 hg w41 hbox hb; have n0_ := Aside0.mk (below_step (by repeat (first | (with_reducible first | exact HB.out | apply below_alloc | apply pw_below_drewN | apply below_drew1) | exact HB.out)) hb); have n1_ := Aside0.mk (hbox); have n2_ := Aside0.mk ((by rw [hg]; exact (below_size (by repeat (first | (with_reducible first | exact HB.out | apply below_alloc | apply pw_below_drewN | apply below_drew1) | exact HB.out))) : w.heap.size ≤ gb130)); have n3_ := Aside0.mk ((by rw [hg]; exact (below_size (by repeat (first | (with_reducible first | exact HB.out | apply below_alloc | apply pw_below_drewN | apply below_drew1) | exact HB.out))) : w.heap.size ≤ gb130)); clear HB; have HB := n0_; have BK130 := n1_; have GW130 := n2_; have GE130 := n3_; clear n0_ n1_ n2_ n3_; clear hb hbox hg; have hcz42_0 : w41.cell? ⟨gb130, 0, none⟩ = some (.int .i64 0) := (blk_cell BK130.out 0).trans rfl; have hcz42_1 : w41.cell? ⟨gb130, 1, none⟩ = some (.int .i64 0) := (blk_cell BK130.out 1).trans rfl; have hcz42_2 : w41.cell? ⟨gb130, 2, none⟩ = some (.int .i64 0) := (blk_cell BK130.out 2).trans rfl; have hcz42_3 : w41.cell? ⟨gb130, 3, none⟩ = some (.bool false) := (blk_cell BK130.out 3).trans rfl; have hfz42_0 := blk_frozen BK130.out 0; have hfz42_1 := blk_frozen BK130.out 1; have hfz42_2 := blk_frozen BK130.out 2; have hfz42_3 := blk_frozen BK130.out 3) | ((with_reducible refine gate_callee (f := 9) rfl ?_); refine goesL_ (some 33) rfl rfl Tryd.func9 (by kernel_rfl) rfl #[.agg #[.int .i64 t126, .int .i64 t127, .int .i64 t128, .bool t129]] rfl (by (try simp only [List.map_toArray, List.map_cons, List.map_nil]); first | done | rfl | (simp only [List.length_drop, List.length_take]; rfl)) ?_; (with_reducible refine (umlautref5_Elem_Word.calls t126 t127 t128 t129 t137 _ A36.out).mono ?_); rintro e w43 ⟨rfl, hb⟩; refine ⟨_, rfl, ?_⟩; have n0_ := Aside0.mk (blk_below (g := gb130) (o := .cells #[.int .i64 t126, .int .i64 t127, .int .i64 t128, .bool t129] 26 (0, 0)) (by (with_reducible repeat (first | refine blk_drewN ?_ _ | refine blk_drew ?_ | refine blk_alloc ?_ _)); refine blk_put (cs := #[.int .i64 t126, .int .i64 t127, .int .i64 t128, .bool false]) ?_ 3 _ rfl; (with_reducible repeat (first | refine blk_drewN ?_ _ | refine blk_drew ?_ | refine blk_alloc ?_ _)); refine blk_put (cs := #[.int .i64 t126, .int .i64 t127, .int .i64 0, .bool false]) ?_ 2 _ rfl; (with_reducible repeat (first | refine blk_drewN ?_ _ | refine blk_drew ?_ | refine blk_alloc ?_ _)); refine blk_put (cs := #[.int .i64 t126, .int .i64 0, .int .i64 0, .bool false]) ?_ 1 _ rfl; (with_reducible repeat (first | refine blk_drewN ?_ _ | refine blk_drew ?_ | refine blk_alloc ?_ _)); refine blk_put (cs := #[.int .i64 0, .int .i64 0, .int .i64 0, .bool false]) ?_ 0 _ rfl; (with_reducible repeat (first | refine blk_drewN ?_ _ | refine blk_drew ?_ | refine blk_alloc ?_ _)); exact BK130.out) hb); have n1_ := Aside0.mk (below_step (by repeat (first | (with_reducible first | exact HB.out | apply below_alloc | apply pw_below_drewN | apply below_drew1 | refine below_set ?_ GE130.out) | exact HB.out)) hb); clear BK130; clear HB; have BK130 := n0_; have HB := n1_; clear n0_ n1_; (try clear hb); (try clear hb2); (try clear hk); (try clear hi)) | (go_at_call 10; (with_reducible refine (umlautlaw3_awake.calls k  t138 _ ?side1 A38.out).mono ?_); (case side1 => exact GW.below HG.out (by repeat (first | (with_reducible first | exact HB.out | apply below_alloc | apply pw_below_drewN | apply below_drew1 | refine below_set ?_ GE130.out) | exact HB.out))); rintro e w44 ⟨rfl, hb⟩; have n0_ := Aside0.mk (blk_below (g := gb130) (o := .cells #[.int .i64 t126, .int .i64 t127, .int .i64 t128, .bool t129] 26 (0, 0)) (by (with_reducible repeat (first | refine blk_drewN ?_ _ | refine blk_drew ?_ | refine blk_alloc ?_ _)); exact BK130.out) hb); have n1_ := Aside0.mk (below_step (by repeat (first | (with_reducible first | exact HB.out | apply below_alloc | apply pw_below_drewN | apply below_drew1 | refine below_set ?_ GE130.out) | exact HB.out)) hb); clear BK130; clear HB; have BK130 := n0_; have HB := n1_; clear n0_ n1_; (try clear hb); (try clear hb2); (try clear hk); (try clear hi)))
          go_ret
          exact ⟨by first | rfl | (simp [errW_none, errW_some] <;> rfl) | (simp [*, errW_none, errW_some] <;> rfl), by repeat (first | (with_reducible first | exact HB.out | apply below_alloc | apply pw_below_drewN | apply below_drew1 | refine below_set ?_ GE130.out) | exact HB.out)⟩
        · rw [if_neg c37] at H
          have c37b0 : (t125 == t137) = false := beq_eq_false_iff_ne.mpr c37
          have c37b1 : (t125 != t137) = true := bne_iff_ne.mpr c37
          exact absurd (H.trans (congrArg some HT.out)) (by decide)

/-- THE ONE PURE STATEMENT of umlautlaw3_ElemChanges: yours. -/
def umlautlaw3_ElemChanges.Pure : Prop := ∀ (a0 : Int) (a1 : Int) (a2 : Int), (Lit.int .u32 a0).wf = true → (Lit.int .i64 a1).wf = true → (Lit.int .i64 a2).wf = true → ∃ k, umlautlaw3_ElemChanges.f k a0 a1 a2 = some true
theorem umlautlaw3_ElemChanges.walk (P : umlautlaw3_ElemChanges.Pure) (a0 : Int) (a1 : Int) (a2 : Int) (w : World) (hG0 : GW w) (w0 : (Lit.int .u32 a0).wf = true) (w1 : (Lit.int .i64 a1).wf = true) (w2 : (Lit.int .i64 a2).wf = true) :
    Calls Tryd.prog 3 #[.int .u32 a0, .int .i64 a1, .int .i64 a2] w fun e w' => e = .returned (.bool true) ∧ Below w.heap.size w w' := by
  obtain ⟨k, h⟩ := P a0 a1 a2 w0 w1 w2
  refine (umlautlaw3_ElemChanges.calls k a0 a1 a2 true w hG0 h rfl).mono ?_
  rintro e w' ⟨rfl, hd⟩
  exact ⟨rfl, hd⟩

/-! ### elem_Elem_Ok: function 14 -/
def elem_Elem_Ok.f (k : Nat) (a0 : Int) : Option (Bool) := (elem_Elem_Weight.f k a0 1).bind fun t139 => ((elem_Elem_Weight.f k a0 2).bind fun t140 => ((elem_Elem_Weight.f k a0 3).bind fun t141 => (if t139 > 0 then (if t140 > 0 then (if t141 > 0 then ((elem_Elem_Variable.f a0).bind fun t142 => (if t142 = true then (some (decide (t139 > 0))) else (some true))) else (some false)) else (some false)) else (if t140 > 0 then (if t141 > 0 then ((elem_Elem_Variable.f a0).bind fun t143 => (if t143 = true then (some (decide (t139 > 0))) else (some true))) else (some false)) else ((elem_Elem_Variable.f a0).bind fun t144 => (if t144 = true then (some (decide (t139 > 0))) else (some true)))))))
theorem elem_Elem_Ok.mono : ∀ a0 k, LeO (elem_Elem_Ok.f k a0) (elem_Elem_Ok.f (k + 1) a0) := by
  intro a0 k
  unfold elem_Elem_Ok.f
  repeat' first
      | (with_reducible exact elem_Elem_Weight.mono _ _ _)
      | (with_reducible exact LeO.refl _)
      | (with_reducible exact LeO.none _)
      | (with_reducible refine LeO.ite ?_ ?_)
      | (with_reducible refine LeO.bind ?_ (fun _ => ?_))
      | exact elem_Elem_Weight.mono _ _ _
      | exact LeO.none _
      | refine LeO.ite ?_ ?_
      | refine LeO.bind ?_ (fun _ => ?_)
set_option maxHeartbeats 8000000 in
set_option maxRecDepth 100000 in
theorem elem_Elem_Ok.calls (k : Nat) (a0 : Int) (r : Bool) (w : World) (h : elem_Elem_Ok.f k a0 = some r) :
    Calls Tryd.prog 14 #[.int .u32 a0] w fun e w' => e = .returned (.bool r) ∧ Below w.heap.size w w' := by
  have HB := Aside0.mk (Below.refl w.heap.size w)
  have H : ((elem_Elem_Weight.f k a0 1).bind fun t139 => ((elem_Elem_Weight.f k a0 2).bind fun t140 => ((elem_Elem_Weight.f k a0 3).bind fun t141 => (if t139 > 0 then (if t140 > 0 then (if t141 > 0 then ((elem_Elem_Variable.f a0).bind fun t142 => (if t142 = true then (some (decide (t139 > 0))) else (some true))) else (some false)) else (some false)) else (if t140 > 0 then (if t141 > 0 then ((elem_Elem_Variable.f a0).bind fun t143 => (if t143 = true then (some (decide (t139 > 0))) else (some true))) else (some false)) else ((elem_Elem_Variable.f a0).bind fun t144 => (if t144 = true then (some (decide (t139 > 0))) else (some true)))))))) = some r := h
  clear h
  replace H := Option.bind_eq_some_iff.mp H
  obtain ⟨t139, A20, H⟩ := H
  replace H : ((elem_Elem_Weight.f k a0 2).bind fun t140 => ((elem_Elem_Weight.f k a0 3).bind fun t141 => (if t139 > 0 then (if t140 > 0 then (if t141 > 0 then ((elem_Elem_Variable.f a0).bind fun t142 => (if t142 = true then (some (decide (t139 > 0))) else (some true))) else (some false)) else (some false)) else (if t140 > 0 then (if t141 > 0 then ((elem_Elem_Variable.f a0).bind fun t143 => (if t143 = true then (some (decide (t139 > 0))) else (some true))) else (some false)) else ((elem_Elem_Variable.f a0).bind fun t144 => (if t144 = true then (some (decide (t139 > 0))) else (some true))))))) = some r := H
  have A2 := Aside0.mk A20
  clear A20
  replace H := Option.bind_eq_some_iff.mp H
  obtain ⟨t140, A30, H⟩ := H
  replace H : ((elem_Elem_Weight.f k a0 3).bind fun t141 => (if t139 > 0 then (if t140 > 0 then (if t141 > 0 then ((elem_Elem_Variable.f a0).bind fun t142 => (if t142 = true then (some (decide (t139 > 0))) else (some true))) else (some false)) else (some false)) else (if t140 > 0 then (if t141 > 0 then ((elem_Elem_Variable.f a0).bind fun t143 => (if t143 = true then (some (decide (t139 > 0))) else (some true))) else (some false)) else ((elem_Elem_Variable.f a0).bind fun t144 => (if t144 = true then (some (decide (t139 > 0))) else (some true)))))) = some r := H
  have A3 := Aside0.mk A30
  clear A30
  replace H := Option.bind_eq_some_iff.mp H
  obtain ⟨t141, A40, H⟩ := H
  replace H : (if t139 > 0 then (if t140 > 0 then (if t141 > 0 then ((elem_Elem_Variable.f a0).bind fun t142 => (if t142 = true then (some (decide (t139 > 0))) else (some true))) else (some false)) else (some false)) else (if t140 > 0 then (if t141 > 0 then ((elem_Elem_Variable.f a0).bind fun t143 => (if t143 = true then (some (decide (t139 > 0))) else (some true))) else (some false)) else ((elem_Elem_Variable.f a0).bind fun t144 => (if t144 = true then (some (decide (t139 > 0))) else (some true))))) = some r := H
  have A4 := Aside0.mk A40
  clear A40
  by_cases c5 : t139 > 0
  · rw [if_pos c5] at H
    have c5b0 : decide (0 < t139) = true := decide_eq_true c5
    clear c5
    by_cases c6 : t140 > 0
    · rw [if_pos c6] at H
      have c6b0 : decide (0 < t140) = true := decide_eq_true c6
      clear c6
      by_cases c7 : t141 > 0
      · rw [if_pos c7] at H
        have c7b0 : decide (0 < t141) = true := decide_eq_true c7
        clear c7
        replace H := Option.bind_eq_some_iff.mp H
        obtain ⟨t142, A80, H⟩ := H
        replace H : (if t142 = true then (some (decide (t139 > 0))) else (some true)) = some r := H
        have A8 := Aside0.mk A80
        clear A80
        by_cases c9 : t142 = true
        · subst c9
          have H1 : (some (decide (t139 > 0))) = some r := by rw [if_pos rfl] at H; exact H
          clear H
          have H := H1
          clear H1
          obtain rfl := Option.some.inj H
          go_enter Tryd.func14, Tryd.ntmps14
          go_wp2_with (first | ((with_reducible refine gate_callee (f := 12) rfl ?_); refine goesL_ (some 7) rfl rfl Tryd.func12 (by kernel_rfl) rfl #[.int .u32 a0, .int .i64 1] rfl (by (try simp only [List.map_toArray, List.map_cons, List.map_nil]); first | done | rfl | (simp only [List.length_drop, List.length_take]; rfl)) ?_; (with_reducible refine (elem_Elem_Weight.calls k a0 1 t139 _ A2.out).mono ?_); rintro e w10 ⟨rfl, hb⟩; refine ⟨_, rfl, ?_⟩; have n0_ := Aside0.mk (below_step (by repeat (first | (with_reducible first | exact HB.out | apply below_alloc | apply pw_below_drewN | apply below_drew1) | exact HB.out)) hb); clear HB; have HB := n0_; clear n0_; (try clear hb); (try clear hb2); (try clear hk); (try clear hi)) | ((with_reducible refine gate_callee (f := 12) rfl ?_); refine goesL_ (some 10) rfl rfl Tryd.func12 (by kernel_rfl) rfl #[.int .u32 a0, .int .i64 2] rfl (by (try simp only [List.map_toArray, List.map_cons, List.map_nil]); first | done | rfl | (simp only [List.length_drop, List.length_take]; rfl)) ?_; (with_reducible refine (elem_Elem_Weight.calls k a0 2 t140 _ A3.out).mono ?_); rintro e w11 ⟨rfl, hb⟩; refine ⟨_, rfl, ?_⟩; have n0_ := Aside0.mk (below_step (by repeat (first | (with_reducible first | exact HB.out | apply below_alloc | apply pw_below_drewN | apply below_drew1) | exact HB.out)) hb); clear HB; have HB := n0_; clear n0_; (try clear hb); (try clear hb2); (try clear hk); (try clear hi)) | ((with_reducible refine gate_callee (f := 12) rfl ?_); refine goesL_ (some 13) rfl rfl Tryd.func12 (by kernel_rfl) rfl #[.int .u32 a0, .int .i64 3] rfl (by (try simp only [List.map_toArray, List.map_cons, List.map_nil]); first | done | rfl | (simp only [List.length_drop, List.length_take]; rfl)) ?_; (with_reducible refine (elem_Elem_Weight.calls k a0 3 t141 _ A4.out).mono ?_); rintro e w12 ⟨rfl, hb⟩; refine ⟨_, rfl, ?_⟩; have n0_ := Aside0.mk (below_step (by repeat (first | (with_reducible first | exact HB.out | apply below_alloc | apply pw_below_drewN | apply below_drew1) | exact HB.out)) hb); clear HB; have HB := n0_; clear n0_; (try clear hb); (try clear hb2); (try clear hk); (try clear hi)) | (go_at_call 13; (with_reducible refine (elem_Elem_Variable.calls a0 true _ A8.out).mono ?_); rintro e w' ⟨rfl, ⟨nd, rfl⟩⟩))
          go_ret
          exact ⟨by first | rfl | (simp [errW_none, errW_some] <;> rfl) | (simp [*, errW_none, errW_some] <;> rfl), by repeat (first | (with_reducible first | exact HB.out | apply below_alloc | apply pw_below_drewN | apply below_drew1) | exact HB.out)⟩
        · replace c9 := Bool.eq_false_iff.mpr c9
          subst c9
          have H1 : (some true) = some r := by rw [if_neg (show ¬ (false = true) by decide)] at H; exact H
          clear H
          have H := H1
          clear H1
          obtain rfl := Option.some.inj H
          go_enter Tryd.func14, Tryd.ntmps14
          go_wp2_with (first | ((with_reducible refine gate_callee (f := 12) rfl ?_); refine goesL_ (some 7) rfl rfl Tryd.func12 (by kernel_rfl) rfl #[.int .u32 a0, .int .i64 1] rfl (by (try simp only [List.map_toArray, List.map_cons, List.map_nil]); first | done | rfl | (simp only [List.length_drop, List.length_take]; rfl)) ?_; (with_reducible refine (elem_Elem_Weight.calls k a0 1 t139 _ A2.out).mono ?_); rintro e w13 ⟨rfl, hb⟩; refine ⟨_, rfl, ?_⟩; have n0_ := Aside0.mk (below_step (by repeat (first | (with_reducible first | exact HB.out | apply below_alloc | apply pw_below_drewN | apply below_drew1) | exact HB.out)) hb); clear HB; have HB := n0_; clear n0_; (try clear hb); (try clear hb2); (try clear hk); (try clear hi)) | ((with_reducible refine gate_callee (f := 12) rfl ?_); refine goesL_ (some 10) rfl rfl Tryd.func12 (by kernel_rfl) rfl #[.int .u32 a0, .int .i64 2] rfl (by (try simp only [List.map_toArray, List.map_cons, List.map_nil]); first | done | rfl | (simp only [List.length_drop, List.length_take]; rfl)) ?_; (with_reducible refine (elem_Elem_Weight.calls k a0 2 t140 _ A3.out).mono ?_); rintro e w14 ⟨rfl, hb⟩; refine ⟨_, rfl, ?_⟩; have n0_ := Aside0.mk (below_step (by repeat (first | (with_reducible first | exact HB.out | apply below_alloc | apply pw_below_drewN | apply below_drew1) | exact HB.out)) hb); clear HB; have HB := n0_; clear n0_; (try clear hb); (try clear hb2); (try clear hk); (try clear hi)) | ((with_reducible refine gate_callee (f := 12) rfl ?_); refine goesL_ (some 13) rfl rfl Tryd.func12 (by kernel_rfl) rfl #[.int .u32 a0, .int .i64 3] rfl (by (try simp only [List.map_toArray, List.map_cons, List.map_nil]); first | done | rfl | (simp only [List.length_drop, List.length_take]; rfl)) ?_; (with_reducible refine (elem_Elem_Weight.calls k a0 3 t141 _ A4.out).mono ?_); rintro e w15 ⟨rfl, hb⟩; refine ⟨_, rfl, ?_⟩; have n0_ := Aside0.mk (below_step (by repeat (first | (with_reducible first | exact HB.out | apply below_alloc | apply pw_below_drewN | apply below_drew1) | exact HB.out)) hb); clear HB; have HB := n0_; clear n0_; (try clear hb); (try clear hb2); (try clear hk); (try clear hi)) | (go_at_call 13; (with_reducible refine (elem_Elem_Variable.calls a0 false _ A8.out).mono ?_); rintro e w' ⟨rfl, ⟨nd, rfl⟩⟩))
          go_ret
          exact ⟨by first | rfl | (simp [errW_none, errW_some] <;> rfl) | (simp [*, errW_none, errW_some] <;> rfl), by repeat (first | (with_reducible first | exact HB.out | apply below_alloc | apply pw_below_drewN | apply below_drew1) | exact HB.out)⟩
      · rw [if_neg c7] at H
        have c7b0 : decide (0 < t141) = false := decide_eq_false c7
        clear c7
        obtain rfl := Option.some.inj H
        go_enter Tryd.func14, Tryd.ntmps14
        go_wp2_with (first | ((with_reducible refine gate_callee (f := 12) rfl ?_); refine goesL_ (some 7) rfl rfl Tryd.func12 (by kernel_rfl) rfl #[.int .u32 a0, .int .i64 1] rfl (by (try simp only [List.map_toArray, List.map_cons, List.map_nil]); first | done | rfl | (simp only [List.length_drop, List.length_take]; rfl)) ?_; (with_reducible refine (elem_Elem_Weight.calls k a0 1 t139 _ A2.out).mono ?_); rintro e w16 ⟨rfl, hb⟩; refine ⟨_, rfl, ?_⟩; have n0_ := Aside0.mk (below_step (by repeat (first | (with_reducible first | exact HB.out | apply below_alloc | apply pw_below_drewN | apply below_drew1) | exact HB.out)) hb); clear HB; have HB := n0_; clear n0_; (try clear hb); (try clear hb2); (try clear hk); (try clear hi)) | ((with_reducible refine gate_callee (f := 12) rfl ?_); refine goesL_ (some 10) rfl rfl Tryd.func12 (by kernel_rfl) rfl #[.int .u32 a0, .int .i64 2] rfl (by (try simp only [List.map_toArray, List.map_cons, List.map_nil]); first | done | rfl | (simp only [List.length_drop, List.length_take]; rfl)) ?_; (with_reducible refine (elem_Elem_Weight.calls k a0 2 t140 _ A3.out).mono ?_); rintro e w17 ⟨rfl, hb⟩; refine ⟨_, rfl, ?_⟩; have n0_ := Aside0.mk (below_step (by repeat (first | (with_reducible first | exact HB.out | apply below_alloc | apply pw_below_drewN | apply below_drew1) | exact HB.out)) hb); clear HB; have HB := n0_; clear n0_; (try clear hb); (try clear hb2); (try clear hk); (try clear hi)) | ((with_reducible refine gate_callee (f := 12) rfl ?_); refine goesL_ (some 13) rfl rfl Tryd.func12 (by kernel_rfl) rfl #[.int .u32 a0, .int .i64 3] rfl (by (try simp only [List.map_toArray, List.map_cons, List.map_nil]); first | done | rfl | (simp only [List.length_drop, List.length_take]; rfl)) ?_; (with_reducible refine (elem_Elem_Weight.calls k a0 3 t141 _ A4.out).mono ?_); rintro e w18 ⟨rfl, hb⟩; refine ⟨_, rfl, ?_⟩; have n0_ := Aside0.mk (below_step (by repeat (first | (with_reducible first | exact HB.out | apply below_alloc | apply pw_below_drewN | apply below_drew1) | exact HB.out)) hb); clear HB; have HB := n0_; clear n0_; (try clear hb); (try clear hb2); (try clear hk); (try clear hi)))
        go_ret
        exact ⟨by first | rfl | (simp [errW_none, errW_some] <;> rfl) | (simp [*, errW_none, errW_some] <;> rfl), by repeat (first | (with_reducible first | exact HB.out | apply below_alloc | apply pw_below_drewN | apply below_drew1) | exact HB.out)⟩
    · rw [if_neg c6] at H
      have c6b0 : decide (0 < t140) = false := decide_eq_false c6
      clear c6
      obtain rfl := Option.some.inj H
      go_enter Tryd.func14, Tryd.ntmps14
      go_wp2_with (first | ((with_reducible refine gate_callee (f := 12) rfl ?_); refine goesL_ (some 7) rfl rfl Tryd.func12 (by kernel_rfl) rfl #[.int .u32 a0, .int .i64 1] rfl (by (try simp only [List.map_toArray, List.map_cons, List.map_nil]); first | done | rfl | (simp only [List.length_drop, List.length_take]; rfl)) ?_; (with_reducible refine (elem_Elem_Weight.calls k a0 1 t139 _ A2.out).mono ?_); rintro e w19 ⟨rfl, hb⟩; refine ⟨_, rfl, ?_⟩; have n0_ := Aside0.mk (below_step (by repeat (first | (with_reducible first | exact HB.out | apply below_alloc | apply pw_below_drewN | apply below_drew1) | exact HB.out)) hb); clear HB; have HB := n0_; clear n0_; (try clear hb); (try clear hb2); (try clear hk); (try clear hi)) | ((with_reducible refine gate_callee (f := 12) rfl ?_); refine goesL_ (some 10) rfl rfl Tryd.func12 (by kernel_rfl) rfl #[.int .u32 a0, .int .i64 2] rfl (by (try simp only [List.map_toArray, List.map_cons, List.map_nil]); first | done | rfl | (simp only [List.length_drop, List.length_take]; rfl)) ?_; (with_reducible refine (elem_Elem_Weight.calls k a0 2 t140 _ A3.out).mono ?_); rintro e w20 ⟨rfl, hb⟩; refine ⟨_, rfl, ?_⟩; have n0_ := Aside0.mk (below_step (by repeat (first | (with_reducible first | exact HB.out | apply below_alloc | apply pw_below_drewN | apply below_drew1) | exact HB.out)) hb); clear HB; have HB := n0_; clear n0_; (try clear hb); (try clear hb2); (try clear hk); (try clear hi)) | ((with_reducible refine gate_callee (f := 12) rfl ?_); refine goesL_ (some 13) rfl rfl Tryd.func12 (by kernel_rfl) rfl #[.int .u32 a0, .int .i64 3] rfl (by (try simp only [List.map_toArray, List.map_cons, List.map_nil]); first | done | rfl | (simp only [List.length_drop, List.length_take]; rfl)) ?_; (with_reducible refine (elem_Elem_Weight.calls k a0 3 t141 _ A4.out).mono ?_); rintro e w21 ⟨rfl, hb⟩; refine ⟨_, rfl, ?_⟩; have n0_ := Aside0.mk (below_step (by repeat (first | (with_reducible first | exact HB.out | apply below_alloc | apply pw_below_drewN | apply below_drew1) | exact HB.out)) hb); clear HB; have HB := n0_; clear n0_; (try clear hb); (try clear hb2); (try clear hk); (try clear hi)))
      go_ret
      exact ⟨by first | rfl | (simp [errW_none, errW_some] <;> rfl) | (simp [*, errW_none, errW_some] <;> rfl), by repeat (first | (with_reducible first | exact HB.out | apply below_alloc | apply pw_below_drewN | apply below_drew1) | exact HB.out)⟩
  · rw [if_neg c5] at H
    have c5b0 : decide (0 < t139) = false := decide_eq_false c5
    clear c5
    by_cases c22 : t140 > 0
    · rw [if_pos c22] at H
      have c22b0 : decide (0 < t140) = true := decide_eq_true c22
      clear c22
      by_cases c23 : t141 > 0
      · rw [if_pos c23] at H
        have c23b0 : decide (0 < t141) = true := decide_eq_true c23
        clear c23
        replace H := Option.bind_eq_some_iff.mp H
        obtain ⟨t143, A240, H⟩ := H
        replace H : (if t143 = true then (some (decide (t139 > 0))) else (some true)) = some r := H
        have A24 := Aside0.mk A240
        clear A240
        by_cases c25 : t143 = true
        · subst c25
          have H1 : (some (decide (t139 > 0))) = some r := by rw [if_pos rfl] at H; exact H
          clear H
          have H := H1
          clear H1
          obtain rfl := Option.some.inj H
          go_enter Tryd.func14, Tryd.ntmps14
          go_wp2_with (first | ((with_reducible refine gate_callee (f := 12) rfl ?_); refine goesL_ (some 7) rfl rfl Tryd.func12 (by kernel_rfl) rfl #[.int .u32 a0, .int .i64 1] rfl (by (try simp only [List.map_toArray, List.map_cons, List.map_nil]); first | done | rfl | (simp only [List.length_drop, List.length_take]; rfl)) ?_; (with_reducible refine (elem_Elem_Weight.calls k a0 1 t139 _ A2.out).mono ?_); rintro e w26 ⟨rfl, hb⟩; refine ⟨_, rfl, ?_⟩; have n0_ := Aside0.mk (below_step (by repeat (first | (with_reducible first | exact HB.out | apply below_alloc | apply pw_below_drewN | apply below_drew1) | exact HB.out)) hb); clear HB; have HB := n0_; clear n0_; (try clear hb); (try clear hb2); (try clear hk); (try clear hi)) | ((with_reducible refine gate_callee (f := 12) rfl ?_); refine goesL_ (some 10) rfl rfl Tryd.func12 (by kernel_rfl) rfl #[.int .u32 a0, .int .i64 2] rfl (by (try simp only [List.map_toArray, List.map_cons, List.map_nil]); first | done | rfl | (simp only [List.length_drop, List.length_take]; rfl)) ?_; (with_reducible refine (elem_Elem_Weight.calls k a0 2 t140 _ A3.out).mono ?_); rintro e w27 ⟨rfl, hb⟩; refine ⟨_, rfl, ?_⟩; have n0_ := Aside0.mk (below_step (by repeat (first | (with_reducible first | exact HB.out | apply below_alloc | apply pw_below_drewN | apply below_drew1) | exact HB.out)) hb); clear HB; have HB := n0_; clear n0_; (try clear hb); (try clear hb2); (try clear hk); (try clear hi)) | ((with_reducible refine gate_callee (f := 12) rfl ?_); refine goesL_ (some 13) rfl rfl Tryd.func12 (by kernel_rfl) rfl #[.int .u32 a0, .int .i64 3] rfl (by (try simp only [List.map_toArray, List.map_cons, List.map_nil]); first | done | rfl | (simp only [List.length_drop, List.length_take]; rfl)) ?_; (with_reducible refine (elem_Elem_Weight.calls k a0 3 t141 _ A4.out).mono ?_); rintro e w28 ⟨rfl, hb⟩; refine ⟨_, rfl, ?_⟩; have n0_ := Aside0.mk (below_step (by repeat (first | (with_reducible first | exact HB.out | apply below_alloc | apply pw_below_drewN | apply below_drew1) | exact HB.out)) hb); clear HB; have HB := n0_; clear n0_; (try clear hb); (try clear hb2); (try clear hk); (try clear hi)) | (go_at_call 13; (with_reducible refine (elem_Elem_Variable.calls a0 true _ A24.out).mono ?_); rintro e w' ⟨rfl, ⟨nd, rfl⟩⟩))
          go_ret
          exact ⟨by first | rfl | (simp [errW_none, errW_some] <;> rfl) | (simp [*, errW_none, errW_some] <;> rfl), by repeat (first | (with_reducible first | exact HB.out | apply below_alloc | apply pw_below_drewN | apply below_drew1) | exact HB.out)⟩
        · replace c25 := Bool.eq_false_iff.mpr c25
          subst c25
          have H1 : (some true) = some r := by rw [if_neg (show ¬ (false = true) by decide)] at H; exact H
          clear H
          have H := H1
          clear H1
          obtain rfl := Option.some.inj H
          go_enter Tryd.func14, Tryd.ntmps14
          go_wp2_with (first | ((with_reducible refine gate_callee (f := 12) rfl ?_); refine goesL_ (some 7) rfl rfl Tryd.func12 (by kernel_rfl) rfl #[.int .u32 a0, .int .i64 1] rfl (by (try simp only [List.map_toArray, List.map_cons, List.map_nil]); first | done | rfl | (simp only [List.length_drop, List.length_take]; rfl)) ?_; (with_reducible refine (elem_Elem_Weight.calls k a0 1 t139 _ A2.out).mono ?_); rintro e w29 ⟨rfl, hb⟩; refine ⟨_, rfl, ?_⟩; have n0_ := Aside0.mk (below_step (by repeat (first | (with_reducible first | exact HB.out | apply below_alloc | apply pw_below_drewN | apply below_drew1) | exact HB.out)) hb); clear HB; have HB := n0_; clear n0_; (try clear hb); (try clear hb2); (try clear hk); (try clear hi)) | ((with_reducible refine gate_callee (f := 12) rfl ?_); refine goesL_ (some 10) rfl rfl Tryd.func12 (by kernel_rfl) rfl #[.int .u32 a0, .int .i64 2] rfl (by (try simp only [List.map_toArray, List.map_cons, List.map_nil]); first | done | rfl | (simp only [List.length_drop, List.length_take]; rfl)) ?_; (with_reducible refine (elem_Elem_Weight.calls k a0 2 t140 _ A3.out).mono ?_); rintro e w30 ⟨rfl, hb⟩; refine ⟨_, rfl, ?_⟩; have n0_ := Aside0.mk (below_step (by repeat (first | (with_reducible first | exact HB.out | apply below_alloc | apply pw_below_drewN | apply below_drew1) | exact HB.out)) hb); clear HB; have HB := n0_; clear n0_; (try clear hb); (try clear hb2); (try clear hk); (try clear hi)) | ((with_reducible refine gate_callee (f := 12) rfl ?_); refine goesL_ (some 13) rfl rfl Tryd.func12 (by kernel_rfl) rfl #[.int .u32 a0, .int .i64 3] rfl (by (try simp only [List.map_toArray, List.map_cons, List.map_nil]); first | done | rfl | (simp only [List.length_drop, List.length_take]; rfl)) ?_; (with_reducible refine (elem_Elem_Weight.calls k a0 3 t141 _ A4.out).mono ?_); rintro e w31 ⟨rfl, hb⟩; refine ⟨_, rfl, ?_⟩; have n0_ := Aside0.mk (below_step (by repeat (first | (with_reducible first | exact HB.out | apply below_alloc | apply pw_below_drewN | apply below_drew1) | exact HB.out)) hb); clear HB; have HB := n0_; clear n0_; (try clear hb); (try clear hb2); (try clear hk); (try clear hi)) | (go_at_call 13; (with_reducible refine (elem_Elem_Variable.calls a0 false _ A24.out).mono ?_); rintro e w' ⟨rfl, ⟨nd, rfl⟩⟩))
          go_ret
          exact ⟨by first | rfl | (simp [errW_none, errW_some] <;> rfl) | (simp [*, errW_none, errW_some] <;> rfl), by repeat (first | (with_reducible first | exact HB.out | apply below_alloc | apply pw_below_drewN | apply below_drew1) | exact HB.out)⟩
      · rw [if_neg c23] at H
        have c23b0 : decide (0 < t141) = false := decide_eq_false c23
        clear c23
        obtain rfl := Option.some.inj H
        go_enter Tryd.func14, Tryd.ntmps14
        go_wp2_with (first | ((with_reducible refine gate_callee (f := 12) rfl ?_); refine goesL_ (some 7) rfl rfl Tryd.func12 (by kernel_rfl) rfl #[.int .u32 a0, .int .i64 1] rfl (by (try simp only [List.map_toArray, List.map_cons, List.map_nil]); first | done | rfl | (simp only [List.length_drop, List.length_take]; rfl)) ?_; (with_reducible refine (elem_Elem_Weight.calls k a0 1 t139 _ A2.out).mono ?_); rintro e w32 ⟨rfl, hb⟩; refine ⟨_, rfl, ?_⟩; have n0_ := Aside0.mk (below_step (by repeat (first | (with_reducible first | exact HB.out | apply below_alloc | apply pw_below_drewN | apply below_drew1) | exact HB.out)) hb); clear HB; have HB := n0_; clear n0_; (try clear hb); (try clear hb2); (try clear hk); (try clear hi)) | ((with_reducible refine gate_callee (f := 12) rfl ?_); refine goesL_ (some 10) rfl rfl Tryd.func12 (by kernel_rfl) rfl #[.int .u32 a0, .int .i64 2] rfl (by (try simp only [List.map_toArray, List.map_cons, List.map_nil]); first | done | rfl | (simp only [List.length_drop, List.length_take]; rfl)) ?_; (with_reducible refine (elem_Elem_Weight.calls k a0 2 t140 _ A3.out).mono ?_); rintro e w33 ⟨rfl, hb⟩; refine ⟨_, rfl, ?_⟩; have n0_ := Aside0.mk (below_step (by repeat (first | (with_reducible first | exact HB.out | apply below_alloc | apply pw_below_drewN | apply below_drew1) | exact HB.out)) hb); clear HB; have HB := n0_; clear n0_; (try clear hb); (try clear hb2); (try clear hk); (try clear hi)) | ((with_reducible refine gate_callee (f := 12) rfl ?_); refine goesL_ (some 13) rfl rfl Tryd.func12 (by kernel_rfl) rfl #[.int .u32 a0, .int .i64 3] rfl (by (try simp only [List.map_toArray, List.map_cons, List.map_nil]); first | done | rfl | (simp only [List.length_drop, List.length_take]; rfl)) ?_; (with_reducible refine (elem_Elem_Weight.calls k a0 3 t141 _ A4.out).mono ?_); rintro e w34 ⟨rfl, hb⟩; refine ⟨_, rfl, ?_⟩; have n0_ := Aside0.mk (below_step (by repeat (first | (with_reducible first | exact HB.out | apply below_alloc | apply pw_below_drewN | apply below_drew1) | exact HB.out)) hb); clear HB; have HB := n0_; clear n0_; (try clear hb); (try clear hb2); (try clear hk); (try clear hi)))
        go_ret
        exact ⟨by first | rfl | (simp [errW_none, errW_some] <;> rfl) | (simp [*, errW_none, errW_some] <;> rfl), by repeat (first | (with_reducible first | exact HB.out | apply below_alloc | apply pw_below_drewN | apply below_drew1) | exact HB.out)⟩
    · rw [if_neg c22] at H
      have c22b0 : decide (0 < t140) = false := decide_eq_false c22
      clear c22
      replace H := Option.bind_eq_some_iff.mp H
      obtain ⟨t144, A350, H⟩ := H
      replace H : (if t144 = true then (some (decide (t139 > 0))) else (some true)) = some r := H
      have A35 := Aside0.mk A350
      clear A350
      by_cases c36 : t144 = true
      · subst c36
        have H1 : (some (decide (t139 > 0))) = some r := by rw [if_pos rfl] at H; exact H
        clear H
        have H := H1
        clear H1
        obtain rfl := Option.some.inj H
        go_enter Tryd.func14, Tryd.ntmps14
        go_wp2_with (first | ((with_reducible refine gate_callee (f := 12) rfl ?_); refine goesL_ (some 7) rfl rfl Tryd.func12 (by kernel_rfl) rfl #[.int .u32 a0, .int .i64 1] rfl (by (try simp only [List.map_toArray, List.map_cons, List.map_nil]); first | done | rfl | (simp only [List.length_drop, List.length_take]; rfl)) ?_; (with_reducible refine (elem_Elem_Weight.calls k a0 1 t139 _ A2.out).mono ?_); rintro e w37 ⟨rfl, hb⟩; refine ⟨_, rfl, ?_⟩; have n0_ := Aside0.mk (below_step (by repeat (first | (with_reducible first | exact HB.out | apply below_alloc | apply pw_below_drewN | apply below_drew1) | exact HB.out)) hb); clear HB; have HB := n0_; clear n0_; (try clear hb); (try clear hb2); (try clear hk); (try clear hi)) | ((with_reducible refine gate_callee (f := 12) rfl ?_); refine goesL_ (some 10) rfl rfl Tryd.func12 (by kernel_rfl) rfl #[.int .u32 a0, .int .i64 2] rfl (by (try simp only [List.map_toArray, List.map_cons, List.map_nil]); first | done | rfl | (simp only [List.length_drop, List.length_take]; rfl)) ?_; (with_reducible refine (elem_Elem_Weight.calls k a0 2 t140 _ A3.out).mono ?_); rintro e w38 ⟨rfl, hb⟩; refine ⟨_, rfl, ?_⟩; have n0_ := Aside0.mk (below_step (by repeat (first | (with_reducible first | exact HB.out | apply below_alloc | apply pw_below_drewN | apply below_drew1) | exact HB.out)) hb); clear HB; have HB := n0_; clear n0_; (try clear hb); (try clear hb2); (try clear hk); (try clear hi)) | ((with_reducible refine gate_callee (f := 12) rfl ?_); refine goesL_ (some 13) rfl rfl Tryd.func12 (by kernel_rfl) rfl #[.int .u32 a0, .int .i64 3] rfl (by (try simp only [List.map_toArray, List.map_cons, List.map_nil]); first | done | rfl | (simp only [List.length_drop, List.length_take]; rfl)) ?_; (with_reducible refine (elem_Elem_Weight.calls k a0 3 t141 _ A4.out).mono ?_); rintro e w39 ⟨rfl, hb⟩; refine ⟨_, rfl, ?_⟩; have n0_ := Aside0.mk (below_step (by repeat (first | (with_reducible first | exact HB.out | apply below_alloc | apply pw_below_drewN | apply below_drew1) | exact HB.out)) hb); clear HB; have HB := n0_; clear n0_; (try clear hb); (try clear hb2); (try clear hk); (try clear hi)) | (go_at_call 13; (with_reducible refine (elem_Elem_Variable.calls a0 true _ A35.out).mono ?_); rintro e w' ⟨rfl, ⟨nd, rfl⟩⟩))
        go_ret
        exact ⟨by first | rfl | (simp [errW_none, errW_some] <;> rfl) | (simp [*, errW_none, errW_some] <;> rfl), by repeat (first | (with_reducible first | exact HB.out | apply below_alloc | apply pw_below_drewN | apply below_drew1) | exact HB.out)⟩
      · replace c36 := Bool.eq_false_iff.mpr c36
        subst c36
        have H1 : (some true) = some r := by rw [if_neg (show ¬ (false = true) by decide)] at H; exact H
        clear H
        have H := H1
        clear H1
        obtain rfl := Option.some.inj H
        go_enter Tryd.func14, Tryd.ntmps14
        go_wp2_with (first | ((with_reducible refine gate_callee (f := 12) rfl ?_); refine goesL_ (some 7) rfl rfl Tryd.func12 (by kernel_rfl) rfl #[.int .u32 a0, .int .i64 1] rfl (by (try simp only [List.map_toArray, List.map_cons, List.map_nil]); first | done | rfl | (simp only [List.length_drop, List.length_take]; rfl)) ?_; (with_reducible refine (elem_Elem_Weight.calls k a0 1 t139 _ A2.out).mono ?_); rintro e w40 ⟨rfl, hb⟩; refine ⟨_, rfl, ?_⟩; have n0_ := Aside0.mk (below_step (by repeat (first | (with_reducible first | exact HB.out | apply below_alloc | apply pw_below_drewN | apply below_drew1) | exact HB.out)) hb); clear HB; have HB := n0_; clear n0_; (try clear hb); (try clear hb2); (try clear hk); (try clear hi)) | ((with_reducible refine gate_callee (f := 12) rfl ?_); refine goesL_ (some 10) rfl rfl Tryd.func12 (by kernel_rfl) rfl #[.int .u32 a0, .int .i64 2] rfl (by (try simp only [List.map_toArray, List.map_cons, List.map_nil]); first | done | rfl | (simp only [List.length_drop, List.length_take]; rfl)) ?_; (with_reducible refine (elem_Elem_Weight.calls k a0 2 t140 _ A3.out).mono ?_); rintro e w41 ⟨rfl, hb⟩; refine ⟨_, rfl, ?_⟩; have n0_ := Aside0.mk (below_step (by repeat (first | (with_reducible first | exact HB.out | apply below_alloc | apply pw_below_drewN | apply below_drew1) | exact HB.out)) hb); clear HB; have HB := n0_; clear n0_; (try clear hb); (try clear hb2); (try clear hk); (try clear hi)) | ((with_reducible refine gate_callee (f := 12) rfl ?_); refine goesL_ (some 13) rfl rfl Tryd.func12 (by kernel_rfl) rfl #[.int .u32 a0, .int .i64 3] rfl (by (try simp only [List.map_toArray, List.map_cons, List.map_nil]); first | done | rfl | (simp only [List.length_drop, List.length_take]; rfl)) ?_; (with_reducible refine (elem_Elem_Weight.calls k a0 3 t141 _ A4.out).mono ?_); rintro e w42 ⟨rfl, hb⟩; refine ⟨_, rfl, ?_⟩; have n0_ := Aside0.mk (below_step (by repeat (first | (with_reducible first | exact HB.out | apply below_alloc | apply pw_below_drewN | apply below_drew1) | exact HB.out)) hb); clear HB; have HB := n0_; clear n0_; (try clear hb); (try clear hb2); (try clear hk); (try clear hi)) | (go_at_call 13; (with_reducible refine (elem_Elem_Variable.calls a0 false _ A35.out).mono ?_); rintro e w' ⟨rfl, ⟨nd, rfl⟩⟩))
        go_ret
        exact ⟨by first | rfl | (simp [errW_none, errW_some] <;> rfl) | (simp [*, errW_none, errW_some] <;> rfl), by repeat (first | (with_reducible first | exact HB.out | apply below_alloc | apply pw_below_drewN | apply below_drew1) | exact HB.out)⟩

/-! ### umlautref5_Elem_Ok: function 15 -/
def umlautref5_Elem_Ok.f (a0_0 : Int) (a0_1 : Int) (a0_2 : Int) (a0_3 : Bool) : Option (Bool) := if a0_0 = 0 then (if a0_1 = 0 then (if a0_3 = true then (some (a0_0 != 0)) else (some true)) else (if a0_2 = 0 then (some false) else (if a0_3 = true then (some (a0_0 != 0)) else (some true)))) else (if a0_1 = 0 then (some false) else (if a0_2 = 0 then (some false) else (if a0_3 = true then (some (a0_0 != 0)) else (some true))))
set_option maxHeartbeats 8000000 in
set_option maxRecDepth 100000 in
theorem umlautref5_Elem_Ok.calls (a0_0 : Int) (a0_1 : Int) (a0_2 : Int) (a0_3 : Bool) (r : Bool) (w : World) (h : umlautref5_Elem_Ok.f a0_0 a0_1 a0_2 a0_3 = some r) :
    Calls Tryd.prog 15 #[.agg #[.int .i64 a0_0, .int .i64 a0_1, .int .i64 a0_2, .bool a0_3]] w fun e w' => e = .returned (.bool r) ∧ Below w.heap.size w w' := by
  have hu26 := Tryd.underlying26
  have HB := Aside0.mk (Below.refl w.heap.size w)
  have H : (if a0_0 = 0 then (if a0_1 = 0 then (if a0_3 = true then (some (a0_0 != 0)) else (some true)) else (if a0_2 = 0 then (some false) else (if a0_3 = true then (some (a0_0 != 0)) else (some true)))) else (if a0_1 = 0 then (some false) else (if a0_2 = 0 then (some false) else (if a0_3 = true then (some (a0_0 != 0)) else (some true))))) = some r := h
  clear h
  by_cases c2 : a0_0 = 0
  · rw [if_pos c2] at H
    have c2b0 : (a0_0 == 0) = true := beq_iff_eq.mpr c2
    have c2b1 : (a0_0 != 0) = false := bne_eq_false_iff_eq.mpr c2
    clear c2
    by_cases c3 : a0_1 = 0
    · rw [if_pos c3] at H
      have c3b0 : (a0_1 == 0) = true := beq_iff_eq.mpr c3
      have c3b1 : (a0_1 != 0) = false := bne_eq_false_iff_eq.mpr c3
      clear c3
      by_cases c4 : a0_3 = true
      · subst c4
        have H1 : (some (a0_0 != 0)) = some r := by rw [if_pos rfl] at H; exact H
        clear H
        have H := H1
        clear H1
        obtain rfl := Option.some.inj H
        go_enter Tryd.func15, Tryd.ntmps15
        go_wp2_with (first | ((with_reducible refine gate_dst (N := 1) rfl ?_); refine box_event ?hg (N := 1) ?hd (cs := #[.int .i64 a0_0, .int .i64 a0_1, .int .i64 a0_2, .bool true]) (t := 26) ?hr ?_; (case hd => rfl); (case hg => rfl); (case hr => first | (go_simp; done) | (go_simp; rfl)); intro gb145 hg w5 hbox hb; have n0_ := Aside0.mk (below_step (by repeat (first | (with_reducible first | exact HB.out | apply below_alloc | apply pw_below_drewN | apply below_drew1) | exact HB.out)) hb); have n1_ := Aside0.mk (hbox); have n2_ := Aside0.mk ((by rw [hg]; exact (below_size (by repeat (first | (with_reducible first | exact HB.out | apply below_alloc | apply pw_below_drewN | apply below_drew1) | exact HB.out))) : w.heap.size ≤ gb145)); have n3_ := Aside0.mk ((by rw [hg]; exact (below_size (by repeat (first | (with_reducible first | exact HB.out | apply below_alloc | apply pw_below_drewN | apply below_drew1) | exact HB.out))) : w.heap.size ≤ gb145)); clear HB; have HB := n0_; have BK145 := n1_; have GW145 := n2_; have GE145 := n3_; clear n0_ n1_ n2_ n3_; clear hb hbox hg; have hcz6_0 : w5.cell? ⟨gb145, 0, none⟩ = some (.int .i64 a0_0) := (blk_cell BK145.out 0).trans rfl; have hcz6_1 : w5.cell? ⟨gb145, 1, none⟩ = some (.int .i64 a0_1) := (blk_cell BK145.out 1).trans rfl; have hcz6_2 : w5.cell? ⟨gb145, 2, none⟩ = some (.int .i64 a0_2) := (blk_cell BK145.out 2).trans rfl; have hcz6_3 : w5.cell? ⟨gb145, 3, none⟩ = some (.bool true) := (blk_cell BK145.out 3).trans rfl; have hfz6_0 := blk_frozen BK145.out 0; have hfz6_1 := blk_frozen BK145.out 1; have hfz6_2 := blk_frozen BK145.out 2; have hfz6_3 := blk_frozen BK145.out 3))
        go_ret
        exact ⟨by first | rfl | (simp [errW_none, errW_some] <;> rfl) | (simp [*, errW_none, errW_some] <;> rfl), by repeat (first | (with_reducible first | exact HB.out | apply below_alloc | apply pw_below_drewN | apply below_drew1 | refine below_set ?_ GE145.out) | exact HB.out)⟩
      · replace c4 := Bool.eq_false_iff.mpr c4
        subst c4
        have H1 : (some true) = some r := by rw [if_neg (show ¬ (false = true) by decide)] at H; exact H
        clear H
        have H := H1
        clear H1
        obtain rfl := Option.some.inj H
        go_enter Tryd.func15, Tryd.ntmps15
        go_wp2_with (first | ((with_reducible refine gate_dst (N := 1) rfl ?_); refine box_event ?hg (N := 1) ?hd (cs := #[.int .i64 a0_0, .int .i64 a0_1, .int .i64 a0_2, .bool false]) (t := 26) ?hr ?_; (case hd => rfl); (case hg => rfl); (case hr => first | (go_simp; done) | (go_simp; rfl)); intro gb145 hg w7 hbox hb; have n0_ := Aside0.mk (below_step (by repeat (first | (with_reducible first | exact HB.out | apply below_alloc | apply pw_below_drewN | apply below_drew1) | exact HB.out)) hb); have n1_ := Aside0.mk (hbox); have n2_ := Aside0.mk ((by rw [hg]; exact (below_size (by repeat (first | (with_reducible first | exact HB.out | apply below_alloc | apply pw_below_drewN | apply below_drew1) | exact HB.out))) : w.heap.size ≤ gb145)); have n3_ := Aside0.mk ((by rw [hg]; exact (below_size (by repeat (first | (with_reducible first | exact HB.out | apply below_alloc | apply pw_below_drewN | apply below_drew1) | exact HB.out))) : w.heap.size ≤ gb145)); clear HB; have HB := n0_; have BK145 := n1_; have GW145 := n2_; have GE145 := n3_; clear n0_ n1_ n2_ n3_; clear hb hbox hg; have hcz8_0 : w7.cell? ⟨gb145, 0, none⟩ = some (.int .i64 a0_0) := (blk_cell BK145.out 0).trans rfl; have hcz8_1 : w7.cell? ⟨gb145, 1, none⟩ = some (.int .i64 a0_1) := (blk_cell BK145.out 1).trans rfl; have hcz8_2 : w7.cell? ⟨gb145, 2, none⟩ = some (.int .i64 a0_2) := (blk_cell BK145.out 2).trans rfl; have hcz8_3 : w7.cell? ⟨gb145, 3, none⟩ = some (.bool false) := (blk_cell BK145.out 3).trans rfl; have hfz8_0 := blk_frozen BK145.out 0; have hfz8_1 := blk_frozen BK145.out 1; have hfz8_2 := blk_frozen BK145.out 2; have hfz8_3 := blk_frozen BK145.out 3))
        go_ret
        exact ⟨by first | rfl | (simp [errW_none, errW_some] <;> rfl) | (simp [*, errW_none, errW_some] <;> rfl), by repeat (first | (with_reducible first | exact HB.out | apply below_alloc | apply pw_below_drewN | apply below_drew1 | refine below_set ?_ GE145.out) | exact HB.out)⟩
    · rw [if_neg c3] at H
      have c3b0 : (a0_1 == 0) = false := beq_eq_false_iff_ne.mpr c3
      have c3b1 : (a0_1 != 0) = true := bne_iff_ne.mpr c3
      by_cases c9 : a0_2 = 0
      · rw [if_pos c9] at H
        have c9b0 : (a0_2 == 0) = true := beq_iff_eq.mpr c9
        have c9b1 : (a0_2 != 0) = false := bne_eq_false_iff_eq.mpr c9
        clear c9
        obtain rfl := Option.some.inj H
        go_enter Tryd.func15, Tryd.ntmps15
        go_wp2_with (first | ((with_reducible refine gate_dst (N := 1) rfl ?_); refine box_event ?hg (N := 1) ?hd (cs := #[.int .i64 a0_0, .int .i64 a0_1, .int .i64 a0_2, .bool a0_3]) (t := 26) ?hr ?_; (case hd => rfl); (case hg => rfl); (case hr => first | (go_simp; done) | (go_simp; rfl)); intro gb145 hg w10 hbox hb; have n0_ := Aside0.mk (below_step (by repeat (first | (with_reducible first | exact HB.out | apply below_alloc | apply pw_below_drewN | apply below_drew1) | exact HB.out)) hb); have n1_ := Aside0.mk (hbox); have n2_ := Aside0.mk ((by rw [hg]; exact (below_size (by repeat (first | (with_reducible first | exact HB.out | apply below_alloc | apply pw_below_drewN | apply below_drew1) | exact HB.out))) : w.heap.size ≤ gb145)); have n3_ := Aside0.mk ((by rw [hg]; exact (below_size (by repeat (first | (with_reducible first | exact HB.out | apply below_alloc | apply pw_below_drewN | apply below_drew1) | exact HB.out))) : w.heap.size ≤ gb145)); clear HB; have HB := n0_; have BK145 := n1_; have GW145 := n2_; have GE145 := n3_; clear n0_ n1_ n2_ n3_; clear hb hbox hg; have hcz11_0 : w10.cell? ⟨gb145, 0, none⟩ = some (.int .i64 a0_0) := (blk_cell BK145.out 0).trans rfl; have hcz11_1 : w10.cell? ⟨gb145, 1, none⟩ = some (.int .i64 a0_1) := (blk_cell BK145.out 1).trans rfl; have hcz11_2 : w10.cell? ⟨gb145, 2, none⟩ = some (.int .i64 a0_2) := (blk_cell BK145.out 2).trans rfl; have hcz11_3 : w10.cell? ⟨gb145, 3, none⟩ = some (.bool a0_3) := (blk_cell BK145.out 3).trans rfl; have hfz11_0 := blk_frozen BK145.out 0; have hfz11_1 := blk_frozen BK145.out 1; have hfz11_2 := blk_frozen BK145.out 2; have hfz11_3 := blk_frozen BK145.out 3))
        go_ret
        exact ⟨by first | rfl | (simp [errW_none, errW_some] <;> rfl) | (simp [*, errW_none, errW_some] <;> rfl), by repeat (first | (with_reducible first | exact HB.out | apply below_alloc | apply pw_below_drewN | apply below_drew1 | refine below_set ?_ GE145.out) | exact HB.out)⟩
      · rw [if_neg c9] at H
        have c9b0 : (a0_2 == 0) = false := beq_eq_false_iff_ne.mpr c9
        have c9b1 : (a0_2 != 0) = true := bne_iff_ne.mpr c9
        by_cases c12 : a0_3 = true
        · subst c12
          have H1 : (some (a0_0 != 0)) = some r := by rw [if_pos rfl] at H; exact H
          clear H
          have H := H1
          clear H1
          obtain rfl := Option.some.inj H
          go_enter Tryd.func15, Tryd.ntmps15
          go_wp2_with (first | ((with_reducible refine gate_dst (N := 1) rfl ?_); refine box_event ?hg (N := 1) ?hd (cs := #[.int .i64 a0_0, .int .i64 a0_1, .int .i64 a0_2, .bool true]) (t := 26) ?hr ?_; (case hd => rfl); (case hg => rfl); (case hr => first | (go_simp; done) | (go_simp; rfl)); intro gb145 hg w13 hbox hb; have n0_ := Aside0.mk (below_step (by repeat (first | (with_reducible first | exact HB.out | apply below_alloc | apply pw_below_drewN | apply below_drew1) | exact HB.out)) hb); have n1_ := Aside0.mk (hbox); have n2_ := Aside0.mk ((by rw [hg]; exact (below_size (by repeat (first | (with_reducible first | exact HB.out | apply below_alloc | apply pw_below_drewN | apply below_drew1) | exact HB.out))) : w.heap.size ≤ gb145)); have n3_ := Aside0.mk ((by rw [hg]; exact (below_size (by repeat (first | (with_reducible first | exact HB.out | apply below_alloc | apply pw_below_drewN | apply below_drew1) | exact HB.out))) : w.heap.size ≤ gb145)); clear HB; have HB := n0_; have BK145 := n1_; have GW145 := n2_; have GE145 := n3_; clear n0_ n1_ n2_ n3_; clear hb hbox hg; have hcz14_0 : w13.cell? ⟨gb145, 0, none⟩ = some (.int .i64 a0_0) := (blk_cell BK145.out 0).trans rfl; have hcz14_1 : w13.cell? ⟨gb145, 1, none⟩ = some (.int .i64 a0_1) := (blk_cell BK145.out 1).trans rfl; have hcz14_2 : w13.cell? ⟨gb145, 2, none⟩ = some (.int .i64 a0_2) := (blk_cell BK145.out 2).trans rfl; have hcz14_3 : w13.cell? ⟨gb145, 3, none⟩ = some (.bool true) := (blk_cell BK145.out 3).trans rfl; have hfz14_0 := blk_frozen BK145.out 0; have hfz14_1 := blk_frozen BK145.out 1; have hfz14_2 := blk_frozen BK145.out 2; have hfz14_3 := blk_frozen BK145.out 3))
          go_ret
          exact ⟨by first | rfl | (simp [errW_none, errW_some] <;> rfl) | (simp [*, errW_none, errW_some] <;> rfl), by repeat (first | (with_reducible first | exact HB.out | apply below_alloc | apply pw_below_drewN | apply below_drew1 | refine below_set ?_ GE145.out) | exact HB.out)⟩
        · replace c12 := Bool.eq_false_iff.mpr c12
          subst c12
          have H1 : (some true) = some r := by rw [if_neg (show ¬ (false = true) by decide)] at H; exact H
          clear H
          have H := H1
          clear H1
          obtain rfl := Option.some.inj H
          go_enter Tryd.func15, Tryd.ntmps15
          go_wp2_with (first | ((with_reducible refine gate_dst (N := 1) rfl ?_); refine box_event ?hg (N := 1) ?hd (cs := #[.int .i64 a0_0, .int .i64 a0_1, .int .i64 a0_2, .bool false]) (t := 26) ?hr ?_; (case hd => rfl); (case hg => rfl); (case hr => first | (go_simp; done) | (go_simp; rfl)); intro gb145 hg w15 hbox hb; have n0_ := Aside0.mk (below_step (by repeat (first | (with_reducible first | exact HB.out | apply below_alloc | apply pw_below_drewN | apply below_drew1) | exact HB.out)) hb); have n1_ := Aside0.mk (hbox); have n2_ := Aside0.mk ((by rw [hg]; exact (below_size (by repeat (first | (with_reducible first | exact HB.out | apply below_alloc | apply pw_below_drewN | apply below_drew1) | exact HB.out))) : w.heap.size ≤ gb145)); have n3_ := Aside0.mk ((by rw [hg]; exact (below_size (by repeat (first | (with_reducible first | exact HB.out | apply below_alloc | apply pw_below_drewN | apply below_drew1) | exact HB.out))) : w.heap.size ≤ gb145)); clear HB; have HB := n0_; have BK145 := n1_; have GW145 := n2_; have GE145 := n3_; clear n0_ n1_ n2_ n3_; clear hb hbox hg; have hcz16_0 : w15.cell? ⟨gb145, 0, none⟩ = some (.int .i64 a0_0) := (blk_cell BK145.out 0).trans rfl; have hcz16_1 : w15.cell? ⟨gb145, 1, none⟩ = some (.int .i64 a0_1) := (blk_cell BK145.out 1).trans rfl; have hcz16_2 : w15.cell? ⟨gb145, 2, none⟩ = some (.int .i64 a0_2) := (blk_cell BK145.out 2).trans rfl; have hcz16_3 : w15.cell? ⟨gb145, 3, none⟩ = some (.bool false) := (blk_cell BK145.out 3).trans rfl; have hfz16_0 := blk_frozen BK145.out 0; have hfz16_1 := blk_frozen BK145.out 1; have hfz16_2 := blk_frozen BK145.out 2; have hfz16_3 := blk_frozen BK145.out 3))
          go_ret
          exact ⟨by first | rfl | (simp [errW_none, errW_some] <;> rfl) | (simp [*, errW_none, errW_some] <;> rfl), by repeat (first | (with_reducible first | exact HB.out | apply below_alloc | apply pw_below_drewN | apply below_drew1 | refine below_set ?_ GE145.out) | exact HB.out)⟩
  · rw [if_neg c2] at H
    have c2b0 : (a0_0 == 0) = false := beq_eq_false_iff_ne.mpr c2
    have c2b1 : (a0_0 != 0) = true := bne_iff_ne.mpr c2
    by_cases c17 : a0_1 = 0
    · rw [if_pos c17] at H
      have c17b0 : (a0_1 == 0) = true := beq_iff_eq.mpr c17
      have c17b1 : (a0_1 != 0) = false := bne_eq_false_iff_eq.mpr c17
      clear c17
      obtain rfl := Option.some.inj H
      go_enter Tryd.func15, Tryd.ntmps15
      go_wp2_with (first | ((with_reducible refine gate_dst (N := 1) rfl ?_); refine box_event ?hg (N := 1) ?hd (cs := #[.int .i64 a0_0, .int .i64 a0_1, .int .i64 a0_2, .bool a0_3]) (t := 26) ?hr ?_; (case hd => rfl); (case hg => rfl); (case hr => first | (go_simp; done) | (go_simp; rfl)); intro gb145 hg w18 hbox hb; have n0_ := Aside0.mk (below_step (by repeat (first | (with_reducible first | exact HB.out | apply below_alloc | apply pw_below_drewN | apply below_drew1) | exact HB.out)) hb); have n1_ := Aside0.mk (hbox); have n2_ := Aside0.mk ((by rw [hg]; exact (below_size (by repeat (first | (with_reducible first | exact HB.out | apply below_alloc | apply pw_below_drewN | apply below_drew1) | exact HB.out))) : w.heap.size ≤ gb145)); have n3_ := Aside0.mk ((by rw [hg]; exact (below_size (by repeat (first | (with_reducible first | exact HB.out | apply below_alloc | apply pw_below_drewN | apply below_drew1) | exact HB.out))) : w.heap.size ≤ gb145)); clear HB; have HB := n0_; have BK145 := n1_; have GW145 := n2_; have GE145 := n3_; clear n0_ n1_ n2_ n3_; clear hb hbox hg; have hcz19_0 : w18.cell? ⟨gb145, 0, none⟩ = some (.int .i64 a0_0) := (blk_cell BK145.out 0).trans rfl; have hcz19_1 : w18.cell? ⟨gb145, 1, none⟩ = some (.int .i64 a0_1) := (blk_cell BK145.out 1).trans rfl; have hcz19_2 : w18.cell? ⟨gb145, 2, none⟩ = some (.int .i64 a0_2) := (blk_cell BK145.out 2).trans rfl; have hcz19_3 : w18.cell? ⟨gb145, 3, none⟩ = some (.bool a0_3) := (blk_cell BK145.out 3).trans rfl; have hfz19_0 := blk_frozen BK145.out 0; have hfz19_1 := blk_frozen BK145.out 1; have hfz19_2 := blk_frozen BK145.out 2; have hfz19_3 := blk_frozen BK145.out 3))
      go_ret
      exact ⟨by first | rfl | (simp [errW_none, errW_some] <;> rfl) | (simp [*, errW_none, errW_some] <;> rfl), by repeat (first | (with_reducible first | exact HB.out | apply below_alloc | apply pw_below_drewN | apply below_drew1 | refine below_set ?_ GE145.out) | exact HB.out)⟩
    · rw [if_neg c17] at H
      have c17b0 : (a0_1 == 0) = false := beq_eq_false_iff_ne.mpr c17
      have c17b1 : (a0_1 != 0) = true := bne_iff_ne.mpr c17
      by_cases c20 : a0_2 = 0
      · rw [if_pos c20] at H
        have c20b0 : (a0_2 == 0) = true := beq_iff_eq.mpr c20
        have c20b1 : (a0_2 != 0) = false := bne_eq_false_iff_eq.mpr c20
        clear c20
        obtain rfl := Option.some.inj H
        go_enter Tryd.func15, Tryd.ntmps15
        go_wp2_with (first | ((with_reducible refine gate_dst (N := 1) rfl ?_); refine box_event ?hg (N := 1) ?hd (cs := #[.int .i64 a0_0, .int .i64 a0_1, .int .i64 a0_2, .bool a0_3]) (t := 26) ?hr ?_; (case hd => rfl); (case hg => rfl); (case hr => first | (go_simp; done) | (go_simp; rfl)); intro gb145 hg w21 hbox hb; have n0_ := Aside0.mk (below_step (by repeat (first | (with_reducible first | exact HB.out | apply below_alloc | apply pw_below_drewN | apply below_drew1) | exact HB.out)) hb); have n1_ := Aside0.mk (hbox); have n2_ := Aside0.mk ((by rw [hg]; exact (below_size (by repeat (first | (with_reducible first | exact HB.out | apply below_alloc | apply pw_below_drewN | apply below_drew1) | exact HB.out))) : w.heap.size ≤ gb145)); have n3_ := Aside0.mk ((by rw [hg]; exact (below_size (by repeat (first | (with_reducible first | exact HB.out | apply below_alloc | apply pw_below_drewN | apply below_drew1) | exact HB.out))) : w.heap.size ≤ gb145)); clear HB; have HB := n0_; have BK145 := n1_; have GW145 := n2_; have GE145 := n3_; clear n0_ n1_ n2_ n3_; clear hb hbox hg; have hcz22_0 : w21.cell? ⟨gb145, 0, none⟩ = some (.int .i64 a0_0) := (blk_cell BK145.out 0).trans rfl; have hcz22_1 : w21.cell? ⟨gb145, 1, none⟩ = some (.int .i64 a0_1) := (blk_cell BK145.out 1).trans rfl; have hcz22_2 : w21.cell? ⟨gb145, 2, none⟩ = some (.int .i64 a0_2) := (blk_cell BK145.out 2).trans rfl; have hcz22_3 : w21.cell? ⟨gb145, 3, none⟩ = some (.bool a0_3) := (blk_cell BK145.out 3).trans rfl; have hfz22_0 := blk_frozen BK145.out 0; have hfz22_1 := blk_frozen BK145.out 1; have hfz22_2 := blk_frozen BK145.out 2; have hfz22_3 := blk_frozen BK145.out 3))
        go_ret
        exact ⟨by first | rfl | (simp [errW_none, errW_some] <;> rfl) | (simp [*, errW_none, errW_some] <;> rfl), by repeat (first | (with_reducible first | exact HB.out | apply below_alloc | apply pw_below_drewN | apply below_drew1 | refine below_set ?_ GE145.out) | exact HB.out)⟩
      · rw [if_neg c20] at H
        have c20b0 : (a0_2 == 0) = false := beq_eq_false_iff_ne.mpr c20
        have c20b1 : (a0_2 != 0) = true := bne_iff_ne.mpr c20
        by_cases c23 : a0_3 = true
        · subst c23
          have H1 : (some (a0_0 != 0)) = some r := by rw [if_pos rfl] at H; exact H
          clear H
          have H := H1
          clear H1
          obtain rfl := Option.some.inj H
          go_enter Tryd.func15, Tryd.ntmps15
          go_wp2_with (first | ((with_reducible refine gate_dst (N := 1) rfl ?_); refine box_event ?hg (N := 1) ?hd (cs := #[.int .i64 a0_0, .int .i64 a0_1, .int .i64 a0_2, .bool true]) (t := 26) ?hr ?_; (case hd => rfl); (case hg => rfl); (case hr => first | (go_simp; done) | (go_simp; rfl)); intro gb145 hg w24 hbox hb; have n0_ := Aside0.mk (below_step (by repeat (first | (with_reducible first | exact HB.out | apply below_alloc | apply pw_below_drewN | apply below_drew1) | exact HB.out)) hb); have n1_ := Aside0.mk (hbox); have n2_ := Aside0.mk ((by rw [hg]; exact (below_size (by repeat (first | (with_reducible first | exact HB.out | apply below_alloc | apply pw_below_drewN | apply below_drew1) | exact HB.out))) : w.heap.size ≤ gb145)); have n3_ := Aside0.mk ((by rw [hg]; exact (below_size (by repeat (first | (with_reducible first | exact HB.out | apply below_alloc | apply pw_below_drewN | apply below_drew1) | exact HB.out))) : w.heap.size ≤ gb145)); clear HB; have HB := n0_; have BK145 := n1_; have GW145 := n2_; have GE145 := n3_; clear n0_ n1_ n2_ n3_; clear hb hbox hg; have hcz25_0 : w24.cell? ⟨gb145, 0, none⟩ = some (.int .i64 a0_0) := (blk_cell BK145.out 0).trans rfl; have hcz25_1 : w24.cell? ⟨gb145, 1, none⟩ = some (.int .i64 a0_1) := (blk_cell BK145.out 1).trans rfl; have hcz25_2 : w24.cell? ⟨gb145, 2, none⟩ = some (.int .i64 a0_2) := (blk_cell BK145.out 2).trans rfl; have hcz25_3 : w24.cell? ⟨gb145, 3, none⟩ = some (.bool true) := (blk_cell BK145.out 3).trans rfl; have hfz25_0 := blk_frozen BK145.out 0; have hfz25_1 := blk_frozen BK145.out 1; have hfz25_2 := blk_frozen BK145.out 2; have hfz25_3 := blk_frozen BK145.out 3))
          go_ret
          exact ⟨by first | rfl | (simp [errW_none, errW_some] <;> rfl) | (simp [*, errW_none, errW_some] <;> rfl), by repeat (first | (with_reducible first | exact HB.out | apply below_alloc | apply pw_below_drewN | apply below_drew1 | refine below_set ?_ GE145.out) | exact HB.out)⟩
        · replace c23 := Bool.eq_false_iff.mpr c23
          subst c23
          have H1 : (some true) = some r := by rw [if_neg (show ¬ (false = true) by decide)] at H; exact H
          clear H
          have H := H1
          clear H1
          obtain rfl := Option.some.inj H
          go_enter Tryd.func15, Tryd.ntmps15
          go_wp2_with (first | ((with_reducible refine gate_dst (N := 1) rfl ?_); refine box_event ?hg (N := 1) ?hd (cs := #[.int .i64 a0_0, .int .i64 a0_1, .int .i64 a0_2, .bool false]) (t := 26) ?hr ?_; (case hd => rfl); (case hg => rfl); (case hr => first | (go_simp; done) | (go_simp; rfl)); intro gb145 hg w26 hbox hb; have n0_ := Aside0.mk (below_step (by repeat (first | (with_reducible first | exact HB.out | apply below_alloc | apply pw_below_drewN | apply below_drew1) | exact HB.out)) hb); have n1_ := Aside0.mk (hbox); have n2_ := Aside0.mk ((by rw [hg]; exact (below_size (by repeat (first | (with_reducible first | exact HB.out | apply below_alloc | apply pw_below_drewN | apply below_drew1) | exact HB.out))) : w.heap.size ≤ gb145)); have n3_ := Aside0.mk ((by rw [hg]; exact (below_size (by repeat (first | (with_reducible first | exact HB.out | apply below_alloc | apply pw_below_drewN | apply below_drew1) | exact HB.out))) : w.heap.size ≤ gb145)); clear HB; have HB := n0_; have BK145 := n1_; have GW145 := n2_; have GE145 := n3_; clear n0_ n1_ n2_ n3_; clear hb hbox hg; have hcz27_0 : w26.cell? ⟨gb145, 0, none⟩ = some (.int .i64 a0_0) := (blk_cell BK145.out 0).trans rfl; have hcz27_1 : w26.cell? ⟨gb145, 1, none⟩ = some (.int .i64 a0_1) := (blk_cell BK145.out 1).trans rfl; have hcz27_2 : w26.cell? ⟨gb145, 2, none⟩ = some (.int .i64 a0_2) := (blk_cell BK145.out 2).trans rfl; have hcz27_3 : w26.cell? ⟨gb145, 3, none⟩ = some (.bool false) := (blk_cell BK145.out 3).trans rfl; have hfz27_0 := blk_frozen BK145.out 0; have hfz27_1 := blk_frozen BK145.out 1; have hfz27_2 := blk_frozen BK145.out 2; have hfz27_3 := blk_frozen BK145.out 3))
          go_ret
          exact ⟨by first | rfl | (simp [errW_none, errW_some] <;> rfl) | (simp [*, errW_none, errW_some] <;> rfl), by repeat (first | (with_reducible first | exact HB.out | apply below_alloc | apply pw_below_drewN | apply below_drew1 | refine below_set ?_ GE145.out) | exact HB.out)⟩

/-! ### umlautref5_hex: function 23 -/
def umlautref5_hex.l0 : Nat → Int → Int → ByteArray → Int → Option (ByteArray)
  | 0, _, _, _, _ => none
  | k + 1, x0, x1, x5, x6 => if x6 < x1 then (if 0 ≤ (wrap64 (4 * x6)) then (if 0 ≤ (Go.bits .and .i64 (shr .i64 x0 (wrap64 (4 * x6))) 15) then (if (Go.bits .and .i64 (shr .i64 x0 (wrap64 (4 * x6))) 15) ≤ (wrap64 ((Go.bits .and .i64 (shr .i64 x0 (wrap64 (4 * x6))) 15) + 1)) then (if (wrap64 ((Go.bits .and .i64 (shr .i64 x0 (wrap64 (4 * x6))) 15) + 1)) ≤ 16 then (if ((⟨#[48, 49, 50, 51, 52, 53, 54, 55, 56, 57, 97, 98, 99, 100, 101, 102]⟩ : ByteArray).extract ((Go.bits .and .i64 (shr .i64 x0 (wrap64 (4 * x6))) 15) : Int).toNat ((wrap64 ((Go.bits .and .i64 (shr .i64 x0 (wrap64 (4 * x6))) 15) + 1)) : Int).toNat).size + x5.size ≤ 9223372036854775807 then (umlautref5_hex.l0 k x0 x1 (((⟨#[48, 49, 50, 51, 52, 53, 54, 55, 56, 57, 97, 98, 99, 100, 101, 102]⟩ : ByteArray).extract ((Go.bits .and .i64 (shr .i64 x0 (wrap64 (4 * x6))) 15) : Int).toNat ((wrap64 ((Go.bits .and .i64 (shr .i64 x0 (wrap64 (4 * x6))) 15) + 1)) : Int).toNat) ++ x5) (wrap64 (x6 + 1))) else (none)) else (none)) else (none)) else (none)) else (none)) else (some x5)
def umlautref5_hex.f (k : Nat) (a0 : Int) (a1 : Int) : Option (ByteArray) := umlautref5_hex.l0 k a0 a1 (⟨#[]⟩ : ByteArray) 0
theorem umlautref5_hex.mono_l : ∀ k, (∀ y0 y1 y2 y3, LeO (umlautref5_hex.l0 k y0 y1 y2 y3) (umlautref5_hex.l0 (k + 1) y0 y1 y2 y3))
  | 0 => fun _ _ _ _ r h => by simp [umlautref5_hex.l0] at h
  | k + 1 => by
    have ih0 := umlautref5_hex.mono_l k
    · intro y0 y1 y2 y3
      unfold umlautref5_hex.l0
      repeat' first
      | (with_reducible exact ih0 _ _ _ _)
      | (with_reducible exact LeO.refl _)
      | (with_reducible exact LeO.none _)
      | (with_reducible refine LeO.ite ?_ ?_)
      | (with_reducible refine LeO.bind ?_ (fun _ => ?_))
      | exact ih0 _ _ _ _
      | exact LeO.none _
      | refine LeO.ite ?_ ?_
      | refine LeO.bind ?_ (fun _ => ?_)
theorem umlautref5_hex.mono : ∀ a0 a1 k, LeO (umlautref5_hex.f k a0 a1) (umlautref5_hex.f (k + 1) a0 a1) := by
  intro a0 a1 k
  have ih0 := umlautref5_hex.mono_l k
  unfold umlautref5_hex.f
  repeat' first
      | (with_reducible exact ih0 _ _ _ _)
      | (with_reducible exact LeO.refl _)
      | (with_reducible exact LeO.none _)
      | (with_reducible refine LeO.ite ?_ ?_)
      | (with_reducible refine LeO.bind ?_ (fun _ => ?_))
      | exact ih0 _ _ _ _
      | exact LeO.none _
      | refine LeO.ite ?_ ?_
      | refine LeO.bind ?_ (fun _ => ?_)
set_option maxHeartbeats 8000000 in
set_option maxRecDepth 100000 in
theorem umlautref5_hex.calls (k : Nat) (a0 : Int) (a1 : Int) (r : ByteArray) (w : World) (h : umlautref5_hex.f k a0 a1 = some r) :
    Calls Tryd.prog 23 #[.int .i64 a0, .int .i64 a1] w fun e w' => e = .returned (.string r) ∧ Drawn0 w w' := by
  have H : (umlautref5_hex.l0 k a0 a1 (⟨#[]⟩ : ByteArray) 0) = some r := h
  clear h
  have H' := Aside0.mk H
  clear H
  go_enter Tryd.func23, Tryd.ntmps23
  go_wp2
  go_loopg [5, 6] k (fun kq v5 v6 w' => ∃ (x5_1 : ByteArray) (x6_1 : Int), v5 = .string x5_1 ∧ v6 = .int .i64 x6_1 ∧ Aside0 (umlautref5_hex.l0 kq a0 a1 x5_1 x6_1 = some r) ∧ Aside0 (kq ≤ k) ∧ Drawn0 w w')
  case atStart => exact ⟨((⟨#[]⟩ : ByteArray)), (0), (by first | rfl | (simp; done) | (simp [*]; done)), (by first | rfl | (simp; done) | (simp [*]; done)), H', ⟨Nat.le_refl _⟩, by repeat (first | exact Drawn0.refl _ | apply Drawn0.step)⟩
  case round =>
    clear H'
    try clear c2
    try clear p2
    obtain ⟨x5_1, x6_1, rfl, rfl, HA, HK1, ⟨m1, rfl⟩⟩ := hrel
    cases gk with
    | zero => exact absurd HA.out (by simp [umlautref5_hex.l0])
    | succ k1 =>
      have H := HA.out
      clear HA
      simp only [umlautref5_hex.l0] at H
      by_cases c3 : x6_1 < a1
      · rw [if_pos c3] at H
        have c3b0 : decide (x6_1 < a1) = true := decide_eq_true c3
        clear c3
        obtain ⟨ji4, hji4⟩ : ∃ j_ : Int, (wrap64 (4 * x6_1)) = j_ := ⟨_, rfl⟩
        replace H : (if 0 ≤ (ji4) then (if 0 ≤ (Go.bits .and .i64 (shr .i64 a0 (ji4)) 15) then (if (Go.bits .and .i64 (shr .i64 a0 (ji4)) 15) ≤ (wrap64 ((Go.bits .and .i64 (shr .i64 a0 (ji4)) 15) + 1)) then (if (wrap64 ((Go.bits .and .i64 (shr .i64 a0 (ji4)) 15) + 1)) ≤ 16 then (if ((⟨#[48, 49, 50, 51, 52, 53, 54, 55, 56, 57, 97, 98, 99, 100, 101, 102]⟩ : ByteArray).extract ((Go.bits .and .i64 (shr .i64 a0 (ji4)) 15) : Int).toNat ((wrap64 ((Go.bits .and .i64 (shr .i64 a0 (ji4)) 15) + 1)) : Int).toNat).size + x5_1.size ≤ 9223372036854775807 then (umlautref5_hex.l0 k1 a0 a1 (((⟨#[48, 49, 50, 51, 52, 53, 54, 55, 56, 57, 97, 98, 99, 100, 101, 102]⟩ : ByteArray).extract ((Go.bits .and .i64 (shr .i64 a0 (ji4)) 15) : Int).toNat ((wrap64 ((Go.bits .and .i64 (shr .i64 a0 (ji4)) 15) + 1)) : Int).toNat) ++ x5_1) (wrap64 (x6_1 + 1))) else (none)) else (none)) else (none)) else (none)) else (none)) = some r := by first | (rw [hji4] at H; exact H) | (simp only [hji4] at H ⊢; exact H)
        have hji4w : (IntKind.i64.wrap (4 * x6_1)) = ji4 := (i64_w _).trans hji4
        by_cases c5 : 0 ≤ (ji4)
        · rw [if_pos c5] at H
          have c5b0 := eq_true c5
          have c5b1 : decide (0 ≤ (ji4)) = true := decide_eq_true c5
          clear c5
          obtain ⟨ji6, hji6⟩ : ∃ j_ : Int, (shr .i64 a0 (ji4)) = j_ := ⟨_, rfl⟩
          replace H : (if 0 ≤ (Go.bits .and .i64 (ji6) 15) then (if (Go.bits .and .i64 (ji6) 15) ≤ (wrap64 ((Go.bits .and .i64 (ji6) 15) + 1)) then (if (wrap64 ((Go.bits .and .i64 (ji6) 15) + 1)) ≤ 16 then (if ((⟨#[48, 49, 50, 51, 52, 53, 54, 55, 56, 57, 97, 98, 99, 100, 101, 102]⟩ : ByteArray).extract ((Go.bits .and .i64 (ji6) 15) : Int).toNat ((wrap64 ((Go.bits .and .i64 (ji6) 15) + 1)) : Int).toNat).size + x5_1.size ≤ 9223372036854775807 then (umlautref5_hex.l0 k1 a0 a1 (((⟨#[48, 49, 50, 51, 52, 53, 54, 55, 56, 57, 97, 98, 99, 100, 101, 102]⟩ : ByteArray).extract ((Go.bits .and .i64 (ji6) 15) : Int).toNat ((wrap64 ((Go.bits .and .i64 (ji6) 15) + 1)) : Int).toNat) ++ x5_1) (wrap64 (x6_1 + 1))) else (none)) else (none)) else (none)) else (none)) = some r := by first | (rw [hji6] at H; exact H) | (simp only [hji6] at H ⊢; exact H)
          have hji6_ : (a0 / 2 ^ min (ji4).toNat 64) = ji6 := hji6
          have hji6z : (ji4) ≤ 64 → (a0 / 2 ^ (ji4).toNat) = ji6 := shr_small hji6
          by_cases c7 : 0 ≤ (Go.bits .and .i64 (ji6) 15)
          · rw [if_pos c7] at H
            have c7b0 := eq_true c7
            have c7b1 : decide (0 ≤ (Go.bits .and .i64 (ji6) 15)) = true := decide_eq_true c7
            clear c7
            by_cases c8 : (Go.bits .and .i64 (ji6) 15) ≤ (wrap64 ((Go.bits .and .i64 (ji6) 15) + 1))
            · rw [if_pos c8] at H
              have c8b0 := eq_true c8
              have c8b1 : decide ((Go.bits .and .i64 (ji6) 15) ≤ (wrap64 ((Go.bits .and .i64 (ji6) 15) + 1))) = true := decide_eq_true c8
              by_cases c9 : (wrap64 ((Go.bits .and .i64 (ji6) 15) + 1)) ≤ 16
              · rw [if_pos c9] at H
                have c9b0 := eq_true c9
                have c9b1 : decide ((wrap64 ((Go.bits .and .i64 (ji6) 15) + 1)) ≤ 16) = true := decide_eq_true c9
                by_cases c10 : ((⟨#[48, 49, 50, 51, 52, 53, 54, 55, 56, 57, 97, 98, 99, 100, 101, 102]⟩ : ByteArray).extract ((Go.bits .and .i64 (ji6) 15) : Int).toNat ((wrap64 ((Go.bits .and .i64 (ji6) 15) + 1)) : Int).toNat).size + x5_1.size ≤ 9223372036854775807
                · rw [if_pos c10] at H
                  have c10b0 := eq_true c10
                  have c10b1 : decide (((⟨#[48, 49, 50, 51, 52, 53, 54, 55, 56, 57, 97, 98, 99, 100, 101, 102]⟩ : ByteArray).extract ((Go.bits .and .i64 (ji6) 15) : Int).toNat ((wrap64 ((Go.bits .and .i64 (ji6) 15) + 1)) : Int).toNat).size + x5_1.size ≤ 9223372036854775807) = true := decide_eq_true c10
                  try have c10b2 : (9223372036854775807 < ((⟨#[48, 49, 50, 51, 52, 53, 54, 55, 56, 57, 97, 98, 99, 100, 101, 102]⟩ : ByteArray).extract ((Go.bits .and .i64 (ji6) 15) : Int).toNat ((wrap64 ((Go.bits .and .i64 (ji6) 15) + 1)) : Int).toNat).size + x5_1.size) = False := eq_false (Nat.not_lt.2 c10)
                  have H' := Aside0.mk H
                  clear H
                  go_wp2
                  go_roundg k1
                  case measure => have := HK1.out; omega
                  case rel => exact ⟨(((⟨#[48, 49, 50, 51, 52, 53, 54, 55, 56, 57, 97, 98, 99, 100, 101, 102]⟩ : ByteArray).extract ((Go.bits .and .i64 (ji6) 15) : Int).toNat ((wrap64 ((Go.bits .and .i64 (ji6) 15) + 1)) : Int).toNat) ++ x5_1), (wrap64 (x6_1 + 1)), (by first | rfl | (simp; done) | (simp only [← hji6] <;> (first | rfl | simp)) | (simp [*]; done)), (by first | rfl | (simp; done) | (simp [*]; done)), H', ⟨by have := HK1.out; omega⟩, by repeat (first | exact Drawn0.refl _ | apply Drawn0.step)⟩
                · rw [if_neg c10] at H
                  exact absurd H (by simp)
              · rw [if_neg c9] at H
                exact absurd H (by simp)
            · rw [if_neg c8] at H
              exact absurd H (by simp)
          · rw [if_neg c7] at H
            exact absurd H (by simp)
        · rw [if_neg c5] at H
          exact absurd H (by simp)
      · rw [if_neg c3] at H
        have c3b0 : decide (x6_1 < a1) = false := decide_eq_false c3
        clear c3
        obtain rfl := Option.some.inj H
        go_wp2
        go_ret
        exact ⟨by first | rfl | (simp; done) | (simp [*]; done), by repeat (first | exact Drawn0.refl _ | apply Drawn0.step)⟩

/-! ### umlautref5_Elem_Text: function 17 -/
def umlautref5_Elem_Text.f (k : Nat) (a0_0 : Int) (a0_1 : Int) (a0_2 : Int) (a0_3 : Bool) : Option (ByteArray) := if a0_3 = true then ((umlautref5_hex.f k a0_0 4).bind fun t147 => (if 2 + t147.size ≤ 9223372036854775807 then (if ((⟨#[91, 42]⟩ : ByteArray) ++ t147).size + 1 ≤ 9223372036854775807 then ((umlautref5_hex.f k a0_1 2).bind fun t148 => (if (((⟨#[91, 42]⟩ : ByteArray) ++ t147) ++ (⟨#[46]⟩ : ByteArray)).size + t148.size ≤ 9223372036854775807 then (if ((((⟨#[91, 42]⟩ : ByteArray) ++ t147) ++ (⟨#[46]⟩ : ByteArray)) ++ t148).size + 1 ≤ 9223372036854775807 then ((umlautref5_hex.f k a0_2 2).bind fun t149 => (if (((((⟨#[91, 42]⟩ : ByteArray) ++ t147) ++ (⟨#[46]⟩ : ByteArray)) ++ t148) ++ (⟨#[46]⟩ : ByteArray)).size + t149.size ≤ 9223372036854775807 then (if ((((((⟨#[91, 42]⟩ : ByteArray) ++ t147) ++ (⟨#[46]⟩ : ByteArray)) ++ t148) ++ (⟨#[46]⟩ : ByteArray)) ++ t149).size + 1 ≤ 9223372036854775807 then (some (((((((⟨#[91, 42]⟩ : ByteArray) ++ t147) ++ (⟨#[46]⟩ : ByteArray)) ++ t148) ++ (⟨#[46]⟩ : ByteArray)) ++ t149) ++ (⟨#[93]⟩ : ByteArray))) else (none)) else (none))) else (none)) else (none))) else (none)) else (none))) else ((umlautref5_hex.f k a0_0 4).bind fun t150 => (if 1 + t150.size ≤ 9223372036854775807 then (if ((⟨#[91]⟩ : ByteArray) ++ t150).size + 1 ≤ 9223372036854775807 then ((umlautref5_hex.f k a0_1 2).bind fun t151 => (if (((⟨#[91]⟩ : ByteArray) ++ t150) ++ (⟨#[46]⟩ : ByteArray)).size + t151.size ≤ 9223372036854775807 then (if ((((⟨#[91]⟩ : ByteArray) ++ t150) ++ (⟨#[46]⟩ : ByteArray)) ++ t151).size + 1 ≤ 9223372036854775807 then ((umlautref5_hex.f k a0_2 2).bind fun t152 => (if (((((⟨#[91]⟩ : ByteArray) ++ t150) ++ (⟨#[46]⟩ : ByteArray)) ++ t151) ++ (⟨#[46]⟩ : ByteArray)).size + t152.size ≤ 9223372036854775807 then (if ((((((⟨#[91]⟩ : ByteArray) ++ t150) ++ (⟨#[46]⟩ : ByteArray)) ++ t151) ++ (⟨#[46]⟩ : ByteArray)) ++ t152).size + 1 ≤ 9223372036854775807 then (some (((((((⟨#[91]⟩ : ByteArray) ++ t150) ++ (⟨#[46]⟩ : ByteArray)) ++ t151) ++ (⟨#[46]⟩ : ByteArray)) ++ t152) ++ (⟨#[93]⟩ : ByteArray))) else (none)) else (none))) else (none)) else (none))) else (none)) else (none)))
theorem umlautref5_Elem_Text.mono : ∀ a0 a1 a2 a3 k, LeO (umlautref5_Elem_Text.f k a0 a1 a2 a3) (umlautref5_Elem_Text.f (k + 1) a0 a1 a2 a3) := by
  intro a0 a1 a2 a3 k
  unfold umlautref5_Elem_Text.f
  repeat' first
      | (with_reducible exact umlautref5_hex.mono _ _ _)
      | (with_reducible exact LeO.refl _)
      | (with_reducible exact LeO.none _)
      | (with_reducible refine LeO.ite ?_ ?_)
      | (with_reducible refine LeO.bind ?_ (fun _ => ?_))
      | exact umlautref5_hex.mono _ _ _
      | exact LeO.none _
      | refine LeO.ite ?_ ?_
      | refine LeO.bind ?_ (fun _ => ?_)
set_option maxHeartbeats 8000000 in
set_option maxRecDepth 100000 in
theorem umlautref5_Elem_Text.calls (k : Nat) (a0_0 : Int) (a0_1 : Int) (a0_2 : Int) (a0_3 : Bool) (r : ByteArray) (w : World) (h : umlautref5_Elem_Text.f k a0_0 a0_1 a0_2 a0_3 = some r) :
    Calls Tryd.prog 17 #[.agg #[.int .i64 a0_0, .int .i64 a0_1, .int .i64 a0_2, .bool a0_3]] w fun e w' => e = .returned (.string r) ∧ Below w.heap.size w w' := by
  have hu26 := Tryd.underlying26
  have HB := Aside0.mk (Below.refl w.heap.size w)
  have H : (if a0_3 = true then ((umlautref5_hex.f k a0_0 4).bind fun t147 => (if 2 + t147.size ≤ 9223372036854775807 then (if ((⟨#[91, 42]⟩ : ByteArray) ++ t147).size + 1 ≤ 9223372036854775807 then ((umlautref5_hex.f k a0_1 2).bind fun t148 => (if (((⟨#[91, 42]⟩ : ByteArray) ++ t147) ++ (⟨#[46]⟩ : ByteArray)).size + t148.size ≤ 9223372036854775807 then (if ((((⟨#[91, 42]⟩ : ByteArray) ++ t147) ++ (⟨#[46]⟩ : ByteArray)) ++ t148).size + 1 ≤ 9223372036854775807 then ((umlautref5_hex.f k a0_2 2).bind fun t149 => (if (((((⟨#[91, 42]⟩ : ByteArray) ++ t147) ++ (⟨#[46]⟩ : ByteArray)) ++ t148) ++ (⟨#[46]⟩ : ByteArray)).size + t149.size ≤ 9223372036854775807 then (if ((((((⟨#[91, 42]⟩ : ByteArray) ++ t147) ++ (⟨#[46]⟩ : ByteArray)) ++ t148) ++ (⟨#[46]⟩ : ByteArray)) ++ t149).size + 1 ≤ 9223372036854775807 then (some (((((((⟨#[91, 42]⟩ : ByteArray) ++ t147) ++ (⟨#[46]⟩ : ByteArray)) ++ t148) ++ (⟨#[46]⟩ : ByteArray)) ++ t149) ++ (⟨#[93]⟩ : ByteArray))) else (none)) else (none))) else (none)) else (none))) else (none)) else (none))) else ((umlautref5_hex.f k a0_0 4).bind fun t150 => (if 1 + t150.size ≤ 9223372036854775807 then (if ((⟨#[91]⟩ : ByteArray) ++ t150).size + 1 ≤ 9223372036854775807 then ((umlautref5_hex.f k a0_1 2).bind fun t151 => (if (((⟨#[91]⟩ : ByteArray) ++ t150) ++ (⟨#[46]⟩ : ByteArray)).size + t151.size ≤ 9223372036854775807 then (if ((((⟨#[91]⟩ : ByteArray) ++ t150) ++ (⟨#[46]⟩ : ByteArray)) ++ t151).size + 1 ≤ 9223372036854775807 then ((umlautref5_hex.f k a0_2 2).bind fun t152 => (if (((((⟨#[91]⟩ : ByteArray) ++ t150) ++ (⟨#[46]⟩ : ByteArray)) ++ t151) ++ (⟨#[46]⟩ : ByteArray)).size + t152.size ≤ 9223372036854775807 then (if ((((((⟨#[91]⟩ : ByteArray) ++ t150) ++ (⟨#[46]⟩ : ByteArray)) ++ t151) ++ (⟨#[46]⟩ : ByteArray)) ++ t152).size + 1 ≤ 9223372036854775807 then (some (((((((⟨#[91]⟩ : ByteArray) ++ t150) ++ (⟨#[46]⟩ : ByteArray)) ++ t151) ++ (⟨#[46]⟩ : ByteArray)) ++ t152) ++ (⟨#[93]⟩ : ByteArray))) else (none)) else (none))) else (none)) else (none))) else (none)) else (none)))) = some r := h
  clear h
  by_cases c2 : a0_3 = true
  · subst c2
    have H1 : ((umlautref5_hex.f k a0_0 4).bind fun t147 => (if 2 + t147.size ≤ 9223372036854775807 then (if ((⟨#[91, 42]⟩ : ByteArray) ++ t147).size + 1 ≤ 9223372036854775807 then ((umlautref5_hex.f k a0_1 2).bind fun t148 => (if (((⟨#[91, 42]⟩ : ByteArray) ++ t147) ++ (⟨#[46]⟩ : ByteArray)).size + t148.size ≤ 9223372036854775807 then (if ((((⟨#[91, 42]⟩ : ByteArray) ++ t147) ++ (⟨#[46]⟩ : ByteArray)) ++ t148).size + 1 ≤ 9223372036854775807 then ((umlautref5_hex.f k a0_2 2).bind fun t149 => (if (((((⟨#[91, 42]⟩ : ByteArray) ++ t147) ++ (⟨#[46]⟩ : ByteArray)) ++ t148) ++ (⟨#[46]⟩ : ByteArray)).size + t149.size ≤ 9223372036854775807 then (if ((((((⟨#[91, 42]⟩ : ByteArray) ++ t147) ++ (⟨#[46]⟩ : ByteArray)) ++ t148) ++ (⟨#[46]⟩ : ByteArray)) ++ t149).size + 1 ≤ 9223372036854775807 then (some (((((((⟨#[91, 42]⟩ : ByteArray) ++ t147) ++ (⟨#[46]⟩ : ByteArray)) ++ t148) ++ (⟨#[46]⟩ : ByteArray)) ++ t149) ++ (⟨#[93]⟩ : ByteArray))) else (none)) else (none))) else (none)) else (none))) else (none)) else (none))) = some r := by rw [if_pos rfl] at H; exact H
    clear H
    have H := H1
    clear H1
    replace H := Option.bind_eq_some_iff.mp H
    obtain ⟨t147, A30, H⟩ := H
    replace H : (if 2 + t147.size ≤ 9223372036854775807 then (if ((⟨#[91, 42]⟩ : ByteArray) ++ t147).size + 1 ≤ 9223372036854775807 then ((umlautref5_hex.f k a0_1 2).bind fun t148 => (if (((⟨#[91, 42]⟩ : ByteArray) ++ t147) ++ (⟨#[46]⟩ : ByteArray)).size + t148.size ≤ 9223372036854775807 then (if ((((⟨#[91, 42]⟩ : ByteArray) ++ t147) ++ (⟨#[46]⟩ : ByteArray)) ++ t148).size + 1 ≤ 9223372036854775807 then ((umlautref5_hex.f k a0_2 2).bind fun t149 => (if (((((⟨#[91, 42]⟩ : ByteArray) ++ t147) ++ (⟨#[46]⟩ : ByteArray)) ++ t148) ++ (⟨#[46]⟩ : ByteArray)).size + t149.size ≤ 9223372036854775807 then (if ((((((⟨#[91, 42]⟩ : ByteArray) ++ t147) ++ (⟨#[46]⟩ : ByteArray)) ++ t148) ++ (⟨#[46]⟩ : ByteArray)) ++ t149).size + 1 ≤ 9223372036854775807 then (some (((((((⟨#[91, 42]⟩ : ByteArray) ++ t147) ++ (⟨#[46]⟩ : ByteArray)) ++ t148) ++ (⟨#[46]⟩ : ByteArray)) ++ t149) ++ (⟨#[93]⟩ : ByteArray))) else (none)) else (none))) else (none)) else (none))) else (none)) else (none)) = some r := H
    have A3 := Aside0.mk A30
    clear A30
    by_cases c4 : 2 + t147.size ≤ 9223372036854775807
    · rw [if_pos c4] at H
      have c4b0 := eq_true c4
      have c4b1 : decide (2 + t147.size ≤ 9223372036854775807) = true := decide_eq_true c4
      try have c4b2 : (9223372036854775807 < 2 + t147.size) = False := eq_false (Nat.not_lt.2 c4)
      by_cases c5 : ((⟨#[91, 42]⟩ : ByteArray) ++ t147).size + 1 ≤ 9223372036854775807
      · rw [if_pos c5] at H
        have c5b0 := eq_true c5
        have c5b1 : decide (((⟨#[91, 42]⟩ : ByteArray) ++ t147).size + 1 ≤ 9223372036854775807) = true := decide_eq_true c5
        try have c5b2 : (9223372036854775807 < ((⟨#[91, 42]⟩ : ByteArray) ++ t147).size + 1) = False := eq_false (Nat.not_lt.2 c5)
        try have c5b3 : (9223372036854775807 < 2 + t147.size + 1) = False := by (have z_ := c5b2; simp only [ByteArray.size_append] at z_; exact z_)
        replace H := Option.bind_eq_some_iff.mp H
        obtain ⟨t148, A60, H⟩ := H
        replace H : (if (((⟨#[91, 42]⟩ : ByteArray) ++ t147) ++ (⟨#[46]⟩ : ByteArray)).size + t148.size ≤ 9223372036854775807 then (if ((((⟨#[91, 42]⟩ : ByteArray) ++ t147) ++ (⟨#[46]⟩ : ByteArray)) ++ t148).size + 1 ≤ 9223372036854775807 then ((umlautref5_hex.f k a0_2 2).bind fun t149 => (if (((((⟨#[91, 42]⟩ : ByteArray) ++ t147) ++ (⟨#[46]⟩ : ByteArray)) ++ t148) ++ (⟨#[46]⟩ : ByteArray)).size + t149.size ≤ 9223372036854775807 then (if ((((((⟨#[91, 42]⟩ : ByteArray) ++ t147) ++ (⟨#[46]⟩ : ByteArray)) ++ t148) ++ (⟨#[46]⟩ : ByteArray)) ++ t149).size + 1 ≤ 9223372036854775807 then (some (((((((⟨#[91, 42]⟩ : ByteArray) ++ t147) ++ (⟨#[46]⟩ : ByteArray)) ++ t148) ++ (⟨#[46]⟩ : ByteArray)) ++ t149) ++ (⟨#[93]⟩ : ByteArray))) else (none)) else (none))) else (none)) else (none)) = some r := H
        have A6 := Aside0.mk A60
        clear A60
        by_cases c7 : (((⟨#[91, 42]⟩ : ByteArray) ++ t147) ++ (⟨#[46]⟩ : ByteArray)).size + t148.size ≤ 9223372036854775807
        · rw [if_pos c7] at H
          have c7b0 := eq_true c7
          have c7b1 : decide ((((⟨#[91, 42]⟩ : ByteArray) ++ t147) ++ (⟨#[46]⟩ : ByteArray)).size + t148.size ≤ 9223372036854775807) = true := decide_eq_true c7
          try have c7b2 : (9223372036854775807 < (((⟨#[91, 42]⟩ : ByteArray) ++ t147) ++ (⟨#[46]⟩ : ByteArray)).size + t148.size) = False := eq_false (Nat.not_lt.2 c7)
          try have c7b3 : (9223372036854775807 < 2 + t147.size + 1 + t148.size) = False := by (have z_ := c7b2; simp only [ByteArray.size_append] at z_; exact z_)
          by_cases c8 : ((((⟨#[91, 42]⟩ : ByteArray) ++ t147) ++ (⟨#[46]⟩ : ByteArray)) ++ t148).size + 1 ≤ 9223372036854775807
          · rw [if_pos c8] at H
            have c8b0 := eq_true c8
            have c8b1 : decide (((((⟨#[91, 42]⟩ : ByteArray) ++ t147) ++ (⟨#[46]⟩ : ByteArray)) ++ t148).size + 1 ≤ 9223372036854775807) = true := decide_eq_true c8
            try have c8b2 : (9223372036854775807 < ((((⟨#[91, 42]⟩ : ByteArray) ++ t147) ++ (⟨#[46]⟩ : ByteArray)) ++ t148).size + 1) = False := eq_false (Nat.not_lt.2 c8)
            try have c8b3 : (9223372036854775807 < 2 + t147.size + 1 + t148.size + 1) = False := by (have z_ := c8b2; simp only [ByteArray.size_append] at z_; exact z_)
            replace H := Option.bind_eq_some_iff.mp H
            obtain ⟨t149, A90, H⟩ := H
            replace H : (if (((((⟨#[91, 42]⟩ : ByteArray) ++ t147) ++ (⟨#[46]⟩ : ByteArray)) ++ t148) ++ (⟨#[46]⟩ : ByteArray)).size + t149.size ≤ 9223372036854775807 then (if ((((((⟨#[91, 42]⟩ : ByteArray) ++ t147) ++ (⟨#[46]⟩ : ByteArray)) ++ t148) ++ (⟨#[46]⟩ : ByteArray)) ++ t149).size + 1 ≤ 9223372036854775807 then (some (((((((⟨#[91, 42]⟩ : ByteArray) ++ t147) ++ (⟨#[46]⟩ : ByteArray)) ++ t148) ++ (⟨#[46]⟩ : ByteArray)) ++ t149) ++ (⟨#[93]⟩ : ByteArray))) else (none)) else (none)) = some r := H
            have A9 := Aside0.mk A90
            clear A90
            by_cases c10 : (((((⟨#[91, 42]⟩ : ByteArray) ++ t147) ++ (⟨#[46]⟩ : ByteArray)) ++ t148) ++ (⟨#[46]⟩ : ByteArray)).size + t149.size ≤ 9223372036854775807
            · rw [if_pos c10] at H
              have c10b0 := eq_true c10
              have c10b1 : decide ((((((⟨#[91, 42]⟩ : ByteArray) ++ t147) ++ (⟨#[46]⟩ : ByteArray)) ++ t148) ++ (⟨#[46]⟩ : ByteArray)).size + t149.size ≤ 9223372036854775807) = true := decide_eq_true c10
              try have c10b2 : (9223372036854775807 < (((((⟨#[91, 42]⟩ : ByteArray) ++ t147) ++ (⟨#[46]⟩ : ByteArray)) ++ t148) ++ (⟨#[46]⟩ : ByteArray)).size + t149.size) = False := eq_false (Nat.not_lt.2 c10)
              try have c10b3 : (9223372036854775807 < 2 + t147.size + 1 + t148.size + 1 + t149.size) = False := by (have z_ := c10b2; simp only [ByteArray.size_append] at z_; exact z_)
              by_cases c11 : ((((((⟨#[91, 42]⟩ : ByteArray) ++ t147) ++ (⟨#[46]⟩ : ByteArray)) ++ t148) ++ (⟨#[46]⟩ : ByteArray)) ++ t149).size + 1 ≤ 9223372036854775807
              · rw [if_pos c11] at H
                have c11b0 := eq_true c11
                have c11b1 : decide (((((((⟨#[91, 42]⟩ : ByteArray) ++ t147) ++ (⟨#[46]⟩ : ByteArray)) ++ t148) ++ (⟨#[46]⟩ : ByteArray)) ++ t149).size + 1 ≤ 9223372036854775807) = true := decide_eq_true c11
                try have c11b2 : (9223372036854775807 < ((((((⟨#[91, 42]⟩ : ByteArray) ++ t147) ++ (⟨#[46]⟩ : ByteArray)) ++ t148) ++ (⟨#[46]⟩ : ByteArray)) ++ t149).size + 1) = False := eq_false (Nat.not_lt.2 c11)
                try have c11b3 : (9223372036854775807 < 2 + t147.size + 1 + t148.size + 1 + t149.size + 1) = False := by (have z_ := c11b2; simp only [ByteArray.size_append] at z_; exact z_)
                obtain rfl := Option.some.inj H
                go_enter Tryd.func17, Tryd.ntmps17
                go_wp2_with (first | ((with_reducible refine gate_dst (N := 1) rfl ?_); refine box_event ?hg (N := 1) ?hd (cs := #[.int .i64 a0_0, .int .i64 a0_1, .int .i64 a0_2, .bool true]) (t := 26) ?hr ?_; (case hd => rfl); (case hg => rfl); (case hr => first | (go_simp; done) | (go_simp; rfl)); intro gb146 hg w12 hbox hb; have n0_ := Aside0.mk (below_step (by repeat (first | (with_reducible first | exact HB.out | apply below_alloc | apply pw_below_drewN | apply below_drew1) | exact HB.out)) hb); have n1_ := Aside0.mk (hbox); have n2_ := Aside0.mk ((by rw [hg]; exact (below_size (by repeat (first | (with_reducible first | exact HB.out | apply below_alloc | apply pw_below_drewN | apply below_drew1) | exact HB.out))) : w.heap.size ≤ gb146)); have n3_ := Aside0.mk ((by rw [hg]; exact (below_size (by repeat (first | (with_reducible first | exact HB.out | apply below_alloc | apply pw_below_drewN | apply below_drew1) | exact HB.out))) : w.heap.size ≤ gb146)); clear HB; have HB := n0_; have BK146 := n1_; have GW146 := n2_; have GE146 := n3_; clear n0_ n1_ n2_ n3_; clear hb hbox hg; have hcz13_0 : w12.cell? ⟨gb146, 0, none⟩ = some (.int .i64 a0_0) := (blk_cell BK146.out 0).trans rfl; have hcz13_1 : w12.cell? ⟨gb146, 1, none⟩ = some (.int .i64 a0_1) := (blk_cell BK146.out 1).trans rfl; have hcz13_2 : w12.cell? ⟨gb146, 2, none⟩ = some (.int .i64 a0_2) := (blk_cell BK146.out 2).trans rfl; have hcz13_3 : w12.cell? ⟨gb146, 3, none⟩ = some (.bool true) := (blk_cell BK146.out 3).trans rfl; have hfz13_0 := blk_frozen BK146.out 0; have hfz13_1 := blk_frozen BK146.out 1; have hfz13_2 := blk_frozen BK146.out 2; have hfz13_3 := blk_frozen BK146.out 3) | (go_at_call 23; (with_reducible refine (umlautref5_hex.calls k a0_0 4 t147 _ A3.out).mono ?_); rintro e w' ⟨rfl, ⟨nd, rfl⟩⟩; (try first | exact ⟨rfl, _, World.drewN_drewN _ _ _⟩ | exact ⟨rfl, _, Eq.trans (World.drewN_drewN _ _ _) (congrArg (World.drewN _) (Nat.add_assoc _ _ _))⟩)) | (go_at_call 23; (with_reducible refine (umlautref5_hex.calls k a0_1 2 t148 _ A6.out).mono ?_); rintro e w' ⟨rfl, ⟨nd, rfl⟩⟩; (try first | exact ⟨rfl, _, World.drewN_drewN _ _ _⟩ | exact ⟨rfl, _, Eq.trans (World.drewN_drewN _ _ _) (congrArg (World.drewN _) (Nat.add_assoc _ _ _))⟩)) | (go_at_call 23; (with_reducible refine (umlautref5_hex.calls k a0_2 2 t149 _ A9.out).mono ?_); rintro e w' ⟨rfl, ⟨nd, rfl⟩⟩; (try first | exact ⟨rfl, _, World.drewN_drewN _ _ _⟩ | exact ⟨rfl, _, Eq.trans (World.drewN_drewN _ _ _) (congrArg (World.drewN _) (Nat.add_assoc _ _ _))⟩)))
                repeat (go_quiet (first | ((with_reducible refine gate_dst (N := 1) rfl ?_); refine box_event ?hg (N := 1) ?hd (cs := #[.int .i64 a0_0, .int .i64 a0_1, .int .i64 a0_2, .bool true]) (t := 26) ?hr ?_; (case hd => rfl); (case hg => rfl); (case hr => first | (go_simp; done) | (go_simp; rfl)); intro gb146 hg w12 hbox hb; have n0_ := Aside0.mk (below_step (by repeat (first | (with_reducible first | exact HB.out | apply below_alloc | apply pw_below_drewN | apply below_drew1) | exact HB.out)) hb); have n1_ := Aside0.mk (hbox); have n2_ := Aside0.mk ((by rw [hg]; exact (below_size (by repeat (first | (with_reducible first | exact HB.out | apply below_alloc | apply pw_below_drewN | apply below_drew1) | exact HB.out))) : w.heap.size ≤ gb146)); have n3_ := Aside0.mk ((by rw [hg]; exact (below_size (by repeat (first | (with_reducible first | exact HB.out | apply below_alloc | apply pw_below_drewN | apply below_drew1) | exact HB.out))) : w.heap.size ≤ gb146)); clear HB; have HB := n0_; have BK146 := n1_; have GW146 := n2_; have GE146 := n3_; clear n0_ n1_ n2_ n3_; clear hb hbox hg; have hcz13_0 : w12.cell? ⟨gb146, 0, none⟩ = some (.int .i64 a0_0) := (blk_cell BK146.out 0).trans rfl; have hcz13_1 : w12.cell? ⟨gb146, 1, none⟩ = some (.int .i64 a0_1) := (blk_cell BK146.out 1).trans rfl; have hcz13_2 : w12.cell? ⟨gb146, 2, none⟩ = some (.int .i64 a0_2) := (blk_cell BK146.out 2).trans rfl; have hcz13_3 : w12.cell? ⟨gb146, 3, none⟩ = some (.bool true) := (blk_cell BK146.out 3).trans rfl; have hfz13_0 := blk_frozen BK146.out 0; have hfz13_1 := blk_frozen BK146.out 1; have hfz13_2 := blk_frozen BK146.out 2; have hfz13_3 := blk_frozen BK146.out 3) | (go_at_call 23; (with_reducible refine (umlautref5_hex.calls k a0_0 4 t147 _ A3.out).mono ?_); rintro e w' ⟨rfl, ⟨nd, rfl⟩⟩; (try first | exact ⟨rfl, _, World.drewN_drewN _ _ _⟩ | exact ⟨rfl, _, Eq.trans (World.drewN_drewN _ _ _) (congrArg (World.drewN _) (Nat.add_assoc _ _ _))⟩)) | (go_at_call 23; (with_reducible refine (umlautref5_hex.calls k a0_1 2 t148 _ A6.out).mono ?_); rintro e w' ⟨rfl, ⟨nd, rfl⟩⟩; (try first | exact ⟨rfl, _, World.drewN_drewN _ _ _⟩ | exact ⟨rfl, _, Eq.trans (World.drewN_drewN _ _ _) (congrArg (World.drewN _) (Nat.add_assoc _ _ _))⟩)) | (go_at_call 23; (with_reducible refine (umlautref5_hex.calls k a0_2 2 t149 _ A9.out).mono ?_); rintro e w' ⟨rfl, ⟨nd, rfl⟩⟩; (try first | exact ⟨rfl, _, World.drewN_drewN _ _ _⟩ | exact ⟨rfl, _, Eq.trans (World.drewN_drewN _ _ _) (congrArg (World.drewN _) (Nat.add_assoc _ _ _))⟩))); try go_wp2_with (first | ((with_reducible refine gate_dst (N := 1) rfl ?_); refine box_event ?hg (N := 1) ?hd (cs := #[.int .i64 a0_0, .int .i64 a0_1, .int .i64 a0_2, .bool true]) (t := 26) ?hr ?_; (case hd => rfl); (case hg => rfl); (case hr => first | (go_simp; done) | (go_simp; rfl)); intro gb146 hg w12 hbox hb; have n0_ := Aside0.mk (below_step (by repeat (first | (with_reducible first | exact HB.out | apply below_alloc | apply pw_below_drewN | apply below_drew1) | exact HB.out)) hb); have n1_ := Aside0.mk (hbox); have n2_ := Aside0.mk ((by rw [hg]; exact (below_size (by repeat (first | (with_reducible first | exact HB.out | apply below_alloc | apply pw_below_drewN | apply below_drew1) | exact HB.out))) : w.heap.size ≤ gb146)); have n3_ := Aside0.mk ((by rw [hg]; exact (below_size (by repeat (first | (with_reducible first | exact HB.out | apply below_alloc | apply pw_below_drewN | apply below_drew1) | exact HB.out))) : w.heap.size ≤ gb146)); clear HB; have HB := n0_; have BK146 := n1_; have GW146 := n2_; have GE146 := n3_; clear n0_ n1_ n2_ n3_; clear hb hbox hg; have hcz13_0 : w12.cell? ⟨gb146, 0, none⟩ = some (.int .i64 a0_0) := (blk_cell BK146.out 0).trans rfl; have hcz13_1 : w12.cell? ⟨gb146, 1, none⟩ = some (.int .i64 a0_1) := (blk_cell BK146.out 1).trans rfl; have hcz13_2 : w12.cell? ⟨gb146, 2, none⟩ = some (.int .i64 a0_2) := (blk_cell BK146.out 2).trans rfl; have hcz13_3 : w12.cell? ⟨gb146, 3, none⟩ = some (.bool true) := (blk_cell BK146.out 3).trans rfl; have hfz13_0 := blk_frozen BK146.out 0; have hfz13_1 := blk_frozen BK146.out 1; have hfz13_2 := blk_frozen BK146.out 2; have hfz13_3 := blk_frozen BK146.out 3) | (go_at_call 23; (with_reducible refine (umlautref5_hex.calls k a0_0 4 t147 _ A3.out).mono ?_); rintro e w' ⟨rfl, ⟨nd, rfl⟩⟩; (try first | exact ⟨rfl, _, World.drewN_drewN _ _ _⟩ | exact ⟨rfl, _, Eq.trans (World.drewN_drewN _ _ _) (congrArg (World.drewN _) (Nat.add_assoc _ _ _))⟩)) | (go_at_call 23; (with_reducible refine (umlautref5_hex.calls k a0_1 2 t148 _ A6.out).mono ?_); rintro e w' ⟨rfl, ⟨nd, rfl⟩⟩; (try first | exact ⟨rfl, _, World.drewN_drewN _ _ _⟩ | exact ⟨rfl, _, Eq.trans (World.drewN_drewN _ _ _) (congrArg (World.drewN _) (Nat.add_assoc _ _ _))⟩)) | (go_at_call 23; (with_reducible refine (umlautref5_hex.calls k a0_2 2 t149 _ A9.out).mono ?_); rintro e w' ⟨rfl, ⟨nd, rfl⟩⟩; (try first | exact ⟨rfl, _, World.drewN_drewN _ _ _⟩ | exact ⟨rfl, _, Eq.trans (World.drewN_drewN _ _ _) (congrArg (World.drewN _) (Nat.add_assoc _ _ _))⟩))))
                go_ret
                exact ⟨by first | rfl | (simp [errW_none, errW_some] <;> rfl) | (simp [*, errW_none, errW_some] <;> rfl), by repeat (first | (with_reducible first | exact HB.out | apply below_alloc | apply pw_below_drewN | apply below_drew1 | refine below_set ?_ GE146.out) | exact HB.out)⟩
              · rw [if_neg c11] at H
                exact absurd H (by simp)
            · rw [if_neg c10] at H
              exact absurd H (by simp)
          · rw [if_neg c8] at H
            exact absurd H (by simp)
        · rw [if_neg c7] at H
          exact absurd H (by simp)
      · rw [if_neg c5] at H
        exact absurd H (by simp)
    · rw [if_neg c4] at H
      exact absurd H (by simp)
  · replace c2 := Bool.eq_false_iff.mpr c2
    subst c2
    have H1 : ((umlautref5_hex.f k a0_0 4).bind fun t150 => (if 1 + t150.size ≤ 9223372036854775807 then (if ((⟨#[91]⟩ : ByteArray) ++ t150).size + 1 ≤ 9223372036854775807 then ((umlautref5_hex.f k a0_1 2).bind fun t151 => (if (((⟨#[91]⟩ : ByteArray) ++ t150) ++ (⟨#[46]⟩ : ByteArray)).size + t151.size ≤ 9223372036854775807 then (if ((((⟨#[91]⟩ : ByteArray) ++ t150) ++ (⟨#[46]⟩ : ByteArray)) ++ t151).size + 1 ≤ 9223372036854775807 then ((umlautref5_hex.f k a0_2 2).bind fun t152 => (if (((((⟨#[91]⟩ : ByteArray) ++ t150) ++ (⟨#[46]⟩ : ByteArray)) ++ t151) ++ (⟨#[46]⟩ : ByteArray)).size + t152.size ≤ 9223372036854775807 then (if ((((((⟨#[91]⟩ : ByteArray) ++ t150) ++ (⟨#[46]⟩ : ByteArray)) ++ t151) ++ (⟨#[46]⟩ : ByteArray)) ++ t152).size + 1 ≤ 9223372036854775807 then (some (((((((⟨#[91]⟩ : ByteArray) ++ t150) ++ (⟨#[46]⟩ : ByteArray)) ++ t151) ++ (⟨#[46]⟩ : ByteArray)) ++ t152) ++ (⟨#[93]⟩ : ByteArray))) else (none)) else (none))) else (none)) else (none))) else (none)) else (none))) = some r := by rw [if_neg (show ¬ (false = true) by decide)] at H; exact H
    clear H
    have H := H1
    clear H1
    replace H := Option.bind_eq_some_iff.mp H
    obtain ⟨t150, A140, H⟩ := H
    replace H : (if 1 + t150.size ≤ 9223372036854775807 then (if ((⟨#[91]⟩ : ByteArray) ++ t150).size + 1 ≤ 9223372036854775807 then ((umlautref5_hex.f k a0_1 2).bind fun t151 => (if (((⟨#[91]⟩ : ByteArray) ++ t150) ++ (⟨#[46]⟩ : ByteArray)).size + t151.size ≤ 9223372036854775807 then (if ((((⟨#[91]⟩ : ByteArray) ++ t150) ++ (⟨#[46]⟩ : ByteArray)) ++ t151).size + 1 ≤ 9223372036854775807 then ((umlautref5_hex.f k a0_2 2).bind fun t152 => (if (((((⟨#[91]⟩ : ByteArray) ++ t150) ++ (⟨#[46]⟩ : ByteArray)) ++ t151) ++ (⟨#[46]⟩ : ByteArray)).size + t152.size ≤ 9223372036854775807 then (if ((((((⟨#[91]⟩ : ByteArray) ++ t150) ++ (⟨#[46]⟩ : ByteArray)) ++ t151) ++ (⟨#[46]⟩ : ByteArray)) ++ t152).size + 1 ≤ 9223372036854775807 then (some (((((((⟨#[91]⟩ : ByteArray) ++ t150) ++ (⟨#[46]⟩ : ByteArray)) ++ t151) ++ (⟨#[46]⟩ : ByteArray)) ++ t152) ++ (⟨#[93]⟩ : ByteArray))) else (none)) else (none))) else (none)) else (none))) else (none)) else (none)) = some r := H
    have A14 := Aside0.mk A140
    clear A140
    by_cases c15 : 1 + t150.size ≤ 9223372036854775807
    · rw [if_pos c15] at H
      have c15b0 := eq_true c15
      have c15b1 : decide (1 + t150.size ≤ 9223372036854775807) = true := decide_eq_true c15
      try have c15b2 : (9223372036854775807 < 1 + t150.size) = False := eq_false (Nat.not_lt.2 c15)
      by_cases c16 : ((⟨#[91]⟩ : ByteArray) ++ t150).size + 1 ≤ 9223372036854775807
      · rw [if_pos c16] at H
        have c16b0 := eq_true c16
        have c16b1 : decide (((⟨#[91]⟩ : ByteArray) ++ t150).size + 1 ≤ 9223372036854775807) = true := decide_eq_true c16
        try have c16b2 : (9223372036854775807 < ((⟨#[91]⟩ : ByteArray) ++ t150).size + 1) = False := eq_false (Nat.not_lt.2 c16)
        try have c16b3 : (9223372036854775807 < 1 + t150.size + 1) = False := by (have z_ := c16b2; simp only [ByteArray.size_append] at z_; exact z_)
        replace H := Option.bind_eq_some_iff.mp H
        obtain ⟨t151, A170, H⟩ := H
        replace H : (if (((⟨#[91]⟩ : ByteArray) ++ t150) ++ (⟨#[46]⟩ : ByteArray)).size + t151.size ≤ 9223372036854775807 then (if ((((⟨#[91]⟩ : ByteArray) ++ t150) ++ (⟨#[46]⟩ : ByteArray)) ++ t151).size + 1 ≤ 9223372036854775807 then ((umlautref5_hex.f k a0_2 2).bind fun t152 => (if (((((⟨#[91]⟩ : ByteArray) ++ t150) ++ (⟨#[46]⟩ : ByteArray)) ++ t151) ++ (⟨#[46]⟩ : ByteArray)).size + t152.size ≤ 9223372036854775807 then (if ((((((⟨#[91]⟩ : ByteArray) ++ t150) ++ (⟨#[46]⟩ : ByteArray)) ++ t151) ++ (⟨#[46]⟩ : ByteArray)) ++ t152).size + 1 ≤ 9223372036854775807 then (some (((((((⟨#[91]⟩ : ByteArray) ++ t150) ++ (⟨#[46]⟩ : ByteArray)) ++ t151) ++ (⟨#[46]⟩ : ByteArray)) ++ t152) ++ (⟨#[93]⟩ : ByteArray))) else (none)) else (none))) else (none)) else (none)) = some r := H
        have A17 := Aside0.mk A170
        clear A170
        by_cases c18 : (((⟨#[91]⟩ : ByteArray) ++ t150) ++ (⟨#[46]⟩ : ByteArray)).size + t151.size ≤ 9223372036854775807
        · rw [if_pos c18] at H
          have c18b0 := eq_true c18
          have c18b1 : decide ((((⟨#[91]⟩ : ByteArray) ++ t150) ++ (⟨#[46]⟩ : ByteArray)).size + t151.size ≤ 9223372036854775807) = true := decide_eq_true c18
          try have c18b2 : (9223372036854775807 < (((⟨#[91]⟩ : ByteArray) ++ t150) ++ (⟨#[46]⟩ : ByteArray)).size + t151.size) = False := eq_false (Nat.not_lt.2 c18)
          try have c18b3 : (9223372036854775807 < 1 + t150.size + 1 + t151.size) = False := by (have z_ := c18b2; simp only [ByteArray.size_append] at z_; exact z_)
          by_cases c19 : ((((⟨#[91]⟩ : ByteArray) ++ t150) ++ (⟨#[46]⟩ : ByteArray)) ++ t151).size + 1 ≤ 9223372036854775807
          · rw [if_pos c19] at H
            have c19b0 := eq_true c19
            have c19b1 : decide (((((⟨#[91]⟩ : ByteArray) ++ t150) ++ (⟨#[46]⟩ : ByteArray)) ++ t151).size + 1 ≤ 9223372036854775807) = true := decide_eq_true c19
            try have c19b2 : (9223372036854775807 < ((((⟨#[91]⟩ : ByteArray) ++ t150) ++ (⟨#[46]⟩ : ByteArray)) ++ t151).size + 1) = False := eq_false (Nat.not_lt.2 c19)
            try have c19b3 : (9223372036854775807 < 1 + t150.size + 1 + t151.size + 1) = False := by (have z_ := c19b2; simp only [ByteArray.size_append] at z_; exact z_)
            replace H := Option.bind_eq_some_iff.mp H
            obtain ⟨t152, A200, H⟩ := H
            replace H : (if (((((⟨#[91]⟩ : ByteArray) ++ t150) ++ (⟨#[46]⟩ : ByteArray)) ++ t151) ++ (⟨#[46]⟩ : ByteArray)).size + t152.size ≤ 9223372036854775807 then (if ((((((⟨#[91]⟩ : ByteArray) ++ t150) ++ (⟨#[46]⟩ : ByteArray)) ++ t151) ++ (⟨#[46]⟩ : ByteArray)) ++ t152).size + 1 ≤ 9223372036854775807 then (some (((((((⟨#[91]⟩ : ByteArray) ++ t150) ++ (⟨#[46]⟩ : ByteArray)) ++ t151) ++ (⟨#[46]⟩ : ByteArray)) ++ t152) ++ (⟨#[93]⟩ : ByteArray))) else (none)) else (none)) = some r := H
            have A20 := Aside0.mk A200
            clear A200
            by_cases c21 : (((((⟨#[91]⟩ : ByteArray) ++ t150) ++ (⟨#[46]⟩ : ByteArray)) ++ t151) ++ (⟨#[46]⟩ : ByteArray)).size + t152.size ≤ 9223372036854775807
            · rw [if_pos c21] at H
              have c21b0 := eq_true c21
              have c21b1 : decide ((((((⟨#[91]⟩ : ByteArray) ++ t150) ++ (⟨#[46]⟩ : ByteArray)) ++ t151) ++ (⟨#[46]⟩ : ByteArray)).size + t152.size ≤ 9223372036854775807) = true := decide_eq_true c21
              try have c21b2 : (9223372036854775807 < (((((⟨#[91]⟩ : ByteArray) ++ t150) ++ (⟨#[46]⟩ : ByteArray)) ++ t151) ++ (⟨#[46]⟩ : ByteArray)).size + t152.size) = False := eq_false (Nat.not_lt.2 c21)
              try have c21b3 : (9223372036854775807 < 1 + t150.size + 1 + t151.size + 1 + t152.size) = False := by (have z_ := c21b2; simp only [ByteArray.size_append] at z_; exact z_)
              by_cases c22 : ((((((⟨#[91]⟩ : ByteArray) ++ t150) ++ (⟨#[46]⟩ : ByteArray)) ++ t151) ++ (⟨#[46]⟩ : ByteArray)) ++ t152).size + 1 ≤ 9223372036854775807
              · rw [if_pos c22] at H
                have c22b0 := eq_true c22
                have c22b1 : decide (((((((⟨#[91]⟩ : ByteArray) ++ t150) ++ (⟨#[46]⟩ : ByteArray)) ++ t151) ++ (⟨#[46]⟩ : ByteArray)) ++ t152).size + 1 ≤ 9223372036854775807) = true := decide_eq_true c22
                try have c22b2 : (9223372036854775807 < ((((((⟨#[91]⟩ : ByteArray) ++ t150) ++ (⟨#[46]⟩ : ByteArray)) ++ t151) ++ (⟨#[46]⟩ : ByteArray)) ++ t152).size + 1) = False := eq_false (Nat.not_lt.2 c22)
                try have c22b3 : (9223372036854775807 < 1 + t150.size + 1 + t151.size + 1 + t152.size + 1) = False := by (have z_ := c22b2; simp only [ByteArray.size_append] at z_; exact z_)
                obtain rfl := Option.some.inj H
                go_enter Tryd.func17, Tryd.ntmps17
                go_wp2_with (first | ((with_reducible refine gate_dst (N := 1) rfl ?_); refine box_event ?hg (N := 1) ?hd (cs := #[.int .i64 a0_0, .int .i64 a0_1, .int .i64 a0_2, .bool false]) (t := 26) ?hr ?_; (case hd => rfl); (case hg => rfl); (case hr => first | (go_simp; done) | (go_simp; rfl)); intro gb146 hg w23 hbox hb; have n0_ := Aside0.mk (below_step (by repeat (first | (with_reducible first | exact HB.out | apply below_alloc | apply pw_below_drewN | apply below_drew1) | exact HB.out)) hb); have n1_ := Aside0.mk (hbox); have n2_ := Aside0.mk ((by rw [hg]; exact (below_size (by repeat (first | (with_reducible first | exact HB.out | apply below_alloc | apply pw_below_drewN | apply below_drew1) | exact HB.out))) : w.heap.size ≤ gb146)); have n3_ := Aside0.mk ((by rw [hg]; exact (below_size (by repeat (first | (with_reducible first | exact HB.out | apply below_alloc | apply pw_below_drewN | apply below_drew1) | exact HB.out))) : w.heap.size ≤ gb146)); clear HB; have HB := n0_; have BK146 := n1_; have GW146 := n2_; have GE146 := n3_; clear n0_ n1_ n2_ n3_; clear hb hbox hg; have hcz24_0 : w23.cell? ⟨gb146, 0, none⟩ = some (.int .i64 a0_0) := (blk_cell BK146.out 0).trans rfl; have hcz24_1 : w23.cell? ⟨gb146, 1, none⟩ = some (.int .i64 a0_1) := (blk_cell BK146.out 1).trans rfl; have hcz24_2 : w23.cell? ⟨gb146, 2, none⟩ = some (.int .i64 a0_2) := (blk_cell BK146.out 2).trans rfl; have hcz24_3 : w23.cell? ⟨gb146, 3, none⟩ = some (.bool false) := (blk_cell BK146.out 3).trans rfl; have hfz24_0 := blk_frozen BK146.out 0; have hfz24_1 := blk_frozen BK146.out 1; have hfz24_2 := blk_frozen BK146.out 2; have hfz24_3 := blk_frozen BK146.out 3) | (go_at_call 23; (with_reducible refine (umlautref5_hex.calls k a0_0 4 t150 _ A14.out).mono ?_); rintro e w' ⟨rfl, ⟨nd, rfl⟩⟩; (try first | exact ⟨rfl, _, World.drewN_drewN _ _ _⟩ | exact ⟨rfl, _, Eq.trans (World.drewN_drewN _ _ _) (congrArg (World.drewN _) (Nat.add_assoc _ _ _))⟩)) | (go_at_call 23; (with_reducible refine (umlautref5_hex.calls k a0_1 2 t151 _ A17.out).mono ?_); rintro e w' ⟨rfl, ⟨nd, rfl⟩⟩; (try first | exact ⟨rfl, _, World.drewN_drewN _ _ _⟩ | exact ⟨rfl, _, Eq.trans (World.drewN_drewN _ _ _) (congrArg (World.drewN _) (Nat.add_assoc _ _ _))⟩)) | (go_at_call 23; (with_reducible refine (umlautref5_hex.calls k a0_2 2 t152 _ A20.out).mono ?_); rintro e w' ⟨rfl, ⟨nd, rfl⟩⟩; (try first | exact ⟨rfl, _, World.drewN_drewN _ _ _⟩ | exact ⟨rfl, _, Eq.trans (World.drewN_drewN _ _ _) (congrArg (World.drewN _) (Nat.add_assoc _ _ _))⟩)))
                repeat (go_quiet (first | ((with_reducible refine gate_dst (N := 1) rfl ?_); refine box_event ?hg (N := 1) ?hd (cs := #[.int .i64 a0_0, .int .i64 a0_1, .int .i64 a0_2, .bool false]) (t := 26) ?hr ?_; (case hd => rfl); (case hg => rfl); (case hr => first | (go_simp; done) | (go_simp; rfl)); intro gb146 hg w23 hbox hb; have n0_ := Aside0.mk (below_step (by repeat (first | (with_reducible first | exact HB.out | apply below_alloc | apply pw_below_drewN | apply below_drew1) | exact HB.out)) hb); have n1_ := Aside0.mk (hbox); have n2_ := Aside0.mk ((by rw [hg]; exact (below_size (by repeat (first | (with_reducible first | exact HB.out | apply below_alloc | apply pw_below_drewN | apply below_drew1) | exact HB.out))) : w.heap.size ≤ gb146)); have n3_ := Aside0.mk ((by rw [hg]; exact (below_size (by repeat (first | (with_reducible first | exact HB.out | apply below_alloc | apply pw_below_drewN | apply below_drew1) | exact HB.out))) : w.heap.size ≤ gb146)); clear HB; have HB := n0_; have BK146 := n1_; have GW146 := n2_; have GE146 := n3_; clear n0_ n1_ n2_ n3_; clear hb hbox hg; have hcz24_0 : w23.cell? ⟨gb146, 0, none⟩ = some (.int .i64 a0_0) := (blk_cell BK146.out 0).trans rfl; have hcz24_1 : w23.cell? ⟨gb146, 1, none⟩ = some (.int .i64 a0_1) := (blk_cell BK146.out 1).trans rfl; have hcz24_2 : w23.cell? ⟨gb146, 2, none⟩ = some (.int .i64 a0_2) := (blk_cell BK146.out 2).trans rfl; have hcz24_3 : w23.cell? ⟨gb146, 3, none⟩ = some (.bool false) := (blk_cell BK146.out 3).trans rfl; have hfz24_0 := blk_frozen BK146.out 0; have hfz24_1 := blk_frozen BK146.out 1; have hfz24_2 := blk_frozen BK146.out 2; have hfz24_3 := blk_frozen BK146.out 3) | (go_at_call 23; (with_reducible refine (umlautref5_hex.calls k a0_0 4 t150 _ A14.out).mono ?_); rintro e w' ⟨rfl, ⟨nd, rfl⟩⟩; (try first | exact ⟨rfl, _, World.drewN_drewN _ _ _⟩ | exact ⟨rfl, _, Eq.trans (World.drewN_drewN _ _ _) (congrArg (World.drewN _) (Nat.add_assoc _ _ _))⟩)) | (go_at_call 23; (with_reducible refine (umlautref5_hex.calls k a0_1 2 t151 _ A17.out).mono ?_); rintro e w' ⟨rfl, ⟨nd, rfl⟩⟩; (try first | exact ⟨rfl, _, World.drewN_drewN _ _ _⟩ | exact ⟨rfl, _, Eq.trans (World.drewN_drewN _ _ _) (congrArg (World.drewN _) (Nat.add_assoc _ _ _))⟩)) | (go_at_call 23; (with_reducible refine (umlautref5_hex.calls k a0_2 2 t152 _ A20.out).mono ?_); rintro e w' ⟨rfl, ⟨nd, rfl⟩⟩; (try first | exact ⟨rfl, _, World.drewN_drewN _ _ _⟩ | exact ⟨rfl, _, Eq.trans (World.drewN_drewN _ _ _) (congrArg (World.drewN _) (Nat.add_assoc _ _ _))⟩))); try go_wp2_with (first | ((with_reducible refine gate_dst (N := 1) rfl ?_); refine box_event ?hg (N := 1) ?hd (cs := #[.int .i64 a0_0, .int .i64 a0_1, .int .i64 a0_2, .bool false]) (t := 26) ?hr ?_; (case hd => rfl); (case hg => rfl); (case hr => first | (go_simp; done) | (go_simp; rfl)); intro gb146 hg w23 hbox hb; have n0_ := Aside0.mk (below_step (by repeat (first | (with_reducible first | exact HB.out | apply below_alloc | apply pw_below_drewN | apply below_drew1) | exact HB.out)) hb); have n1_ := Aside0.mk (hbox); have n2_ := Aside0.mk ((by rw [hg]; exact (below_size (by repeat (first | (with_reducible first | exact HB.out | apply below_alloc | apply pw_below_drewN | apply below_drew1) | exact HB.out))) : w.heap.size ≤ gb146)); have n3_ := Aside0.mk ((by rw [hg]; exact (below_size (by repeat (first | (with_reducible first | exact HB.out | apply below_alloc | apply pw_below_drewN | apply below_drew1) | exact HB.out))) : w.heap.size ≤ gb146)); clear HB; have HB := n0_; have BK146 := n1_; have GW146 := n2_; have GE146 := n3_; clear n0_ n1_ n2_ n3_; clear hb hbox hg; have hcz24_0 : w23.cell? ⟨gb146, 0, none⟩ = some (.int .i64 a0_0) := (blk_cell BK146.out 0).trans rfl; have hcz24_1 : w23.cell? ⟨gb146, 1, none⟩ = some (.int .i64 a0_1) := (blk_cell BK146.out 1).trans rfl; have hcz24_2 : w23.cell? ⟨gb146, 2, none⟩ = some (.int .i64 a0_2) := (blk_cell BK146.out 2).trans rfl; have hcz24_3 : w23.cell? ⟨gb146, 3, none⟩ = some (.bool false) := (blk_cell BK146.out 3).trans rfl; have hfz24_0 := blk_frozen BK146.out 0; have hfz24_1 := blk_frozen BK146.out 1; have hfz24_2 := blk_frozen BK146.out 2; have hfz24_3 := blk_frozen BK146.out 3) | (go_at_call 23; (with_reducible refine (umlautref5_hex.calls k a0_0 4 t150 _ A14.out).mono ?_); rintro e w' ⟨rfl, ⟨nd, rfl⟩⟩; (try first | exact ⟨rfl, _, World.drewN_drewN _ _ _⟩ | exact ⟨rfl, _, Eq.trans (World.drewN_drewN _ _ _) (congrArg (World.drewN _) (Nat.add_assoc _ _ _))⟩)) | (go_at_call 23; (with_reducible refine (umlautref5_hex.calls k a0_1 2 t151 _ A17.out).mono ?_); rintro e w' ⟨rfl, ⟨nd, rfl⟩⟩; (try first | exact ⟨rfl, _, World.drewN_drewN _ _ _⟩ | exact ⟨rfl, _, Eq.trans (World.drewN_drewN _ _ _) (congrArg (World.drewN _) (Nat.add_assoc _ _ _))⟩)) | (go_at_call 23; (with_reducible refine (umlautref5_hex.calls k a0_2 2 t152 _ A20.out).mono ?_); rintro e w' ⟨rfl, ⟨nd, rfl⟩⟩; (try first | exact ⟨rfl, _, World.drewN_drewN _ _ _⟩ | exact ⟨rfl, _, Eq.trans (World.drewN_drewN _ _ _) (congrArg (World.drewN _) (Nat.add_assoc _ _ _))⟩))))
                go_ret
                exact ⟨by first | rfl | (simp [errW_none, errW_some] <;> rfl) | (simp [*, errW_none, errW_some] <;> rfl), by repeat (first | (with_reducible first | exact HB.out | apply below_alloc | apply pw_below_drewN | apply below_drew1 | refine below_set ?_ GE146.out) | exact HB.out)⟩
              · rw [if_neg c22] at H
                exact absurd H (by simp)
            · rw [if_neg c21] at H
              exact absurd H (by simp)
          · rw [if_neg c19] at H
            exact absurd H (by simp)
        · rw [if_neg c18] at H
          exact absurd H (by simp)
      · rw [if_neg c16] at H
        exact absurd H (by simp)
    · rw [if_neg c15] at H
      exact absurd H (by simp)

end Go.Proofs.YtmgoncnjagihgaaDoor.XA
