/-
  utext.Signs and utext.FoldText: a text's signs, and the text of their small ones.
-/
import Derived.Test.YtmgoncnjagihgaaGreatDoorXS1
import Derived.Test.YtmgoncnjagihgaaGreatDoorXP2
import Derived.Lib.Hide
namespace Go.Proofs.YtmgoncnjagihgaaGreatDoor.Given
open Go.RowKit Go.Proofs.YtmgoncnjagihgaaGreatDoorW.PrintWords Go.Proofs.YtmgoncnjagihgaaGreatDoorW.PrintLast Go.Proofs.YtmgoncnjagihgaaGreatDoorW.PrintMore Go.Proofs.YtmgoncnjagihgaaGreatDoor.Lem
attribute [local go_sem] max2_int min2_int max_two min_two max_three min_three max_four min_four
set_option linter.unusedVariables false
set_option linter.unusedSimpArgs false

/-- A row of numbers of the call's own; it may have spare places. -/
structure IntRow (w : World) (base g : Nat) (xs : List Int) : Prop where
  ge : base ≤ g
  blk : ∃ cur, w.heap[g]? = some (.cells cur 3 (0, 0)) ∧ ∀ i, i < xs.length → cur[i]? = some (.int .i64 (xs.getD i 0))
theorem IntRow.below {w w' : World} {base g : Nat} {xs : List Int} (h : IntRow w base g xs) (hb : Below w.heap.size w w') : IntRow w' base g xs := by
  obtain ⟨h1, cur, h2, h3⟩ := h
  exact ⟨h1, cur, blk_below h2 hb, h3⟩
theorem IntRow.drawn {w w' : World} {base g : Nat} {xs : List Int} (h : IntRow w base g xs) (hb : Drawn0 w w') : IntRow w' base g xs := h.below hb.below
theorem IntRow.cell {w : World} {base g : Nat} {xs : List Int} (h : IntRow w base g xs) (i : Nat) (hi : i < xs.length) : w.cell? ⟨g, i, none⟩ = some (.int .i64 (xs.getD i 0)) := by
  obtain ⟨h1, cur, h2, h3⟩ := h
  exact (blk_cell h2 i).trans (h3 i hi)
theorem IntRow.frozen {w : World} {base g : Nat} {xs : List Int} (h : IntRow w base g xs) (i : Nat) : w.frozen? ⟨g, i, none⟩ = false := by
  obtain ⟨h1, cur, h2, h3⟩ := h
  exact blk_frozen h2 i
theorem IntRow.set_ {w : World} {base g : Nat} {xs : List Int} (h : IntRow w base g xs) (i : Nat) (hi : i < xs.length) (x : Int) : IntRow (w.setCell ⟨g, i, none⟩ (.int .i64 x)) base g (xs.set i x) := by
  obtain ⟨h1, cur, h2, h3⟩ := h
  refine ⟨h1, _, blk_set h2 i _, fun j hj => ?_⟩
  rw [List.length_set] at hj
  have h4 := h3 j hj
  have hs : j < cur.size := (Array.getElem?_eq_some_iff.1 h4).1
  by_cases e : i = j
  · subst e
    rw [Array.getElem?_setIfInBounds_self_of_lt hs]
    simp [List.getD, hi]
  · rw [Array.getElem?_setIfInBounds_ne e, h4]
    simp [List.getD, List.getElem?_set_ne e]
theorem IntRow.reads {w : World} {base g : Nat} {xs : List Int} (h : IntRow w base g xs) (hm : xs.length ≤ 9223372036854775807) : Kd.C (Kd.int .i64) w (some ⟨g, 0, none⟩) xs.length xs :=
  Kd.C_of_reads (d := (0 : Int)) ⟨rfl, hm, fun _ => ⟨_, rfl, fun j hj => by rw [add_plain]; exact h.cell j hj⟩⟩

/-- A row of numbers, as clipped. -/
def SignsR (w : World) (base : Nat) (v : Value) (xs : List Int) : Prop :=
  (v = .slice none 0 0 ∧ xs = []) ∨ ∃ g, v = .slice (some ⟨g, 0, none⟩) xs.length xs.length ∧ xs.length ≤ maxLen ∧ IntRow w base g xs

theorem row_of_R {w : World} {base : Nat} {ok : Nat → Prop} {v : Value} {xs : List Int} (h : (Kd.int .i64).R 3 w base ok v xs) : (v = .slice none 0 0 ∧ xs = []) ∨ ∃ g cap, v = .slice (some ⟨g, 0, none⟩) xs.length cap ∧ xs.length ≤ cap ∧ cap ≤ maxLen ∧ IntRow w base g xs := by
  obtain ⟨-, inner, ⟨hl, hc⟩, hr⟩ := h
  rcases hc with ⟨rfl, h0⟩ | ⟨g, cap, cur, rfl, hb, hh, hn, hm, hs, ht⟩
  · exact .inl ⟨rfl, List.eq_nil_of_length_eq_zero h0⟩
  · refine .inr ⟨g, cap, rfl, hn, hm, hb, cur, hh, fun i hi => ?_⟩
    have h1 : xs[i]? = some (xs.getD i 0) := by simp [List.getD, hi]
    have h2 : (inner.drop (i * 1)).take 1 = [.int .i64 (xs.getD i 0)] := hr.2 i _ h1
    have h3 : inner[i]? = some (.int .i64 (xs.getD i 0)) := by
      have := congrArg (·[0]?) h2
      simpa [List.getElem?_take, List.getElem?_drop] using this
    rw [← ht] at h3
    have h4 : cur.toList[i]? = some (.int .i64 (xs.getD i 0)) := by
      rw [List.getElem?_take] at h3
      split at h3
      · exact h3
      · cases h3
    simpa using h4

theorem clip_nil (w : World) : Calls Tryz.prog 65 #[.slice none 0 0] w fun e w' => e = .returned (.slice none 0 0) ∧ w = w' := by
  go_enter Tryz.func65, Tryz.ntmps65
  go_wp2
  go_ret
  exact ⟨rfl, rfl⟩
theorem clip (g n cap : Nat) (hn : n ≤ cap) (hm : cap ≤ 9223372036854775807) (w : World) : Calls Tryz.prog 65 #[.slice (some ⟨g, 0, none⟩) n cap] w fun e w' => e = .returned (.slice (some ⟨g, 0, none⟩) n n) ∧ w = w' := by
  go_enter Tryz.func65, Tryz.ntmps65
  go_wp2
  go_ret
  exact ⟨rfl, rfl⟩
theorem info3_ : (Tryz.prog.info? 3).map (fun i => (i.zero, i.size, i.bytes)) = some (some (.int .i64 0), 1, 8) := by kernel_rfl

def utext_Signs.l0 : Nat → ByteArray → List Int → Option (List Int)
  | 0, _, _ => none
  | k + 1, x0, x3 => if (x0.size : Int) > 0 then ((XS.utext_sign.f x0).bind fun bt101 => (if x3.length < 17592186044416 then (if 0 ≤ bt101.2 then (if bt101.2 ≤ (x0.size : Int) then (utext_Signs.l0 k (x0.extract (bt101.2 : Int).toNat x0.size) (x3 ++ [bt101.1])) else (none)) else (none)) else (none))) else (some x3)
def utext_Signs.f (k : Nat) (a0 : ByteArray) : Option (List Int) := utext_Signs.l0 k a0 ([] : List Int)
theorem utext_Signs.mono_l : ∀ k, (∀ y0 y1, LeO (utext_Signs.l0 k y0 y1) (utext_Signs.l0 (k + 1) y0 y1))
  | 0 => fun _ _ r h => by simp [utext_Signs.l0] at h
  | k + 1 => by
    have ih0 := utext_Signs.mono_l k
    · intro y0 y1
      unfold utext_Signs.l0
      repeat' first
      | (with_reducible exact ih0 _ _)
      | (with_reducible exact LeO.refl _)
      | (with_reducible exact LeO.none _)
      | (with_reducible refine LeO.ite ?_ ?_)
      | (with_reducible refine LeO.bind ?_ (fun _ => ?_))
      | exact ih0 _ _
      | exact LeO.none _
      | refine LeO.ite ?_ ?_
      | refine LeO.bind ?_ (fun _ => ?_)
theorem utext_Signs.mono : ∀ a0 k, LeO (utext_Signs.f k a0) (utext_Signs.f (k + 1) a0) := by
  intro a0 k
  have ih0 := utext_Signs.mono_l k
  unfold utext_Signs.f
  repeat' first
      | (with_reducible exact ih0 _ _)
      | (with_reducible exact LeO.refl _)
      | (with_reducible exact LeO.none _)
      | (with_reducible refine LeO.ite ?_ ?_)
      | (with_reducible refine LeO.bind ?_ (fun _ => ?_))
      | exact ih0 _ _
      | exact LeO.none _
      | refine LeO.ite ?_ ?_
      | refine LeO.bind ?_ (fun _ => ?_)
set_option maxHeartbeats 8000000 in
set_option maxRecDepth 100000 in
theorem utext_Signs.calls (k : Nat) (a0 : ByteArray) (r : List Int) (w : World) (hG0 : GW w) (h : utext_Signs.f k a0 = some r) :
    Calls Tryz.prog 48 #[.string a0] w fun e w' => ∃ v0_ : Value, e = .returned (v0_) ∧ SignsR w' w.heap.size v0_ r ∧ Below w.heap.size w w' := by
  have HG := Aside0.mk hG0
  clear hG0
  have HB := Aside0.mk (Below.refl w.heap.size w)
  have H : (utext_Signs.l0 k a0 ([] : List Int)) = some r := h
  clear h
  have H' := Aside0.mk H
  clear H
  go_enter Tryz.func48, Tryz.ntmps48
  go_wp2
  go_loopg [0, 3] k (fun kq v0 v3 w' => ∃ (x0_1 : ByteArray) (x3_1 : List Int), v0 = .string x0_1 ∧ Aside0 (utext_Signs.l0 kq x0_1 x3_1 = some r) ∧ Aside0 (kq ≤ k) ∧ Aside0 (Kd.R (Kd.int .i64) 3 w' w.heap.size (fun _ => True) v3 x3_1) ∧ Aside0 (Below w.heap.size w w'))
  case atStart => exact ⟨(a0), (([] : List Int)), (by first | rfl | (simp; done) | (simp [*]; done)), H', ⟨Nat.le_refl _⟩, ⟨by first | exact Kd.R_nil _ _ _ _ _ | exact Kd.N_nil _ _ _ _ _ | exact Kd.V_nil _ _ _ _ _ | exact Kd.Q_nil _ _ _ _ _ | exact Kd.S_nil _ _ _ _ _⟩, ⟨by repeat (first | (with_reducible first | exact HB.out | apply below_alloc | apply pw_below_drewN | apply below_drew1) | exact HB.out)⟩⟩
  case round =>
    clear H'
    obtain ⟨x0_1, x3_1, rfl, HA, HK1, HO_3, HB⟩ := hrel
    cases gk with
    | zero => exact absurd HA.out (by simp [utext_Signs.l0])
    | succ k1 =>
      have H := HA.out
      clear HA
      simp only [utext_Signs.l0] at H
      by_cases c2 : (x0_1.size : Int) > 0
      · rw [if_pos c2] at H
        have c2b0 : decide (0 < (x0_1.size : Int)) = true := decide_eq_true c2
        have c2b1 : decide (0 < x0_1.size) = true := decide_eq_true (by omega)
        clear c2
        replace H := Option.bind_eq_some_iff.mp H
        obtain ⟨⟨t101, t102⟩, A30, H⟩ := H
        replace H : (if x3_1.length < 17592186044416 then (if 0 ≤ t102 then (if t102 ≤ (x0_1.size : Int) then (utext_Signs.l0 k1 (x0_1.extract (t102 : Int).toNat x0_1.size) (x3_1 ++ [t101])) else (none)) else (none)) else (none)) = some r := H
        have A3 := Aside0.mk A30
        clear A30
        by_cases c4 : x3_1.length < 17592186044416
        · rw [if_pos c4] at H
          have LMc4 := Aside0.mk c4
          clear c4
          obtain ⟨y103, hy103⟩ : ∃ y_ : List Int, y_ = (x3_1 ++ [t101]) := ⟨_, rfl⟩
          replace H : (if 0 ≤ t102 then (if t102 ≤ (x0_1.size : Int) then (utext_Signs.l0 k1 (x0_1.extract (t102 : Int).toNat x0_1.size) y103) else (none)) else (none)) = some r := by first | (rw [hy103]; with_reducible exact H) | (have H2_ := (Option.bind_some _ _).symm.trans H; rw [hy103]; with_reducible exact H2_) | (have H2_ := (Option.bind_some _ _).symm.trans H; with_reducible exact H2_) | with_reducible exact H | (rw [hy103]; exact H) | exact H
          have Ny103 := Aside0.mk hy103
          clear hy103
          by_cases c5 : 0 ≤ t102
          · rw [if_pos c5] at H
            have c5b0 := eq_true c5
            have c5b1 : decide (0 ≤ t102) = true := decide_eq_true c5
            clear c5
            by_cases c6 : t102 ≤ (x0_1.size : Int)
            · rw [if_pos c6] at H
              have c6b0 := eq_true c6
              have c6b1 : decide (t102 ≤ (x0_1.size : Int)) = true := decide_eq_true c6
              clear c6
              have H' := Aside0.mk H
              clear H
              go_wp2_with (first | ((with_reducible refine gate_callee (f := 64) rfl ?_); refine goesL_ (some 11) rfl rfl Tryz.func64 (by kernel_rfl) rfl #[.string x0_1] rfl (by (try simp only [List.map_toArray, List.map_cons, List.map_nil]); first | done | rfl | (simp only [List.length_drop, List.length_take]; rfl)) ?_; (with_reducible refine (XS.utext_sign.calls x0_1 t101 t102 _ ?side1 A3.out).mono ?_); (case side1 => exact GW.below HG.out (by repeat (first | (with_reducible first | exact HB.out | apply below_alloc | apply pw_below_drewN | apply below_drew1) | exact HB.out))); rintro e w7 ⟨rfl, hb⟩; refine ⟨_, rfl, ?_⟩; have n0_ := Aside0.mk (Kd.R_below (by (with_reducible repeat (first | apply Kd.R_alloc | apply Kd.R_drewN | apply Kd.R_drew)); exact HO_3.out) hb); have n1_ := Aside0.mk (below_step (by repeat (first | (with_reducible first | exact HB.out | apply below_alloc | apply pw_below_drewN | apply below_drew1) | exact HB.out)) hb); clear HO_3; clear HB; have HO_3 := n0_; have HB := n1_; clear n0_ n1_; (try clear hb); (try clear hb2); (try clear hk); (try clear hi)) | ((with_reducible refine gate_builtin (b := .append) (xs := #[.tmp 14, .tmp 16]) rfl ?_); at_builtin; refine Kd.R_append (Kd.int .i64) (w0 := w) w.heap.size rfl (.tmp 14) (.tmp 16) 61 3 (.int .i64 0) 8 rfl Tryz.underlying61 info3_ rfl (by decide) (by omega) u3 x3_1 t101 [.int .i64 t101] (fun _ => True) (fun _ => False) rfl rfl ?aP (fun _ hk => hk.elim) ?aF ?aO ?aB ?aS ?aL ?_; (case aP => exact rfl); (case aB => exact (by repeat (first | (with_reducible first | exact HB.out | apply below_alloc | apply pw_below_drewN | apply below_drew1) | exact HB.out))); (case aF => exact (fun _ _ => trivial)); (case aO => exact (by (with_reducible repeat (first | apply Kd.R_alloc | apply Kd.R_drewN | apply Kd.R_drew)); exact HO_3.out)); (case aS => exact (below_size (by repeat (first | (with_reducible first | exact HB.out | apply below_alloc | apply pw_below_drewN | apply below_drew1) | exact HB.out)))); (case aL => have := LMc4.out; omega); intro v104 w8 ho hb hg hat; rw [← Ny103.out] at ho; have n0_ := Aside0.mk (hb); have n1_ := Aside0.mk (ho); clear HB; clear HO_3; have HB := n0_; have HO105 := n1_; clear n0_ n1_; clear ho hb hg hat))
              go_roundg k1
              case measure => have := HK1.out; omega
              case rel => exact ⟨(x0_1.extract (t102 : Int).toNat x0_1.size), (y103), (by first | rfl | (simp; done) | (simp [*]; done)), H', ⟨by have := HK1.out; omega⟩, ⟨by (with_reducible repeat (first | apply Kd.R_alloc | apply Kd.R_drewN | apply Kd.R_drew)); exact HO105.out⟩, ⟨by repeat (first | (with_reducible first | exact HB.out | apply below_alloc | apply pw_below_drewN | apply below_drew1) | exact HB.out)⟩⟩
            · rw [if_neg c6] at H
              exact absurd H (by simp)
          · rw [if_neg c5] at H
            exact absurd H (by simp)
        · rw [if_neg c4] at H
          exact absurd H (by simp)
      · rw [if_neg c2] at H
        have c2b0 : decide (0 < (x0_1.size : Int)) = false := decide_eq_false c2
        have c2b1 : decide (0 < x0_1.size) = false := decide_eq_false (by omega)
        clear c2
        obtain rfl := Option.some.inj H
        rcases row_of_R HO_3.out with ⟨rfl, rfl⟩ | ⟨g, cap, rfl, hle, hmx, hrow⟩
        · clear HO_3
          go_wp2_with (go_at_call 65; refine (clip_nil _).mono ?_; rintro e w' ⟨rfl, rfl⟩)
          go_ret
          exact ⟨_, rfl, .inl ⟨rfl, rfl⟩, HB.out⟩
        · clear HO_3
          have HR := Aside0.mk hrow
          have HM := Aside0.mk (Nat.le_trans hle hmx)
          have HC := Aside0.mk (fun W => clip g x3_1.length cap hle (by unfold maxLen at hmx; omega) W)
          clear hrow hle hmx
          go_wp2_with (go_at_call 65; refine (HC.out _).mono ?_; rintro e w' ⟨rfl, rfl⟩)
          go_ret
          exact ⟨_, rfl, .inr ⟨g, rfl, HM.out, HR.out⟩, HB.out⟩

/-- A sign's small one. -/
def foldI (c : Int) : Int := (XP.utext_Fold.f 4 c).getD 0
theorem fold_some (c : Int) : XP.utext_Fold.f 4 c = some (foldI c) := by
  have h2 : ∀ k b, ∃ r, XP.utext_Fold.j2 (k + 1) c b = some r := fun k b => by
    rw [XP.utext_Fold.j2]
    repeat' split
    all_goals exact ⟨_, rfl⟩
  have h1 : ∀ k b, ∃ r, XP.utext_Fold.j1 (k + 2) c b = some r := fun k b => by
    rw [XP.utext_Fold.j1]
    repeat' split
    all_goals exact h2 _ _
  have h0 : ∀ k b, ∃ r, XP.utext_Fold.j0 (k + 3) c b = some r := fun k b => by
    rw [XP.utext_Fold.j0]
    repeat' split
    all_goals first | exact h2 _ _ | exact h1 _ _
  have : ∃ r, XP.utext_Fold.f 4 c = some r := by
    unfold XP.utext_Fold.f
    split
    all_goals exact h0 1 _
  obtain ⟨r, hr⟩ := this
  unfold foldI
  rw [hr]
  rfl
theorem fold_call (c : Int) (w : World) : Calls Tryz.prog 49 #[.int .i64 c] w fun e w' => e = .returned (.int .i64 (foldI c)) ∧ Drawn0 w w' := XP.utext_Fold.calls 4 c _ w (fold_some c)

/-- The first n signs made small. -/
def foldTo (n : Nat) (xs : List Int) : List Int := xs.mapIdx fun i c => if i < n then foldI c else c
theorem foldTo_at (n : Nat) (xs : List Int) (i : Nat) : (foldTo n xs)[i]? = xs[i]?.map fun c => if i < n then foldI c else c := by
  unfold foldTo
  rw [List.getElem?_mapIdx]
theorem foldTo_zero (xs : List Int) : foldTo 0 xs = xs := by
  apply List.ext_getElem?
  intro i
  rw [foldTo_at]
  simp
theorem foldTo_length (n : Nat) (xs : List Int) : (foldTo n xs).length = xs.length := by
  unfold foldTo
  rw [List.length_mapIdx]
theorem foldTo_all (xs : List Int) : foldTo xs.length xs = xs.map foldI := by
  apply List.ext_getElem?
  intro i
  rw [foldTo_at, List.getElem?_map]
  by_cases h : i < xs.length
  · simp [h]
  · rw [List.getElem?_eq_none (by omega)]
    rfl
theorem foldTo_get (n : Nat) (xs : List Int) (_h : n < xs.length) : (foldTo n xs).getD n 0 = xs.getD n 0 := by
  unfold List.getD
  rw [foldTo_at]
  simp
theorem foldTo_step (n : Nat) (xs : List Int) (h : n < xs.length) : (foldTo n xs).set n (foldI (xs.getD n 0)) = foldTo (n + 1) xs := by
  apply List.ext_getElem?
  intro i
  rw [List.getElem?_set, foldTo_at, foldTo_at, foldTo_length]
  have hg : xs.getD n 0 = xs[n] := by simp [List.getD, h]
  rw [hg]
  by_cases e : n = i
  · subst e
    simp [h]
  · rw [if_neg e]
    congr 1
    funext c
    by_cases h1 : i < n
    · rw [if_pos h1, if_pos (by omega)]
    · rw [if_neg h1, if_neg (by omega)]

theorem rounds_go {P : Program} {c : Code} {Q : Exit → Act → World → Prop} {n : Nat} {a : Act} {w : World} (h : c.wp P (Exit.then (Code.rounds P c Q n) Q) a w) : Code.rounds P c Q (n + 1) a w := h

def utext_FoldText.f (k : Nat) (a0 : ByteArray) : Option ByteArray := (utext_Signs.f k a0).bind fun l => XP.utext_Put.f k (l.map foldI)
theorem utext_FoldText.mono : ∀ a0 k, LeO (utext_FoldText.f k a0) (utext_FoldText.f (k + 1) a0) := fun a0 k => LeO.bind (utext_Signs.mono a0 k) (fun l => XP.utext_Put.mono _ k)

set_option maxHeartbeats 4000000 in
set_option maxRecDepth 100000 in
theorem utext_FoldText.calls (k : Nat) (a0 : ByteArray) (r : ByteArray) (w : World) (hG0 : GW w) (h : utext_FoldText.f k a0 = some r) :
    Calls Tryz.prog 30 #[.string a0] w fun e w' => e = .returned (.string r) ∧ Below w.heap.size w w' := by
  obtain ⟨xs, h1, h2⟩ := Option.bind_eq_some_iff.1 h
  have HS := Aside0.mk (fun W (hW : GW W) => utext_Signs.calls k a0 xs W hW h1)
  have HG := Aside0.mk hG0
  have HP := Aside0.mk h2
  clear h h1 h2 hG0
  go_enter Tryz.func30, Tryz.ntmps30
  go_wp2_with (go_at_call 48; refine (HS.out _ HG.out).mono ?_)
  rintro e W1 ⟨v, rfl, hv, hb⟩
  have HB := Aside0.mk hb
  clear hb
  rcases hv with ⟨rfl, rfl⟩ | ⟨g, rfl, hm, hrow⟩
  · have HPn := Aside0.mk (fun W => XP.utext_Put.calls k none 0 [] r W (Kd.C_of_reads (d := (0 : Int)) ⟨rfl, by decide, fun hn => absurd hn (by decide)⟩) (Nat.le_refl _) HP.out)
    go_wp2_with (first | (refine wp_loop_rounds 1 ?_) | (refine rounds_go ?_) | (go_at_call 50; refine (HPn.out _).mono ?_))
    rintro e W2 ⟨rfl, hb2⟩
    go_wp2
    go_ret
    exact ⟨rfl, below_step HB.out hb2⟩
  · have HR := Aside0.mk hrow
    have HM := Aside0.mk hm
    obtain ⟨n, hn⟩ : ∃ n, n = xs.length := ⟨_, rfl⟩
    have hnm : n ≤ 9223372036854775807 := by unfold maxLen at hm; omega
    have HN := Lib.hid hn
    rw [← hn]
    clear hm hrow hn
    go_wp2
    go_loopw [10] (fun i W => ∃ j : Nat, i = .int .i64 j ∧ j ≤ n ∧ Aside0 (IntRow W w.heap.size g (foldTo j xs)) ∧ Aside0 (Below w.heap.size w W)) (fun i _ => n - (intOf i).toNat)
    case atStart => exact ⟨0, rfl, Nat.zero_le _, ⟨by rw [foldTo_zero]; exact HR.out⟩, HB⟩
    case round =>
      obtain ⟨j, rfl, hj, HR2, HB2⟩ := hrel
      by_cases hlt : j < n
      · have hlx : j < (foldTo j xs).length := by rw [foldTo_length, ← HN.out]; exact hlt
        have hlx2 : j < xs.length := by rw [← HN.out]; exact hlt
        have hc := HR2.out.cell j hlx
        rw [foldTo_get j xs hlx2] at hc
        obtain ⟨c, hcv⟩ : ∃ c, c = xs.getD j 0 := ⟨_, rfl⟩
        rw [← hcv] at hc
        have HC := Lib.hid hcv
        clear hcv
        have HX := Lib.hid hlx
        have HX2 := Lib.hid hlx2
        clear hlx hlx2
        go_wp2_with (go_at_call 49; refine (fold_call _ _).mono ?_)
        rintro e W3 ⟨rfl, hd⟩
        have HR3 := Aside0.mk (HR2.out.drawn hd)
        have HB3 := Aside0.mk (below_step HB2.out hd.below)
        have hc3 := HR3.out.cell j HX.out
        rw [foldTo_get j xs HX2.out, ← HC.out] at hc3
        have hf3 := HR3.out.frozen j
        clear hd
        have HR4 := Aside0.mk (HR3.out.set_ j HX.out (foldI c))
        have HB4 := Aside0.mk (below_set (j := j) (v := .int .i64 (foldI c)) HB3.out HR3.out.ge)
        have HS4 := Lib.hid (foldTo_step j xs HX2.out)
        go_wp2
        go_roundw
        case rel => exact ⟨j + 1, by go_num, by omega, ⟨by rw [← HS4.out, ← HC.out]; exact HR4.out⟩, HB4⟩
        case measure => simp [intOf]; omega
      · have hjn : j = n := by omega
        subst hjn
        have HPn := Aside0.mk (fun W (hW : IntRow W w.heap.size g (xs.map foldI)) => XP.utext_Put.calls k (some ⟨g, 0, none⟩) (xs.map foldI).length (xs.map foldI) r W (hW.reads (by rw [List.length_map, ← HN.out]; exact hnm)) (Nat.le_refl _) HP.out)
        have HL : Hid ((xs.map foldI).length = j) := Lib.hid (by rw [List.length_map]; exact HN.out.symm)
        have HR5 : Aside0 (IntRow wr w.heap.size g (xs.map foldI)) := ⟨by have := HR2.out; rw [HN.out, foldTo_all] at this; exact this⟩
        have HPm : Aside0 (∀ W, IntRow W w.heap.size g (xs.map foldI) → Calls Tryz.prog 50 #[.slice (some ⟨g, 0, none⟩) j j] W fun e w' => e = .returned (.string r) ∧ Below W.heap.size W w') := ⟨by
          have := HPn.out
          rw [HL.out] at this
          exact this⟩
        clear HPn
        go_wp2_with (go_at_call 50; refine (HPm.out _ HR5.out).mono ?_)
        rintro e W6 ⟨rfl, hb6⟩
        go_wp2
        go_ret
        exact ⟨rfl, below_step HB2.out hb6⟩

end Go.Proofs.YtmgoncnjagihgaaGreatDoor.Given
