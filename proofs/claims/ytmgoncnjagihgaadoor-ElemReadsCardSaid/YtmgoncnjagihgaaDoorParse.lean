/-
  What elem.Parse answers: an element and no error where the text is that element's own; else no element and the error of form.
-/
import Derived.Test.YtmgoncnjagihgaaDoorPub
import Derived.Test.YtmgoncnjagihgaaDoorPureY
namespace Go.Proofs.YtmgoncnjagihgaaDoor.GivenT
open Go.RowKit Go.Proofs.YtmgoncnjagihgaaDoorW.PrintWords Go.Proofs.YtmgoncnjagihgaaDoorW.PrintLast Go.Proofs.YtmgoncnjagihgaaDoorW.PrintMore Go.Proofs.YtmgoncnjagihgaaDoor.Lem Go.Proofs.YtmgoncnjagihgaaDoor.Given

theorem cells3 {g : Nat} {a b c : ByteArray} {w : World} (h : w.heap[g]? = some (.cells ([a, b, c].map Value.string).toArray 9 (0, 0))) : w.heap[g]? = some (.cells #[.string a, .string b, .string c] 9 (0, 0)) := h

/-- A world in which the pieces lie, and the row of numbers. -/
structure In3 (w W : World) (g k : Nat) (a b c : ByteArray) (x y z : Int) : Prop where
  ls : W.heap[g]? = some (.cells #[.string a, .string b, .string c] 9 (0, 0))
  ar : W.heap[k]? = some (.cells #[.int .i64 x, .int .i64 y, .int .i64 z] 46 (0, 0))
  be : Below w.heap.size w W
  ge : w.heap.size ≤ k
  gw : GW W

theorem In3.below {w W W' : World} {g k : Nat} {a b c : ByteArray} {x y z : Int} (h : In3 w W g k a b c x y z) (hb : Below W.heap.size W W') : In3 w W' g k a b c x y z :=
  ⟨blk_below h.ls hb, blk_below h.ar hb, below_step h.be hb, h.ge, h.gw.below hb⟩
theorem GW.set_ {w W : World} {k j : Nat} {v : Value} (h : GW w) (hb : Below w.heap.size w W) (hk : w.heap.size ≤ k) : GW (W.setCell ⟨k, j, none⟩ v) := h.below (below_set hb hk)
theorem In3.set0 {w W : World} {g k : Nat} {a b c : ByteArray} {x y z : Int} (hw : GW w) (h : In3 w W g k a b c x y z) (u : Int) : In3 w (W.setCell ⟨k, 0, none⟩ (.int .i64 u)) g k a b c u y z :=
  ⟨blk_far h.ls (blk_ne h.ls h.ar (by decide)) _, blk_put h.ar 0 _ rfl, below_set h.be h.ge, h.ge, hw.set_ h.be h.ge⟩
theorem In3.set1 {w W : World} {g k : Nat} {a b c : ByteArray} {x y z : Int} (hw : GW w) (h : In3 w W g k a b c x y z) (u : Int) : In3 w (W.setCell ⟨k, 1, none⟩ (.int .i64 u)) g k a b c x u z :=
  ⟨blk_far h.ls (blk_ne h.ls h.ar (by decide)) _, blk_put h.ar 1 _ rfl, below_set h.be h.ge, h.ge, hw.set_ h.be h.ge⟩
theorem In3.set2 {w W : World} {g k : Nat} {a b c : ByteArray} {x y z : Int} (hw : GW w) (h : In3 w W g k a b c x y z) (u : Int) : In3 w (W.setCell ⟨k, 2, none⟩ (.int .i64 u)) g k a b c x y u :=
  ⟨blk_far h.ls (blk_ne h.ls h.ar (by decide)) _, blk_put h.ar 2 _ rfl, below_set h.be h.ge, h.ge, hw.set_ h.be h.ge⟩

theorem rounds_go {P : Program} {c : Code} {Q : Exit → Act → World → Prop} {n : Nat} {a : Act} {w : World} (h : c.wp P (Exit.then (Code.rounds P c Q n) Q) a w) : Code.rounds P c Q (n + 1) a w := h

theorem trimS_le (l cs : List UInt8) : (Lib.trimS l cs).length ≤ l.length := by
  unfold Lib.trimS Lib.trimLeftS Lib.trimRightS
  have h1 := (List.dropWhile_sublist (l := (l.reverse.dropWhile (cs.contains ·)).reverse) (cs.contains ·)).length_le
  have h2 := (List.dropWhile_sublist (l := l.reverse) (cs.contains ·)).length_le
  simp only [List.length_reverse] at h1 h2
  omega
theorem size_trimB (s : ByteArray) : (trimB s).size ≤ s.size := by
  have h := trimS_le s.data.toList [91, 42, 93]
  rw [Array.length_toList] at h
  unfold trimB
  show (Lib.trimS s.data.toList [91, 42, 93]).toArray.size ≤ s.data.size
  simpa using h
theorem size_piece (sep : ByteArray) : ∀ (k : Nat) (s x : ByteArray), x ∈ Lib.splitB sep 0 k s → x.size ≤ s.size
  | 0, s, x, h => by
    rw [Lib.splitB_zero] at h
    rw [List.mem_singleton.1 h]
    exact Nat.le_refl _
  | k + 1, s, x, h => by
    unfold Lib.splitB at h
    split at h
    · rw [List.mem_singleton.1 h]
      exact Nat.le_refl _
    · rcases List.mem_cons.1 h with rfl | h
      · rw [ByteArray.size_extract]
        omega
      · refine Nat.le_trans (size_piece sep k _ x h) ?_
        rw [ByteArray.size_extract]
        omega

/-- The contracts that the walk takes, for one text. -/
structure Calls3 (s : ByteArray) (v : Bool) (t : ByteArray) (n : Nat) (cs : Array Value) : Prop where
  pre : ∀ W, Calls Tryd.prog 24 #[.string s, .string ⟨#[91, 42]⟩] W fun e w' => e = .returned (.bool v) ∧ W = w'
  tri : ∀ W, Calls Tryd.prog 26 #[.string s, .string ⟨#[91, 42, 93]⟩] W fun e w' => e = .returned (.string t) ∧ Below W.heap.size W w'
  spl : ∀ W, GW W → Calls Tryd.prog 25 #[.string t, .string ⟨#[46]⟩] W fun e w' => ∃ g, e = .returned (.slice (some ⟨g, 0, none⟩) n n) ∧ w'.heap[g]? = some (.cells cs 9 (0, 0)) ∧ Below W.heap.size W w'

set_option maxRecDepth 100000 in
set_option maxHeartbeats 2000000 in
theorem parse_not3 (s : ByteArray) (v : Bool) (t : ByteArray) (n : Nat) (cs : Array Value) (hC : Calls3 s v t n cs) (hn : ((n : Int) == 3) = false) (w : World) (hG0 : GW w) :
    Calls Tryd.prog 18 #[.string s] w fun e w' => e = .returned (.tuple #[.int .u32 0, .int .i64 3]) ∧ Below w.heap.size w w' := by
  have HG := Aside0.mk hG0
  have HC := Aside0.mk hC
  clear hG0 hC
  go_enter Tryd.func18, Tryd.ntmps18
  go_wp2_with (go_at_call 24; refine (HC.out.pre _).mono ?_)
  rintro e W0 ⟨rfl, rfl⟩
  go_wp2_with (go_at_call 26; refine (HC.out.tri _).mono ?_)
  rintro e W1 ⟨rfl, hb1⟩
  have HG1 := Aside0.mk (GW.below HG.out hb1)
  have HB1 := Aside0.mk hb1
  clear hb1
  go_wp2_with (go_at_call 25; refine (HC.out.spl _ HG1.out).mono ?_)
  rintro e W2 ⟨g, rfl, hl, hb2⟩
  have HB2 := Aside0.mk (below_step HB1.out hb2)
  clear hb2 hl
  go_wp2
  go_ret2
  exact ⟨rfl, HB2.out⟩

set_option maxRecDepth 100000 in
set_option maxHeartbeats 4000000 in
theorem parse_bad1 (s : ByteArray) (v : Bool) (t : ByteArray) (a b c : ByteArray) (hC : Calls3 s v t 3 #[.string a, .string b, .string c]) (hA : ∀ W, GW W → Calls Tryd.prog 27 #[.string a, .int .i64 16, .int .i64 16] W fun e w' => (∃ m x, e = .returned (.tuple #[.int .u64 m, .iface 87 x])) ∧ Below W.heap.size W w') (w : World) (hG0 : GW w) :
    Calls Tryd.prog 18 #[.string s] w fun e w' => e = .returned (.tuple #[.int .u32 0, .int .i64 3]) ∧ Below w.heap.size w w' := by
  have HG := Aside0.mk hG0
  have HC := Aside0.mk hC
  have HA := Aside0.mk hA
  clear hG0 hC hA
  go_enter Tryd.func18, Tryd.ntmps18
  go_wp2_with (go_at_call 24; refine (HC.out.pre _).mono ?_)
  rintro e W0 ⟨rfl, rfl⟩
  go_wp2_with (go_at_call 26; refine (HC.out.tri _).mono ?_)
  rintro e W1 ⟨rfl, hb1⟩
  have HG1 := Aside0.mk (GW.below HG.out hb1)
  have HB1 := Aside0.mk hb1
  clear hb1
  go_wp2_with (go_at_call 25; refine (HC.out.spl _ HG1.out).mono ?_)
  rintro e W2 ⟨g, rfl, hl, hb2⟩
  have HB2 := Aside0.mk (below_step HB1.out hb2)
  have HL := Aside0.mk hl
  clear hb2 hl
  go_wp2_with ((with_reducible refine gate_dst (N := 6) rfl ?_); refine box_event ?hg (N := 6) ?hd (cs := #[.int .i64 0, .int .i64 0, .int .i64 0]) (t := 46) ?hr ?_; (case hd => rfl); (case hg => rfl); (case hr => first | (go_simp; done) | (go_simp; rfl)); intro k hk W3 hbox hb3; have H3 : Aside0 (In3 w W3 g k a b c 0 0 0) := ⟨⟨blk_below HL.out hb3, hbox, below_step HB2.out hb3, by rw [hk]; exact below_size HB2.out, HG.out.below (below_step HB2.out hb3)⟩⟩; clear hk hbox hb3)
  have hgk : ¬ g = k := blk_ne H3.out.ls H3.out.ar (by decide)
  have hkg : ¬ k = g := fun e => hgk e.symm
  have z0 : W3.cell? ⟨g, 0, none⟩ = some (.string a) := (blk_cell H3.out.ls 0).trans rfl
  go_wp2_with (first | (go_at_call 27; refine (HA.out _ H3.out.gw).mono ?_) | (refine wp_loop_rounds 1 ?_) | (refine rounds_go ?_))
  rintro e W4 ⟨⟨m, x, rfl⟩, hb4⟩
  have H4 := Aside0.mk (H3.out.below hb4)
  clear hb4
  go_wp2
  go_ret2
  exact ⟨rfl, H4.out.be⟩

set_option maxRecDepth 100000 in
set_option maxHeartbeats 4000000 in
theorem parse_bad2 (s : ByteArray) (v : Bool) (t : ByteArray) (a b c : ByteArray) (p : Int) (hC : Calls3 s v t 3 #[.string a, .string b, .string c]) (hA : ∀ W, Calls Tryd.prog 27 #[.string a, .int .i64 16, .int .i64 16] W fun e w' => e = .returned (.tuple #[.int .u64 p, .nilIface]) ∧ Below W.heap.size W w') (p0 : 0 ≤ p) (p1 : p ≤ 65535) (hB : ∀ W, GW W → Calls Tryd.prog 27 #[.string b, .int .i64 16, .int .i64 16] W fun e w' => (∃ m x, e = .returned (.tuple #[.int .u64 m, .iface 87 x])) ∧ Below W.heap.size W w') (w : World) (hG0 : GW w) :
    Calls Tryd.prog 18 #[.string s] w fun e w' => e = .returned (.tuple #[.int .u32 0, .int .i64 3]) ∧ Below w.heap.size w w' := by
  have HG := Aside0.mk hG0
  have HC := Aside0.mk hC
  have HA := Aside0.mk hA
  have HB := Aside0.mk hB
  clear hG0 hC hA hB
  go_enter Tryd.func18, Tryd.ntmps18
  go_wp2_with (go_at_call 24; refine (HC.out.pre _).mono ?_)
  rintro e W0 ⟨rfl, rfl⟩
  go_wp2_with (go_at_call 26; refine (HC.out.tri _).mono ?_)
  rintro e W1 ⟨rfl, hb1⟩
  have HG1 := Aside0.mk (GW.below HG.out hb1)
  have HB1 := Aside0.mk hb1
  clear hb1
  go_wp2_with (go_at_call 25; refine (HC.out.spl _ HG1.out).mono ?_)
  rintro e W2 ⟨g, rfl, hl, hb2⟩
  have HB2 := Aside0.mk (below_step HB1.out hb2)
  have HL := Aside0.mk hl
  clear hb2 hl
  go_wp2_with ((with_reducible refine gate_dst (N := 6) rfl ?_); refine box_event ?hg (N := 6) ?hd (cs := #[.int .i64 0, .int .i64 0, .int .i64 0]) (t := 46) ?hr ?_; (case hd => rfl); (case hg => rfl); (case hr => first | (go_simp; done) | (go_simp; rfl)); intro k hk W3 hbox hb3; have H3 : Aside0 (In3 w W3 g k a b c 0 0 0) := ⟨⟨blk_below HL.out hb3, hbox, below_step HB2.out hb3, by rw [hk]; exact below_size HB2.out, HG.out.below (below_step HB2.out hb3)⟩⟩; clear hk hbox hb3)
  have hgk : ¬ g = k := blk_ne H3.out.ls H3.out.ar (by decide)
  have hkg : ¬ k = g := fun e => hgk e.symm
  have z0 : W3.cell? ⟨g, 0, none⟩ = some (.string a) := (blk_cell H3.out.ls 0).trans rfl
  go_wp2_with (first | (go_at_call 27; refine (HA.out _).mono ?_) | (refine wp_loop_rounds 2 ?_) | (refine rounds_go ?_))
  rintro e W4 ⟨rfl, hb4⟩
  have H4 := Aside0.mk (H3.out.below hb4)
  clear hb4
  have y0 : W4.cell? ⟨k, 0, none⟩ = some (.int .i64 0) := (blk_cell H4.out.ar 0).trans rfl
  have f0 : W4.frozen? ⟨k, 0, none⟩ = false := blk_frozen H4.out.ar 0
  have H4s := Aside0.mk (H4.out.set0 HG.out p)
  have z1 : W4.cell? ⟨g, 1, none⟩ = some (.string b) := (blk_cell H4.out.ls 1).trans rfl
  go_wp2_with (first | (go_at_call 27; refine (HB.out _ H4s.out.gw).mono ?_) | (refine wp_loop_rounds 2 ?_) | (refine rounds_go ?_))
  rintro e W5 ⟨⟨m, x, rfl⟩, hb4⟩
  have H5 := Aside0.mk (H4s.out.below hb4)
  clear hb4
  go_wp2
  go_ret2
  exact ⟨rfl, H5.out.be⟩

set_option maxRecDepth 100000 in
set_option maxHeartbeats 4000000 in
theorem parse_bad3 (s : ByteArray) (v : Bool) (t : ByteArray) (a b c : ByteArray) (p q : Int) (hC : Calls3 s v t 3 #[.string a, .string b, .string c]) (hA : ∀ W, Calls Tryd.prog 27 #[.string a, .int .i64 16, .int .i64 16] W fun e w' => e = .returned (.tuple #[.int .u64 p, .nilIface]) ∧ Below W.heap.size W w') (p0 : 0 ≤ p) (p1 : p ≤ 65535) (hB : ∀ W, Calls Tryd.prog 27 #[.string b, .int .i64 16, .int .i64 16] W fun e w' => e = .returned (.tuple #[.int .u64 q, .nilIface]) ∧ Below W.heap.size W w') (q0 : 0 ≤ q) (q1 : q ≤ 65535) (hC3 : ∀ W, GW W → Calls Tryd.prog 27 #[.string c, .int .i64 16, .int .i64 16] W fun e w' => (∃ m x, e = .returned (.tuple #[.int .u64 m, .iface 87 x])) ∧ Below W.heap.size W w') (w : World) (hG0 : GW w) :
    Calls Tryd.prog 18 #[.string s] w fun e w' => e = .returned (.tuple #[.int .u32 0, .int .i64 3]) ∧ Below w.heap.size w w' := by
  have HG := Aside0.mk hG0
  have HC := Aside0.mk hC
  have HA := Aside0.mk hA
  have HB := Aside0.mk hB
  have HC3 := Aside0.mk hC3
  clear hG0 hC hA hB hC3
  go_enter Tryd.func18, Tryd.ntmps18
  go_wp2_with (go_at_call 24; refine (HC.out.pre _).mono ?_)
  rintro e W0 ⟨rfl, rfl⟩
  go_wp2_with (go_at_call 26; refine (HC.out.tri _).mono ?_)
  rintro e W1 ⟨rfl, hb1⟩
  have HG1 := Aside0.mk (GW.below HG.out hb1)
  have HB1 := Aside0.mk hb1
  clear hb1
  go_wp2_with (go_at_call 25; refine (HC.out.spl _ HG1.out).mono ?_)
  rintro e W2 ⟨g, rfl, hl, hb2⟩
  have HB2 := Aside0.mk (below_step HB1.out hb2)
  have HL := Aside0.mk hl
  clear hb2 hl
  go_wp2_with ((with_reducible refine gate_dst (N := 6) rfl ?_); refine box_event ?hg (N := 6) ?hd (cs := #[.int .i64 0, .int .i64 0, .int .i64 0]) (t := 46) ?hr ?_; (case hd => rfl); (case hg => rfl); (case hr => first | (go_simp; done) | (go_simp; rfl)); intro k hk W3 hbox hb3; have H3 : Aside0 (In3 w W3 g k a b c 0 0 0) := ⟨⟨blk_below HL.out hb3, hbox, below_step HB2.out hb3, by rw [hk]; exact below_size HB2.out, HG.out.below (below_step HB2.out hb3)⟩⟩; clear hk hbox hb3)
  have hgk : ¬ g = k := blk_ne H3.out.ls H3.out.ar (by decide)
  have hkg : ¬ k = g := fun e => hgk e.symm
  have z0 : W3.cell? ⟨g, 0, none⟩ = some (.string a) := (blk_cell H3.out.ls 0).trans rfl
  go_wp2_with (first | (go_at_call 27; refine (HA.out _).mono ?_) | (refine wp_loop_rounds 3 ?_) | (refine rounds_go ?_))
  rintro e W4 ⟨rfl, hb4⟩
  have H4 := Aside0.mk (H3.out.below hb4)
  clear hb4
  have y0 : W4.cell? ⟨k, 0, none⟩ = some (.int .i64 0) := (blk_cell H4.out.ar 0).trans rfl
  have f0 : W4.frozen? ⟨k, 0, none⟩ = false := blk_frozen H4.out.ar 0
  have H4s := Aside0.mk (H4.out.set0 HG.out p)
  have z1 : W4.cell? ⟨g, 1, none⟩ = some (.string b) := (blk_cell H4.out.ls 1).trans rfl
  go_wp2_with (first | (go_at_call 27; refine (HB.out _).mono ?_) | (refine wp_loop_rounds 3 ?_) | (refine rounds_go ?_))
  rintro e W5 ⟨rfl, hb4⟩
  have H5 := Aside0.mk (H4s.out.below hb4)
  clear hb4
  have y1 : W5.cell? ⟨k, 1, none⟩ = some (.int .i64 0) := (blk_cell H5.out.ar 1).trans rfl
  have f1 : W5.frozen? ⟨k, 1, none⟩ = false := blk_frozen H5.out.ar 1
  have H5s := Aside0.mk (H5.out.set1 HG.out q)
  have z2 : W5.cell? ⟨g, 2, none⟩ = some (.string c) := (blk_cell H5.out.ls 2).trans rfl
  go_wp2_with (first | (go_at_call 27; refine (HC3.out _ H5s.out.gw).mono ?_) | (refine wp_loop_rounds 3 ?_) | (refine rounds_go ?_))
  rintro e W6 ⟨⟨m, x, rfl⟩, hb4⟩
  have H6 := Aside0.mk (H5s.out.below hb4)
  clear hb4
  go_wp2
  go_ret2
  exact ⟨rfl, H6.out.be⟩

set_option maxRecDepth 100000 in
set_option maxHeartbeats 4000000 in
theorem parse_okF (s : ByteArray) (v : Bool) (t : ByteArray) (a b c : ByteArray) (p q r E F : Int) (hC : Calls3 s v t 3 #[.string a, .string b, .string c]) (hA : ∀ W, Calls Tryd.prog 27 #[.string a, .int .i64 16, .int .i64 16] W fun e w' => e = .returned (.tuple #[.int .u64 p, .nilIface]) ∧ Below W.heap.size W w') (p0 : 0 ≤ p) (p1 : p ≤ 65535) (hB : ∀ W, Calls Tryd.prog 27 #[.string b, .int .i64 16, .int .i64 16] W fun e w' => e = .returned (.tuple #[.int .u64 q, .nilIface]) ∧ Below W.heap.size W w') (q0 : 0 ≤ q) (q1 : q ≤ 65535) (hC3 : ∀ W, Calls Tryd.prog 27 #[.string c, .int .i64 16, .int .i64 16] W fun e w' => e = .returned (.tuple #[.int .u64 r, .nilIface]) ∧ Below W.heap.size W w') (r0 : 0 ≤ r) (r1 : r ≤ 65535) (hM : ∀ W, Calls Tryd.prog 11 #[.int .i64 p, .int .i64 q, .int .i64 r, .bool v] W fun e w' => e = .returned (.tuple #[.int .u32 E, .int .i64 F]) ∧ Below W.heap.size W w') (hF : (F == 0) = false) (w : World) (hG0 : GW w) :
    Calls Tryd.prog 18 #[.string s] w fun e w' => e = .returned (.tuple #[.int .u32 0, .int .i64 3]) ∧ Below w.heap.size w w' := by
  have HG := Aside0.mk hG0
  have HC := Aside0.mk hC
  have HA := Aside0.mk hA
  have HB := Aside0.mk hB
  have HC3 := Aside0.mk hC3
  have HM := Aside0.mk hM
  clear hG0 hC hA hB hC3 hM
  go_enter Tryd.func18, Tryd.ntmps18
  go_wp2_with (go_at_call 24; refine (HC.out.pre _).mono ?_)
  rintro e W0 ⟨rfl, rfl⟩
  go_wp2_with (go_at_call 26; refine (HC.out.tri _).mono ?_)
  rintro e W1 ⟨rfl, hb1⟩
  have HG1 := Aside0.mk (GW.below HG.out hb1)
  have HB1 := Aside0.mk hb1
  clear hb1
  go_wp2_with (go_at_call 25; refine (HC.out.spl _ HG1.out).mono ?_)
  rintro e W2 ⟨g, rfl, hl, hb2⟩
  have HB2 := Aside0.mk (below_step HB1.out hb2)
  have HL := Aside0.mk hl
  clear hb2 hl
  go_wp2_with ((with_reducible refine gate_dst (N := 6) rfl ?_); refine box_event ?hg (N := 6) ?hd (cs := #[.int .i64 0, .int .i64 0, .int .i64 0]) (t := 46) ?hr ?_; (case hd => rfl); (case hg => rfl); (case hr => first | (go_simp; done) | (go_simp; rfl)); intro k hk W3 hbox hb3; have H3 : Aside0 (In3 w W3 g k a b c 0 0 0) := ⟨⟨blk_below HL.out hb3, hbox, below_step HB2.out hb3, by rw [hk]; exact below_size HB2.out, HG.out.below (below_step HB2.out hb3)⟩⟩; clear hk hbox hb3)
  have hgk : ¬ g = k := blk_ne H3.out.ls H3.out.ar (by decide)
  have hkg : ¬ k = g := fun e => hgk e.symm
  have z0 : W3.cell? ⟨g, 0, none⟩ = some (.string a) := (blk_cell H3.out.ls 0).trans rfl
  go_wp2_with (first | (go_at_call 27; refine (HA.out _).mono ?_) | (refine wp_loop_rounds 4 ?_) | (refine rounds_go ?_))
  rintro e W4 ⟨rfl, hb4⟩
  have H4 := Aside0.mk (H3.out.below hb4)
  clear hb4
  have y0 : W4.cell? ⟨k, 0, none⟩ = some (.int .i64 0) := (blk_cell H4.out.ar 0).trans rfl
  have f0 : W4.frozen? ⟨k, 0, none⟩ = false := blk_frozen H4.out.ar 0
  have H4s := Aside0.mk (H4.out.set0 HG.out p)
  have z1 : W4.cell? ⟨g, 1, none⟩ = some (.string b) := (blk_cell H4.out.ls 1).trans rfl
  go_wp2_with (first | (go_at_call 27; refine (HB.out _).mono ?_) | (refine wp_loop_rounds 4 ?_) | (refine rounds_go ?_))
  rintro e W5 ⟨rfl, hb4⟩
  have H5 := Aside0.mk (H4s.out.below hb4)
  clear hb4
  have y1 : W5.cell? ⟨k, 1, none⟩ = some (.int .i64 0) := (blk_cell H5.out.ar 1).trans rfl
  have f1 : W5.frozen? ⟨k, 1, none⟩ = false := blk_frozen H5.out.ar 1
  have H5s := Aside0.mk (H5.out.set1 HG.out q)
  have z2 : W5.cell? ⟨g, 2, none⟩ = some (.string c) := (blk_cell H5.out.ls 2).trans rfl
  go_wp2_with (first | (go_at_call 27; refine (HC3.out _).mono ?_) | (refine wp_loop_rounds 4 ?_) | (refine rounds_go ?_))
  rintro e W6 ⟨rfl, hb4⟩
  have H6 := Aside0.mk (H5s.out.below hb4)
  clear hb4
  have y2 : W6.cell? ⟨k, 2, none⟩ = some (.int .i64 0) := (blk_cell H6.out.ar 2).trans rfl
  have f2 : W6.frozen? ⟨k, 2, none⟩ = false := blk_frozen H6.out.ar 2
  have v0 : W6.cell? ⟨k, 0, none⟩ = some (.int .i64 p) := (blk_cell H6.out.ar 0).trans rfl
  have v1 : W6.cell? ⟨k, 1, none⟩ = some (.int .i64 q) := (blk_cell H6.out.ar 1).trans rfl
  have H6s := Aside0.mk (H6.out.set2 HG.out r)
  go_wp2_with (first | (go_at_call 11; refine (HM.out _).mono ?_) | (refine rounds_go ?_))
  rintro e W7 ⟨rfl, hb7⟩
  have H7 := Aside0.mk (H6s.out.below hb7)
  clear hb7
  go_wp2
  go_ret2
  exact ⟨rfl, H7.out.be⟩

set_option maxRecDepth 100000 in
set_option maxHeartbeats 4000000 in
theorem parse_okT (s : ByteArray) (v : Bool) (t : ByteArray) (a b c : ByteArray) (p q r E : Int) (hC : Calls3 s v t 3 #[.string a, .string b, .string c]) (hA : ∀ W, Calls Tryd.prog 27 #[.string a, .int .i64 16, .int .i64 16] W fun e w' => e = .returned (.tuple #[.int .u64 p, .nilIface]) ∧ Below W.heap.size W w') (p0 : 0 ≤ p) (p1 : p ≤ 65535) (hB : ∀ W, Calls Tryd.prog 27 #[.string b, .int .i64 16, .int .i64 16] W fun e w' => e = .returned (.tuple #[.int .u64 q, .nilIface]) ∧ Below W.heap.size W w') (q0 : 0 ≤ q) (q1 : q ≤ 65535) (hC3 : ∀ W, Calls Tryd.prog 27 #[.string c, .int .i64 16, .int .i64 16] W fun e w' => e = .returned (.tuple #[.int .u64 r, .nilIface]) ∧ Below W.heap.size W w') (r0 : 0 ≤ r) (r1 : r ≤ 65535) (hM : ∀ W, Calls Tryd.prog 11 #[.int .i64 p, .int .i64 q, .int .i64 r, .bool v] W fun e w' => e = .returned (.tuple #[.int .u32 E, .int .i64 0]) ∧ Below W.heap.size W w') (x : ByteArray) (hT : ∀ W, GW W → Calls Tryd.prog 16 #[.int .u32 E] W fun e w' => e = .returned (.string x) ∧ Below W.heap.size W w') (hx : (x.toList == s.toList) = false) (w : World) (hG0 : GW w) :
    Calls Tryd.prog 18 #[.string s] w fun e w' => e = .returned (.tuple #[.int .u32 0, .int .i64 3]) ∧ Below w.heap.size w w' := by
  have HG := Aside0.mk hG0
  have HC := Aside0.mk hC
  have HA := Aside0.mk hA
  have HB := Aside0.mk hB
  have HC3 := Aside0.mk hC3
  have HM := Aside0.mk hM
  have HT := Aside0.mk hT
  clear hG0 hC hA hB hC3 hM hT
  go_enter Tryd.func18, Tryd.ntmps18
  go_wp2_with (go_at_call 24; refine (HC.out.pre _).mono ?_)
  rintro e W0 ⟨rfl, rfl⟩
  go_wp2_with (go_at_call 26; refine (HC.out.tri _).mono ?_)
  rintro e W1 ⟨rfl, hb1⟩
  have HG1 := Aside0.mk (GW.below HG.out hb1)
  have HB1 := Aside0.mk hb1
  clear hb1
  go_wp2_with (go_at_call 25; refine (HC.out.spl _ HG1.out).mono ?_)
  rintro e W2 ⟨g, rfl, hl, hb2⟩
  have HB2 := Aside0.mk (below_step HB1.out hb2)
  have HL := Aside0.mk hl
  clear hb2 hl
  go_wp2_with ((with_reducible refine gate_dst (N := 6) rfl ?_); refine box_event ?hg (N := 6) ?hd (cs := #[.int .i64 0, .int .i64 0, .int .i64 0]) (t := 46) ?hr ?_; (case hd => rfl); (case hg => rfl); (case hr => first | (go_simp; done) | (go_simp; rfl)); intro k hk W3 hbox hb3; have H3 : Aside0 (In3 w W3 g k a b c 0 0 0) := ⟨⟨blk_below HL.out hb3, hbox, below_step HB2.out hb3, by rw [hk]; exact below_size HB2.out, HG.out.below (below_step HB2.out hb3)⟩⟩; clear hk hbox hb3)
  have hgk : ¬ g = k := blk_ne H3.out.ls H3.out.ar (by decide)
  have hkg : ¬ k = g := fun e => hgk e.symm
  have z0 : W3.cell? ⟨g, 0, none⟩ = some (.string a) := (blk_cell H3.out.ls 0).trans rfl
  go_wp2_with (first | (go_at_call 27; refine (HA.out _).mono ?_) | (refine wp_loop_rounds 4 ?_) | (refine rounds_go ?_))
  rintro e W4 ⟨rfl, hb4⟩
  have H4 := Aside0.mk (H3.out.below hb4)
  clear hb4
  have y0 : W4.cell? ⟨k, 0, none⟩ = some (.int .i64 0) := (blk_cell H4.out.ar 0).trans rfl
  have f0 : W4.frozen? ⟨k, 0, none⟩ = false := blk_frozen H4.out.ar 0
  have H4s := Aside0.mk (H4.out.set0 HG.out p)
  have z1 : W4.cell? ⟨g, 1, none⟩ = some (.string b) := (blk_cell H4.out.ls 1).trans rfl
  go_wp2_with (first | (go_at_call 27; refine (HB.out _).mono ?_) | (refine wp_loop_rounds 4 ?_) | (refine rounds_go ?_))
  rintro e W5 ⟨rfl, hb4⟩
  have H5 := Aside0.mk (H4s.out.below hb4)
  clear hb4
  have y1 : W5.cell? ⟨k, 1, none⟩ = some (.int .i64 0) := (blk_cell H5.out.ar 1).trans rfl
  have f1 : W5.frozen? ⟨k, 1, none⟩ = false := blk_frozen H5.out.ar 1
  have H5s := Aside0.mk (H5.out.set1 HG.out q)
  have z2 : W5.cell? ⟨g, 2, none⟩ = some (.string c) := (blk_cell H5.out.ls 2).trans rfl
  go_wp2_with (first | (go_at_call 27; refine (HC3.out _).mono ?_) | (refine wp_loop_rounds 4 ?_) | (refine rounds_go ?_))
  rintro e W6 ⟨rfl, hb4⟩
  have H6 := Aside0.mk (H5s.out.below hb4)
  clear hb4
  have y2 : W6.cell? ⟨k, 2, none⟩ = some (.int .i64 0) := (blk_cell H6.out.ar 2).trans rfl
  have f2 : W6.frozen? ⟨k, 2, none⟩ = false := blk_frozen H6.out.ar 2
  have v0 : W6.cell? ⟨k, 0, none⟩ = some (.int .i64 p) := (blk_cell H6.out.ar 0).trans rfl
  have v1 : W6.cell? ⟨k, 1, none⟩ = some (.int .i64 q) := (blk_cell H6.out.ar 1).trans rfl
  have H6s := Aside0.mk (H6.out.set2 HG.out r)
  go_wp2_with (first | (go_at_call 11; refine (HM.out _).mono ?_) | (refine rounds_go ?_))
  rintro e W7 ⟨rfl, hb7⟩
  have H7 := Aside0.mk (H6s.out.below hb7)
  clear hb7
  go_wp2_with (go_at_call 16; refine (HT.out _ H7.out.gw).mono ?_)
  rintro e W8 ⟨rfl, hb8⟩
  have H8 := Aside0.mk (H7.out.below hb8)
  clear hb8
  go_wp2
  go_ret2
  exact ⟨rfl, H8.out.be⟩

set_option maxRecDepth 100000 in
set_option maxHeartbeats 4000000 in
theorem parse_ok (s : ByteArray) (v : Bool) (t : ByteArray) (a b c : ByteArray) (p q r E : Int) (hC : Calls3 s v t 3 #[.string a, .string b, .string c]) (hA : ∀ W, Calls Tryd.prog 27 #[.string a, .int .i64 16, .int .i64 16] W fun e w' => e = .returned (.tuple #[.int .u64 p, .nilIface]) ∧ Below W.heap.size W w') (p0 : 0 ≤ p) (p1 : p ≤ 65535) (hB : ∀ W, Calls Tryd.prog 27 #[.string b, .int .i64 16, .int .i64 16] W fun e w' => e = .returned (.tuple #[.int .u64 q, .nilIface]) ∧ Below W.heap.size W w') (q0 : 0 ≤ q) (q1 : q ≤ 65535) (hC3 : ∀ W, Calls Tryd.prog 27 #[.string c, .int .i64 16, .int .i64 16] W fun e w' => e = .returned (.tuple #[.int .u64 r, .nilIface]) ∧ Below W.heap.size W w') (r0 : 0 ≤ r) (r1 : r ≤ 65535) (hM : ∀ W, Calls Tryd.prog 11 #[.int .i64 p, .int .i64 q, .int .i64 r, .bool v] W fun e w' => e = .returned (.tuple #[.int .u32 E, .int .i64 0]) ∧ Below W.heap.size W w') (x : ByteArray) (hT : ∀ W, GW W → Calls Tryd.prog 16 #[.int .u32 E] W fun e w' => e = .returned (.string x) ∧ Below W.heap.size W w') (hx : (x.toList == s.toList) = true) (w : World) (hG0 : GW w) :
    Calls Tryd.prog 18 #[.string s] w fun e w' => e = .returned (.tuple #[.int .u32 E, .int .i64 0]) ∧ Below w.heap.size w w' := by
  have HG := Aside0.mk hG0
  have HC := Aside0.mk hC
  have HA := Aside0.mk hA
  have HB := Aside0.mk hB
  have HC3 := Aside0.mk hC3
  have HM := Aside0.mk hM
  have HT := Aside0.mk hT
  clear hG0 hC hA hB hC3 hM hT
  go_enter Tryd.func18, Tryd.ntmps18
  go_wp2_with (go_at_call 24; refine (HC.out.pre _).mono ?_)
  rintro e W0 ⟨rfl, rfl⟩
  go_wp2_with (go_at_call 26; refine (HC.out.tri _).mono ?_)
  rintro e W1 ⟨rfl, hb1⟩
  have HG1 := Aside0.mk (GW.below HG.out hb1)
  have HB1 := Aside0.mk hb1
  clear hb1
  go_wp2_with (go_at_call 25; refine (HC.out.spl _ HG1.out).mono ?_)
  rintro e W2 ⟨g, rfl, hl, hb2⟩
  have HB2 := Aside0.mk (below_step HB1.out hb2)
  have HL := Aside0.mk hl
  clear hb2 hl
  go_wp2_with ((with_reducible refine gate_dst (N := 6) rfl ?_); refine box_event ?hg (N := 6) ?hd (cs := #[.int .i64 0, .int .i64 0, .int .i64 0]) (t := 46) ?hr ?_; (case hd => rfl); (case hg => rfl); (case hr => first | (go_simp; done) | (go_simp; rfl)); intro k hk W3 hbox hb3; have H3 : Aside0 (In3 w W3 g k a b c 0 0 0) := ⟨⟨blk_below HL.out hb3, hbox, below_step HB2.out hb3, by rw [hk]; exact below_size HB2.out, HG.out.below (below_step HB2.out hb3)⟩⟩; clear hk hbox hb3)
  have hgk : ¬ g = k := blk_ne H3.out.ls H3.out.ar (by decide)
  have hkg : ¬ k = g := fun e => hgk e.symm
  have z0 : W3.cell? ⟨g, 0, none⟩ = some (.string a) := (blk_cell H3.out.ls 0).trans rfl
  go_wp2_with (first | (go_at_call 27; refine (HA.out _).mono ?_) | (refine wp_loop_rounds 4 ?_) | (refine rounds_go ?_))
  rintro e W4 ⟨rfl, hb4⟩
  have H4 := Aside0.mk (H3.out.below hb4)
  clear hb4
  have y0 : W4.cell? ⟨k, 0, none⟩ = some (.int .i64 0) := (blk_cell H4.out.ar 0).trans rfl
  have f0 : W4.frozen? ⟨k, 0, none⟩ = false := blk_frozen H4.out.ar 0
  have H4s := Aside0.mk (H4.out.set0 HG.out p)
  have z1 : W4.cell? ⟨g, 1, none⟩ = some (.string b) := (blk_cell H4.out.ls 1).trans rfl
  go_wp2_with (first | (go_at_call 27; refine (HB.out _).mono ?_) | (refine wp_loop_rounds 4 ?_) | (refine rounds_go ?_))
  rintro e W5 ⟨rfl, hb4⟩
  have H5 := Aside0.mk (H4s.out.below hb4)
  clear hb4
  have y1 : W5.cell? ⟨k, 1, none⟩ = some (.int .i64 0) := (blk_cell H5.out.ar 1).trans rfl
  have f1 : W5.frozen? ⟨k, 1, none⟩ = false := blk_frozen H5.out.ar 1
  have H5s := Aside0.mk (H5.out.set1 HG.out q)
  have z2 : W5.cell? ⟨g, 2, none⟩ = some (.string c) := (blk_cell H5.out.ls 2).trans rfl
  go_wp2_with (first | (go_at_call 27; refine (HC3.out _).mono ?_) | (refine wp_loop_rounds 4 ?_) | (refine rounds_go ?_))
  rintro e W6 ⟨rfl, hb4⟩
  have H6 := Aside0.mk (H5s.out.below hb4)
  clear hb4
  have y2 : W6.cell? ⟨k, 2, none⟩ = some (.int .i64 0) := (blk_cell H6.out.ar 2).trans rfl
  have f2 : W6.frozen? ⟨k, 2, none⟩ = false := blk_frozen H6.out.ar 2
  have v0 : W6.cell? ⟨k, 0, none⟩ = some (.int .i64 p) := (blk_cell H6.out.ar 0).trans rfl
  have v1 : W6.cell? ⟨k, 1, none⟩ = some (.int .i64 q) := (blk_cell H6.out.ar 1).trans rfl
  have H6s := Aside0.mk (H6.out.set2 HG.out r)
  go_wp2_with (first | (go_at_call 11; refine (HM.out _).mono ?_) | (refine rounds_go ?_))
  rintro e W7 ⟨rfl, hb7⟩
  have H7 := Aside0.mk (H6s.out.below hb7)
  clear hb7
  go_wp2_with (go_at_call 16; refine (HT.out _ H7.out.gw).mono ?_)
  rintro e W8 ⟨rfl, hb8⟩
  have H8 := Aside0.mk (H7.out.below hb8)
  clear hb8
  go_wp2
  go_ret2
  exact ⟨rfl, H8.out.be⟩


/-- An element's word. -/
def word (p q r : Int) (v : Bool) : Int := p * 65536 + q * 256 + r * 2 + (if v then 1 else 0)
def parse3 (s : ByteArray) (v : Bool) (A B C : Int × Nat) : Int × Int :=
  if A.1 = 0 ∧ B.1 = 0 ∧ C.1 = 0 ∧ PureW.fits A.2 B.2 C.2 ∧ (PureW.TX A.2 B.2 C.2 v).toList = s.toList then (word A.2 B.2 C.2 v, 0) else (0, 3)
def parse (s : ByteArray) : Int × Int :=
  match pieces (trimB s) with
  | [a, b, c] => parse3 s (Lib.hasPrefix s.data.toList [91, 42]) (puAll a.data.toList) (puAll b.data.toList) (puAll c.data.toList)
  | _ => (0, 3)
def elem_Parse.f (s : ByteArray) : Option (Int × Int) := if s.size ≤ 1000 then some (parse s) else none

theorem puGoodI (x : ByteArray) (p : Int × Nat) (hx : x.size ≤ 1000) (h : puAll x.data.toList = p) (h0 : p.1 = 0) (W : World) :
    Calls Tryd.prog 27 #[.string x, .int .i64 16, .int .i64 16] W fun e w' => e = .returned (.tuple #[.int .u64 (p.2 : Int), .nilIface]) ∧ Below W.heap.size W w' :=
  puGood x p.2 (by omega) (by rw [h, ← h0]) W
theorem puBadI (x : ByteArray) (p : Int × Nat) (hx : x.size ≤ 1000) (h : puAll x.data.toList = p) (h0 : p.1 ≠ 0) (W : World) (hG : GW W) :
    Calls Tryd.prog 27 #[.string x, .int .i64 16, .int .i64 16] W fun e w' => (∃ m y, e = .returned (.tuple #[.int .u64 m, .iface 87 y])) ∧ Below W.heap.size W w' := by
  rcases puAll_ends x.data.toList with ⟨e, _⟩ | e | e
  · rw [h] at e
    exact absurd e h0
  · exact (puBad x 1 65535 (.inl ⟨rfl, rfl⟩) (by omega) e W hG).mono fun _ _ ⟨⟨y, h1⟩, h2⟩ => ⟨⟨_, y, h1⟩, h2⟩
  · exact (puBad x 2 0 (.inr ⟨rfl, rfl⟩) (by omega) e W hG).mono fun _ _ ⟨⟨y, h1⟩, h2⟩ => ⟨⟨_, y, h1⟩, h2⟩

theorem elem_Parse.calls (a0 : ByteArray) (r1 r2 : Int) (w : World) (hG0 : GW w) (h : elem_Parse.f a0 = some (r1, r2)) :
    Calls Tryd.prog 18 #[.string a0] w fun e w' => e = .returned (.tuple #[.int .u32 r1, .int .i64 r2]) ∧ Below w.heap.size w w' := by
  unfold elem_Parse.f at h
  split at h
  · rename_i hs
    have h := Option.some.inj h
    unfold parse at h
    have ht : (trimB a0).size ≤ 1000 := Nat.le_trans (size_trimB a0) hs
    have hp : ∀ x ∈ pieces (trimB a0), x.size ≤ 1000 := fun x hx => Nat.le_trans (size_piece _ _ _ x hx) ht
    have hC : Calls3 a0 (Lib.hasPrefix a0.data.toList [91, 42]) (trimB a0) (pieces (trimB a0)).length ((pieces (trimB a0)).map Value.string).toArray :=
      ⟨fun W => (Tryd.strings_HasPrefix a0 ⟨#[91, 42]⟩ W).mono fun _ _ h => ⟨h.1, h.2.symm⟩, fun W => trim a0 W (by omega), fun W hW => split (trimB a0) W (by omega) hW⟩
    generalize Lib.hasPrefix a0.data.toList [91, 42] = v at *
    have no : (r1, r2) = (0, 3) → (Calls Tryd.prog 18 #[.string a0] w fun e w' => e = .returned (.tuple #[.int .u32 0, .int .i64 3]) ∧ Below w.heap.size w w') → Calls Tryd.prog 18 #[.string a0] w fun e w' => e = .returned (.tuple #[.int .u32 r1, .int .i64 r2]) ∧ Below w.heap.size w w' := by
      intro e hh
      obtain ⟨rfl, rfl⟩ := Prod.mk.inj e
      exact hh
    by_cases h3 : (pieces (trimB a0)).length = 3
    · obtain ⟨a, b, c, he⟩ : ∃ a b c, pieces (trimB a0) = [a, b, c] := by
        match hq : pieces (trimB a0), h3 with
        | [a, b, c], _ => exact ⟨a, b, c, rfl⟩
      rw [he] at h hp hC
      have ha : a.size ≤ 1000 := hp a (by simp)
      have hb : b.size ≤ 1000 := hp b (by simp)
      have hc : c.size ≤ 1000 := hp c (by simp)
      replace h : parse3 a0 v (puAll a.data.toList) (puAll b.data.toList) (puAll c.data.toList) = (r1, r2) := h
      generalize hA : puAll a.data.toList = A at *
      generalize hB : puAll b.data.toList = B at *
      generalize hD : puAll c.data.toList = C at *
      have A2 := puAll_ends a.data.toList
      have B2 := puAll_ends b.data.toList
      have C2 := puAll_ends c.data.toList
      rw [hA] at A2
      rw [hB] at B2
      rw [hD] at C2
      unfold parse3 at h
      by_cases h1 : A.1 = 0
      · have pA := fun W => puGoodI a A ha hA h1 W
        have A3 : A.2 ≤ 65535 := by
          rcases A2 with ⟨_, e⟩ | e | e
          · exact e
          · rw [e]; decide
          · rw [e]; decide
        by_cases h2 : B.1 = 0
        · have pB := fun W => puGoodI b B hb hB h2 W
          have B3 : B.2 ≤ 65535 := by
            rcases B2 with ⟨_, e⟩ | e | e
            · exact e
            · rw [e]; decide
            · rw [e]; decide
          by_cases h4 : C.1 = 0
          · have pC := fun W => puGoodI c C hc hD h4 W
            have C3 : C.2 ≤ 65535 := by
              rcases C2 with ⟨_, e⟩ | e | e
              · exact e
              · rw [e]; decide
              · rw [e]; decide
            by_cases hf : PureW.fits A.2 B.2 C.2
            · have hM := fun W => XA.elem_Make.calls 5 A.2 B.2 C.2 v (word A.2 B.2 C.2 v) 0 W (by rw [PureW.make_eq 0, if_pos hf]; rfl)
              obtain ⟨n, hn, hnl⟩ : ∃ n : Nat, word A.2 B.2 C.2 v = (n : Int) ∧ n < 4294967296 := by
                unfold PureW.fits at hf
                unfold word
                refine ⟨((A.2 : Int) * 65536 + B.2 * 256 + C.2 * 2 + (if v then 1 else 0)).toNat, ?_, ?_⟩ <;> cases v <;> simp <;> omega
              have hT := fun W (hW : GW W) => XA.elem_Elem_Text.calls 2 n (PureW.TX A.2 B.2 C.2 v) W hW.deb (by
                rw [PureW.text_eq 0 n hnl]
                unfold PureW.fits at hf
                unfold word at hn
                have n1 : (n : Int) / 65536 = A.2 := by cases v <;> simp at hn <;> omega
                have n2 : (n : Int) / 256 % 256 = B.2 := by cases v <;> simp at hn <;> omega
                have n3 : (n : Int) / 2 % 128 = C.2 := by cases v <;> simp at hn <;> omega
                have n4 : decide (n % 2 = 1) = v := by cases v <;> simp at hn <;> simp <;> omega
                rw [n1, n2, n3, n4])
              rw [← hn] at hT
              by_cases hx : (PureW.TX A.2 B.2 C.2 v).toList = a0.toList
              · rw [if_pos ⟨h1, h2, h4, hf, hx⟩] at h
                obtain ⟨rfl, rfl⟩ := Prod.mk.inj h
                exact parse_ok a0 v (trimB a0) a b c A.2 B.2 C.2 _ hC pA (by omega) (by omega) pB (by omega) (by omega) pC (by omega) (by omega) hM _ hT (by simpa using hx) w hG0
              · rw [if_neg (fun z => hx z.2.2.2.2)] at h
                exact no h.symm (parse_okT a0 v (trimB a0) a b c A.2 B.2 C.2 _ hC pA (by omega) (by omega) pB (by omega) (by omega) pC (by omega) (by omega) hM _ hT (by simpa using hx) w hG0)
            · rw [if_neg (fun z => hf z.2.2.2.1)] at h
              have hM := fun W => XA.elem_Make.calls 5 A.2 B.2 C.2 v 0 1 W (by rw [PureW.make_eq 0, if_neg hf])
              exact no h.symm (parse_okF a0 v (trimB a0) a b c A.2 B.2 C.2 0 1 hC pA (by omega) (by omega) pB (by omega) (by omega) pC (by omega) (by omega) hM rfl w hG0)
          · rw [if_neg (fun z => h4 z.2.2.1)] at h
            exact no h.symm (parse_bad3 a0 v (trimB a0) a b c A.2 B.2 hC pA (by omega) (by omega) pB (by omega) (by omega) (fun W hW => puBadI c C hc hD h4 W hW) w hG0)
        · rw [if_neg (fun z => h2 z.2.1)] at h
          exact no h.symm (parse_bad2 a0 v (trimB a0) a b c A.2 hC pA (by omega) (by omega) (fun W hW => puBadI b B hb hB h2 W hW) w hG0)
      · rw [if_neg (fun z => h1 z.1)] at h
        exact no h.symm (parse_bad1 a0 v (trimB a0) a b c hC (fun W hW => puBadI a A ha hA h1 W hW) w hG0)
    · have hn : (((pieces (trimB a0)).length : Int) == 3) = false := by simpa using fun e : ((pieces (trimB a0)).length : Int) = 3 => h3 (by omega)
      have h0 : (r1, r2) = (0, 3) := by
        rw [← h]
        split
        · rename_i a b c e
          rw [e] at h3
          exact absurd rfl h3
        · rfl
      exact no h0 (parse_not3 a0 v (trimB a0) _ _ hC hn w hG0)
  · cases h

end Go.Proofs.YtmgoncnjagihgaaDoor.GivenT
