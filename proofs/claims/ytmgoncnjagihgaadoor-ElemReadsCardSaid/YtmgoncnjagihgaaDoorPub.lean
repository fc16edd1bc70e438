/-
  What elem.Parse calls: strconv.ParseUint at the base 16 and 16 bits, strings.Trim of brackets and stars, strings.Split at points. The premise: the table of de Bruijn, the two errors of strconv, and that a variable of internal/bytealg holds some number.
-/
import Derived.Test.YtmgoncnjagihgaaDoorPu
import Derived.Shelf.Strings.SlTrimAscii
import Derived.Shelf.Pu.ParseUintPublic10
import Derived.Lib.SplitLaws
namespace Go.Proofs.YtmgoncnjagihgaaDoor.GivenT
open Go.RowKit Go.Proofs.YtmgoncnjagihgaaDoorW.PrintWords Go.Proofs.YtmgoncnjagihgaaDoorW.PrintLast Go.Proofs.YtmgoncnjagihgaaDoorW.PrintMore Go.Proofs.YtmgoncnjagihgaaDoor.Lem Go.Proofs.YtmgoncnjagihgaaDoor.Given

structure GW (w : World) : Prop where
  deb : Given.GW w
  syn : ∃ tp p, w.cell? ⟨0, 0, none⟩ = some (.iface tp p)
  ran : ∃ tp p, w.cell? ⟨1, 0, none⟩ = some (.iface tp p)
  mxl : ∃ m, w.cell? ⟨3, 0, none⟩ = some (.int .i64 m)

theorem GW.below {w w' : World} (h : GW w) (hb : Below w.heap.size w w') : GW w' :=
  ⟨h.deb.below hb, by obtain ⟨tp, p, e⟩ := h.syn; exact ⟨tp, p, pw_cell_below hb e⟩, by obtain ⟨tp, p, e⟩ := h.ran; exact ⟨tp, p, pw_cell_below hb e⟩, by obtain ⟨m, e⟩ := h.mxl; exact ⟨m, pw_cell_below hb e⟩⟩

theorem pu16_ends (l : List UInt8) : ∀ acc, acc ≤ 65535 → ((pu16 acc l).1 = 0 ∧ (pu16 acc l).2 ≤ 65535) ∨ pu16 acc l = (1, 65535) ∨ pu16 acc l = (2, 0) := by
  induction l with
  | nil => intro acc h; exact .inl ⟨rfl, h⟩
  | cons c r ih =>
    intro acc h
    unfold pu16
    cases dig16 c.toNat with
    | none => exact .inr (.inr rfl)
    | some d =>
      show ((if 65535 < acc * 16 + d then ((1 : Int), 65535) else pu16 (acc * 16 + d) r).1 = 0 ∧ _) ∨ _
      by_cases h1 : 65535 < acc * 16 + d
      · right; left
        show (if 65535 < acc * 16 + d then ((1 : Int), 65535) else pu16 (acc * 16 + d) r) = _
        rw [if_pos h1]
      · have := ih (acc * 16 + d) (by omega)
        show ((if 65535 < acc * 16 + d then ((1 : Int), 65535) else pu16 (acc * 16 + d) r).1 = 0 ∧ (if 65535 < acc * 16 + d then ((1 : Int), 65535) else pu16 (acc * 16 + d) r).2 ≤ 65535) ∨ (if 65535 < acc * 16 + d then ((1 : Int), 65535) else pu16 (acc * 16 + d) r) = _ ∨ (if 65535 < acc * 16 + d then ((1 : Int), 65535) else pu16 (acc * 16 + d) r) = _
        rw [if_neg h1]
        exact this

theorem puAll_ends (l : List UInt8) : ((puAll l).1 = 0 ∧ (puAll l).2 ≤ 65535) ∨ puAll l = (1, 65535) ∨ puAll l = (2, 0) := by
  unfold puAll
  split
  · exact .inr (.inr rfl)
  · exact pu16_ends l 0 (by omega)

set_option maxRecDepth 100000 in
theorem puEmpty (w : World) :
    Calls Tryd.prog 40 #[.string ⟨#[]⟩, .int .i64 16, .int .i64 16] w fun e w' => e = .returned (puV (2, 0)) ∧ w' = w := by
  go_enter Tryd.func40, Tryd.ntmps40
  go_wp2
  go_ret2
  exact ⟨rfl, rfl⟩

theorem puIn0 (t : ByteArray) (hmax : t.size ≤ 9223372036854775806) (w : World) :
    Calls Tryd.prog 40 #[.string t, .int .i64 16, .int .i64 16] w fun e w' => e = .returned (puV (puAll t.data.toList)) ∧ Below w.heap.size w w' := by
  by_cases h : t.size = 0
  · obtain rfl : t = ⟨#[]⟩ := by
      apply ByteArray.ext
      exact Array.eq_empty_of_size_eq_zero h
    exact (puEmpty w).mono fun e w' ⟨he, hw⟩ => ⟨he, hw ▸ Below.refl _ _⟩
  · have hn : t.data.toList ≠ [] := by
      intro e
      apply h
      show t.data.size = 0
      rw [← Array.length_toList, e]
      rfl
    refine (puIn t h hmax w).mono fun e w' ⟨he, hw⟩ => ⟨?_, ?_⟩
    · rw [he]
      unfold puAll
      rw [if_neg hn]
    · rw [hw]
      exact bytes_below (Below.refl _ _) (Nat.le_refl _) _ _

theorem gw_lt {w : World} {g : Nat} {v : Value} (h : w.cell? ⟨g, 0, none⟩ = some v) : g < w.heap.size := World.block_lt_of_cell? w _ h

set_option maxHeartbeats 4000000 in
theorem puBad (s : ByteArray) (c : Int) (n : Nat) (hc : (c = 1 ∧ n = 65535) ∨ (c = 2 ∧ n = 0)) (hlim : s.size ≤ 281474976710656) (h : puAll s.data.toList = (c, n)) (w : World) (hG : GW w) :
    Calls Tryd.prog 27 #[.string s, .int .i64 16, .int .i64 16] w fun e w' => (∃ x, e = .returned (.tuple #[.int .u64 n, .iface 87 x])) ∧ Below w.heap.size w w' := by
  have hI := fun W => puIn0 s (by omega) W
  rw [h] at hI
  have hJ : ∀ W, Calls Tryd.prog 40 #[.string s, .int .i64 16, .int .i64 16] W fun e w' => e = .returned (.tuple #[.int .u64 n, .iface 84 (.int .i64 c)]) ∧ Below W.heap.size W w' := fun W => (hI W).mono fun e w' ⟨he, hb⟩ => ⟨by rw [he]; unfold puV; rw [if_neg (show ¬ c = 0 by rcases hc with ⟨rfl, _⟩ | ⟨rfl, _⟩ <;> decide)], hb⟩
  clear hI
  obtain ⟨tp, p, hv⟩ := hG.syn
  obtain ⟨tq, q, hu⟩ := hG.ran
  rcases hc with ⟨rfl, rfl⟩ | ⟨rfl, rfl⟩
  · have HE : ∀ W, Below w.heap.size w W → Calls Tryd.prog 41 #[.string ⟨#[80, 97, 114, 115, 101, 85, 105, 110, 116]⟩, .string s, .int .i64 16, .int .i64 16, .iface 84 (.int .i64 1)] W fun e w' => ∃ N, e = .returned (.iface 87 (.pointer (some ⟨N, 0, none⟩))) ∧ Below W.heap.size W w' := fun W hW =>
      (AnyPu.strconv_toError_range { Tryd.laysPu14 with } ⟨#[80, 97, 114, 115, 101, 85, 105, 110, 116]⟩ s 16 16 (.iface tq q) W hlim (pw_cell_below hW hu) (.inr ⟨tq, q, rfl⟩)).mono fun e w' ⟨N, he, _, _, hB⟩ => ⟨N, he, hB⟩
    have HI := Aside0.mk hJ
    have HH := Aside0.mk HE
    clear hJ HE hG hv hu h
    go_enter Tryd.func27, Tryd.ntmps27
    go_wp2_with (go_at_call 40; refine (HI.out _).mono ?_)
    rintro e W1 ⟨rfl, hB⟩
    have HB := Aside0.mk hB
    clear hB
    go_wp2_with (go_at_call 41; refine (HH.out _ HB.out).mono ?_)
    rintro e W2 ⟨N, rfl, hB2⟩
    go_wp2
    go_ret2
    exact ⟨⟨_, rfl⟩, below_then HB.out HB.out.size hB2⟩
  · have HE : ∀ W, Below w.heap.size w W → Calls Tryd.prog 41 #[.string ⟨#[80, 97, 114, 115, 101, 85, 105, 110, 116]⟩, .string s, .int .i64 16, .int .i64 16, .iface 84 (.int .i64 2)] W fun e w' => ∃ N, e = .returned (.iface 87 (.pointer (some ⟨N, 0, none⟩))) ∧ Below W.heap.size W w' := fun W hW =>
      (AnyPu.strconv_toError_syntax { Tryd.laysPu14 with } ⟨#[80, 97, 114, 115, 101, 85, 105, 110, 116]⟩ s 16 16 (.iface tp p) W hlim (pw_cell_below hW hv) (.inr ⟨tp, p, rfl⟩)).mono fun e w' ⟨N, he, _, _, hB⟩ => ⟨N, he, hB⟩
    have HI := Aside0.mk hJ
    have HH := Aside0.mk HE
    clear hJ HE hG hv hu h
    go_enter Tryd.func27, Tryd.ntmps27
    go_wp2_with (go_at_call 40; refine (HI.out _).mono ?_)
    rintro e W1 ⟨rfl, hB⟩
    have HB := Aside0.mk hB
    clear hB
    go_wp2_with (go_at_call 41; refine (HH.out _ HB.out).mono ?_)
    rintro e W2 ⟨N, rfl, hB2⟩
    go_wp2
    go_ret2
    exact ⟨⟨_, rfl⟩, below_then HB.out HB.out.size hB2⟩

theorem puGood (s : ByteArray) (n : Nat) (hlim : s.size ≤ 281474976710656) (h : puAll s.data.toList = (0, n)) (w : World) :
    Calls Tryd.prog 27 #[.string s, .int .i64 16, .int .i64 16] w fun e w' => e = .returned (.tuple #[.int .u64 n, .nilIface]) ∧ Below w.heap.size w w' := by
  have hI := fun W => puIn0 s (by omega) W
  rw [h] at hI
  have hJ : ∀ W, Calls Tryd.prog 40 #[.string s, .int .i64 16, .int .i64 16] W fun e w' => e = .returned (.tuple #[.int .u64 n, .nilIface]) ∧ Below W.heap.size W w' := fun W => (hI W).mono fun e w' ⟨he, hb⟩ => ⟨by rw [he]; unfold puV; rw [if_pos rfl], hb⟩
  have HI := Aside0.mk hJ
  clear hI hJ h
  go_enter Tryd.func27, Tryd.ntmps27
  go_wp2_with (go_at_call 40; refine (HI.out _).mono ?_)
  rintro e W1 ⟨rfl, hB⟩
  have HB := Aside0.mk hB
  clear hB
  go_wp2
  go_ret2
  exact ⟨rfl, HB.out⟩

/-- A text without brackets and stars at its ends. -/
def trimB (s : ByteArray) : ByteArray := ⟨(Lib.trimS s.data.toList [91, 42, 93]).toArray⟩
theorem trim (s : ByteArray) (w : World) (hs : s.size ≤ 9223372036854775807) :
    Calls Tryd.prog 26 #[.string s, .string ⟨#[91, 42, 93]⟩] w fun e w' => e = .returned (.string (trimB s)) ∧ Below w.heap.size w w' :=
  Any.strings_Trim_laid Tryd.lays160 (by kernel_rfl) s ⟨#[91, 42, 93]⟩ w hs (by decide) (ascii_of_all (by decide))

/-- A text's pieces between points. -/
def pieces (s : ByteArray) : List ByteArray := Lib.splitB ⟨#[46]⟩ 0 (Lib.countB s ⟨#[46]⟩) s
theorem split (s : ByteArray) (w : World) (hs : s.size < 4294967281) (hG : GW w) :
    Calls Tryd.prog 25 #[.string s, .string ⟨#[46]⟩] w fun e w' => ∃ g, e = .returned (.slice (some ⟨g, 0, none⟩) (pieces s).length (pieces s).length) ∧ w'.heap[g]? = some (.cells ((pieces s).map Value.string).toArray 9 (0, 0)) ∧ Below w.heap.size w w' := by
  obtain ⟨m, hm⟩ := hG.mxl
  have hl : (pieces s).length = Lib.countB s ⟨#[46]⟩ + 1 := Lib.splitB_all ⟨#[46]⟩ (by decide) 0 _ s rfl
  refine (Tryd.strings_Split s ⟨#[46]⟩ m w hs hm (by decide)).mono fun e w' ⟨he, hw⟩ => ⟨w.heap.size, ?_, ?_, ?_⟩
  · rw [hl, he]
  · rw [hw]
    exact blk_new _ _
  · rw [hw]
    exact (Below.refl _ _).alloc (Nat.le_refl _) _

end Go.Proofs.YtmgoncnjagihgaaDoor.GivenT
