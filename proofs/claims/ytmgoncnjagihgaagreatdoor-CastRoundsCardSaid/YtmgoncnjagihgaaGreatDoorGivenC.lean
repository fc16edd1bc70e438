/-
  What the library-bound functions under cast answer: ints.Text, ints.Parse, strings.Trim at an ASCII cutset, utf8.DecodeRuneInString. The premise on the world: the tables of powers of ten and of UTF-8 and the two errors of strconv lie as the program lays them.
-/
import Derived.Test.YtmgoncnjagihgaaGreatDoorShelf
import Derived.Test.YtmgoncnjagihgaaGreatDoorWWords
import Derived.Lib.SmallJoins
import Derived.Lib.AppendIntMem
import Derived.WalkKit
import Derived.Shelf.Strings.SlTrimAscii
import Derived.WalkSpells
import Derived.WalkLawsBesides
import Derived.BigQuiet
import Derived.Deep.QuietTactic
namespace Go.Proofs.YtmgoncnjagihgaaGreatDoor.Given
open Go.RowKit Go.Proofs.YtmgoncnjagihgaaGreatDoorW.PrintWords

/-- The premise on the world. -/
structure GW (w : World) : Prop where
  pow : Lib.TabIs Tryz.prog w "internal/strconv.uint64pow10" .u64 Lib.pow10Tab
  syn : ∃ tp p, w.var? Tryz.prog "strconv.ErrSyntax" = some #[.iface tp p]
  ran : ∃ tp p, w.var? Tryz.prog "strconv.ErrRange" = some #[.iface tp p]
  utf : Lib.Utf8Tabs 2 3 w

theorem gPow : Tryz.prog.globalNamed "internal/strconv.uint64pow10" = some 4 := by kernel_rfl
theorem var_below {w w' : World} {n : String} {g : Nat} {x : Array Value} (hg : Tryz.prog.globalNamed n = some g) (h : w.var? Tryz.prog n = some x) (hb : Below w.heap.size w w') : w'.var? Tryz.prog n = some x := by
  unfold World.var? at *
  rw [hg] at h ⊢
  simp only [Option.bind_some] at h ⊢
  have hlt : g < w.heap.size := by
    rcases Nat.lt_or_ge g w.heap.size with h1 | h1
    · exact h1
    · rw [Array.getElem?_eq_none h1] at h
      cases h
  rw [hb.block g hlt]
  exact h
theorem gSyn : Tryz.prog.globalNamed "strconv.ErrSyntax" = some 0 := by kernel_rfl
theorem gRan : Tryz.prog.globalNamed "strconv.ErrRange" = some 1 := by kernel_rfl
theorem GW.below {w w' : World} (h : GW w) (hb : Below w.heap.size w w') : GW w' :=
  ⟨Joins.tab_stays gPow h.pow hb (Nat.le_refl _), by obtain ⟨tp, p, e⟩ := h.syn; exact ⟨tp, p, var_below gSyn e hb⟩, by obtain ⟨tp, p, e⟩ := h.ran; exact ⟨tp, p, var_below gRan e hb⟩,
    ⟨fun c hc => pw_cell_below hb (h.utf.1 c hc), fun i hi => ⟨pw_cell_below hb (h.utf.2 i hi).1, pw_cell_below hb (h.utf.2 i hi).2⟩⟩⟩

theorem grow_below (w : World) (k : Nat) (os : Array Obj) : Below w.heap.size w (Sort.grow (w.drewN k) os) :=
  Lib.below_grow _ w (Nat.le_refl _) k os

def ints_Text.f (a0 : Int) : Option ByteArray :=
  if -9223372036854775808 ≤ a0 ∧ a0 ≤ 9223372036854775807 then some ⟨(Lib.itoa a0).toArray⟩ else none

set_option maxHeartbeats 1000000 in
theorem ints_Text.calls (a0 : Int) (r : ByteArray) (w : World) (hG0 : GW w) (h : ints_Text.f a0 = some r) :
    Calls Tryz.prog 51 #[.int .i64 a0] w fun e w' => e = .returned (.string r) ∧ Below w.heap.size w w' := by
  unfold ints_Text.f at h
  split at h
  · rename_i hb
    obtain ⟨h1, h2⟩ := hb
    obtain rfl := Option.some.inj h
    have HG := Aside0.mk hG0
    clear hG0 h
    go_enter Tryz.func51, Tryz.ntmps51
    go_wp2_with (go_at_call 67; refine (Tryz.strconv_FormatInt_10 a0 h1 h2 _ HG.out.pow).mono ?_; rintro e w' ⟨rfl, k, os, rfl⟩)
    go_ret
    exact ⟨rfl, grow_below _ _ _⟩
  · cases h
def digs : List UInt8 := [48, 49, 50, 51, 52, 53, 54, 55, 56, 57]
def body (s : List UInt8) : List UInt8 := Lib.trimPrefix s [45]
def parse (s : List UInt8) : Int × Int :=
  if body s = [] then (0, 3) else if Lib.trimS (body s) digs ≠ [] then (0, 3) else
  match Lib.parseIntB 64 s with
  | .ok v => (v, 0)
  | _ => (0, 17)
def ints_Parse.f (s : ByteArray) : Option (Int × Int) := if s.size ≤ 140737488351232 then some (parse s.data.toList) else none

theorem trim (s : ByteArray) (w : World) (hs : s.size ≤ 9223372036854775807) :
    Calls Tryz.prog 36 #[.string s, .string ⟨#[48, 49, 50, 51, 52, 53, 54, 55, 56, 57]⟩] w fun e w' => e = .returned (.string ⟨(Lib.trimS s.data.toList digs).toArray⟩) ∧ Below w.heap.size w w' :=
  Any.strings_Trim_laid Tryz.lays160 (by kernel_rfl) s ⟨#[48, 49, 50, 51, 52, 53, 54, 55, 56, 57]⟩ w hs (by decide) (ascii_of_all (by decide))

set_option maxHeartbeats 1000000 in
theorem ints_Parse.calls (a0 : ByteArray) (r1 r2 : Int) (w : World) (hG0 : GW w) (h : ints_Parse.f a0 = some (r1, r2)) :
    Calls Tryz.prog 35 #[.string a0] w fun e w' => e = .returned (.tuple #[.int .i64 r1, .int .i64 r2]) ∧ Below w.heap.size w w' := by
  unfold ints_Parse.f at h
  split at h
  · rename_i hsz
    have h := Option.some.inj h
    have HG := Aside0.mk hG0
    clear hG0
    have HT := fun W => Tryz.strings_TrimPrefix a0 ⟨#[45]⟩ W
    have hb : (Lib.trimPrefix a0.data.toList ([45] : List UInt8)) = body a0.data.toList := rfl
    simp only [hb] at HT
    unfold parse at h
    have hlen : (body a0.data.toList).length ≤ 140737488351232 := by
      have : (body a0.data.toList).length ≤ a0.data.toList.length := by
        unfold body Lib.trimPrefix
        split
        · simp
        · exact Nat.le_refl _
      rw [Array.length_toList] at this
      exact Nat.le_trans this hsz
    generalize body a0.data.toList = d at *
    have HT' : ∀ W, Calls Tryz.prog 53 #[.string a0, .string ⟨#[45]⟩] W fun e w' => e = .returned (.string ⟨d.toArray⟩) ∧ W = w' := fun W => (HT W).mono fun _ _ h => ⟨h.1, h.2.symm⟩
    clear HT hb
    have hlr : d.length ≤ 9223372036854775807 := by omega
    by_cases h0 : d = []
    · subst h0
      rw [if_pos rfl] at h
      obtain ⟨rfl, rfl⟩ := Prod.mk.inj h
      clear h hlr hlen
      have H := Aside0.mk HT'
      clear HT'
      go_enter Tryz.func35, Tryz.ntmps35
      go_wp2_with (go_at_call 53; refine (H.out _).mono ?_; rintro e w' ⟨rfl, rfl⟩)
      go_ret2
      exact ⟨rfl, Below.refl _ _⟩
    · rw [if_neg h0] at h
      have HR := fun W => trim ⟨d.toArray⟩ W hlr
      have e0 : (⟨d.toArray⟩ : ByteArray).data.toList = d := rfl
      rw [e0] at HR
      generalize Lib.trimS d digs = t at *
      have h1 : d.isEmpty = false := by cases d <;> simp_all
      have H := Aside0.mk HT'
      have H2 := Aside0.mk HR
      clear HT' HR hlr hlen e0
      have h2 := Aside0.mk h0
      clear h0
      by_cases hte : t = []
      · subst hte
        rw [if_neg (by simp)] at h
        have hpi : ∀ W : World, GW W → Calls Tryz.prog 54 #[.string a0, .int .i64 10, .int .i64 64] W fun e w' =>
            ((∃ n x, e = .returned (.tuple #[.int .i64 n, .iface 109 x]) ∧ r1 = 0 ∧ r2 = 17) ∨ (e = .returned (.tuple #[.int .i64 r1, .nilIface]) ∧ r2 = 0)) ∧ Below W.heap.size W w' := by
          intro W hW
          cases hp : Lib.parseIntB 64 a0.data.toList
          · rename_i v
            rw [hp] at h
            obtain ⟨rfl, rfl⟩ := Prod.mk.inj h
            refine (Tryz.strconv_ParseInt_10_at64_ok a0 (by omega) v hp W).mono ?_
            rintro e w' ⟨rfl, hw⟩
            refine ⟨.inr ⟨rfl, rfl⟩, ?_⟩
            rcases hw with rfl | ⟨t, rfl⟩
            · exact Below.refl _ _
            · exact bytes_below (Below.refl _ _) (Nat.le_refl _) _ _
          · rw [hp] at h
            obtain ⟨rfl, rfl⟩ := Prod.mk.inj h
            obtain ⟨tp, p, hv⟩ := hW.syn
            refine (Any.strconv_ParseInt_10_at64_syntax_var Tryz.laysC174 a0 (by omega) hp tp p W hv).mono ?_
            rintro e w' ⟨N, rfl, _, _, hB⟩
            exact ⟨.inl ⟨_, _, rfl, rfl, rfl⟩, hB⟩
          · rw [hp] at h
            obtain ⟨rfl, rfl⟩ := Prod.mk.inj h
            obtain ⟨tp, p, hv⟩ := hW.ran
            refine (Tryz.strconv_ParseInt_10_at64_range_var a0 (by omega) hp tp p W hv).mono ?_
            rintro e w' ⟨N, rfl, _, _, hB⟩
            exact ⟨.inl ⟨_, _, rfl, rfl, rfl⟩, hB⟩
        clear h
        have H3 := Aside0.mk hpi
        clear hpi
        go_enter Tryz.func35, Tryz.ntmps35
        go_wp2_with (first | (go_at_call 53; refine (H.out _).mono ?_; rintro e w' ⟨rfl, rfl⟩) | (go_at_call 36; refine (H2.out _).mono ?_; rintro e w' ⟨rfl, hB⟩))
        have hG := HG.out.below hB
        refine (H3.out _ hG).mono ?_
        rintro e w2 ⟨⟨n, x, rfl, rfl, rfl⟩ | ⟨rfl, rfl⟩, hB2⟩
        · go_wp2
          go_ret2
          exact ⟨rfl, below_then hB hB.size hB2⟩
        · go_wp2
          go_ret2
          exact ⟨rfl, below_then hB hB.size hB2⟩
      · rw [if_pos hte] at h
        obtain ⟨rfl, rfl⟩ := Prod.mk.inj h
        have h4 : t.isEmpty = false := by cases t <;> simp_all
        have h5 := Aside0.mk hte
        clear hte h
        go_enter Tryz.func35, Tryz.ntmps35
        go_wp2_with (first | (go_at_call 53; refine (H.out _).mono ?_; rintro e w' ⟨rfl, rfl⟩) | (go_at_call 36; refine (H2.out _).mono ?_; rintro e w' ⟨rfl, hB⟩))
        go_ret2
        exact ⟨rfl, hB⟩
  · cases h

/-- strings.Trim at an ASCII cutset. -/
def strings_Trim.f (s c : ByteArray) : Option ByteArray :=
  if s.size ≤ 9223372036854775807 ∧ c.size < 4294967281 ∧ c.data.toList.all (fun b => decide (b.toNat < 128)) = true then some ⟨(Lib.trimS s.data.toList c.data.toList).toArray⟩ else none
theorem strings_Trim.calls (a0 a1 : ByteArray) (r : ByteArray) (w : World) (h : strings_Trim.f a0 a1 = some r) :
    Calls Tryz.prog 36 #[.string a0, .string a1] w fun e w' => e = .returned (.string r) ∧ Below w.heap.size w w' := by
  unfold strings_Trim.f at h
  split at h
  · rename_i hb
    obtain rfl := Option.some.inj h
    exact Any.strings_Trim_laid Tryz.lays160 (by kernel_rfl) a0 a1 w hb.1 hb.2.1 (ascii_of_all hb.2.2)
  · cases h

/-- (strings.ReplaceAll: these laws never come to it.) -/
def strings_ReplaceAll.f (_ _ _ : ByteArray) : Option ByteArray := none
theorem strings_ReplaceAll.calls (a0 a1 a2 : ByteArray) (r : ByteArray) (w : World) (h : strings_ReplaceAll.f a0 a1 a2 = some r) :
    Calls Tryz.prog 52 #[.string a0, .string a1, .string a2] w fun e w' => e = .returned (.string r) ∧ Below w.heap.size w w' := by
  cases h

/-- utf8.RuneCountInString. -/
def utf8_RuneCountInString.f (s : ByteArray) : Option Int := if s.size < 9223372036854775807 then some (Lib.runeCount s) else none
theorem iter_below (w : World) (s : ByteArray) (pos : Nat) : Below w.heap.size w (w.iter s pos) := (Below.refl _ _).alloc (Nat.le_refl _) _
theorem utf8_RuneCountInString.calls (a0 : ByteArray) (r : Int) (w : World) (h : utf8_RuneCountInString.f a0 = some r) :
    Calls Tryz.prog 47 #[.string a0] w fun e w' => e = .returned (.int .i64 r) ∧ Below w.heap.size w w' := by
  unfold utf8_RuneCountInString.f at h
  split at h
  · rename_i hs
    obtain rfl := Option.some.inj h
    refine (Tryz.utf8_RuneCountInString a0 w hs).mono fun e w' ⟨he, pos, hw⟩ => ⟨he, ?_⟩
    rw [hw]
    exact iter_below _ _ _
  · cases h

/-- utf8.DecodeRuneInString. -/
def utf8_DecodeRuneInString.f (s : ByteArray) : Option (Int × Int) := some ((Lib.decodeGo s).1, (Lib.decodeGo s).2)
theorem utf8_DecodeRuneInString.calls (a0 : ByteArray) (r1 r2 : Int) (w : World) (hG0 : GW w) (h : utf8_DecodeRuneInString.f a0 = some (r1, r2)) :
    Calls Tryz.prog 73 #[.string a0] w fun e w' => e = .returned (.tuple #[.int .i32 r1, .int .i64 r2]) ∧ Below w.heap.size w w' := by
  obtain ⟨h1, h2⟩ := Prod.mk.inj (Option.some.inj h)
  rw [← h1, ← h2]
  exact Tryz.utf8_DecodeRuneInString a0 w hG0.utf

end Go.Proofs.YtmgoncnjagihgaaGreatDoor.Given
