/-
  What ints.Parse answers, over the library's contracts of strings.TrimPrefix, strings.Trim and strconv.ParseInt: the number that a text tells, or why it tells none. The premise on the world: the table of powers of ten and the two errors of strconv lie as the program lays them.
-/
import Derived.Test.YtedmbkhjpbdkjaaDoorGiven
import Derived.Shelf.Strings.SlTrimAscii
import Derived.WalkSpells
import Derived.WalkLawsBesides
import Derived.BigQuiet
import Derived.Deep.QuietTactic
namespace Go.Proofs.YtedmbkhjpbdkjaaDoor.GivenT
open Go.RowKit Go.Proofs.YtedmbkhjpbdkjaaDoorW.PrintWords

structure GW (w : World) : Prop where
  pow : Given.GW w
  syn : ∃ tp p, w.var? Tryd.prog "strconv.ErrSyntax" = some #[.iface tp p]
  ran : ∃ tp p, w.var? Tryd.prog "strconv.ErrRange" = some #[.iface tp p]

theorem var_below {w w' : World} {n : String} {g : Nat} {x : Array Value} (hg : Tryd.prog.globalNamed n = some g) (h : w.var? Tryd.prog n = some x) (hb : Below w.heap.size w w') : w'.var? Tryd.prog n = some x := by
  unfold World.var? at *
  rw [hg] at h ⊢
  simp only [Option.bind_some] at h ⊢
  have hlt : g < w.heap.size := by
    rcases Nat.lt_or_ge g w.heap.size with h1 | h1
    · exact h1
    · rw [Array.getElem?_eq_none h1] at h
      cases h
  rw [hb.block g hlt]
  exact h
theorem gSyn : Tryd.prog.globalNamed "strconv.ErrSyntax" = some 1 := by kernel_rfl
theorem gRan : Tryd.prog.globalNamed "strconv.ErrRange" = some 2 := by kernel_rfl
theorem GW.below {w w' : World} (h : GW w) (hb : Below w.heap.size w w') : GW w' :=
  ⟨h.pow.below hb, by obtain ⟨tp, p, e⟩ := h.syn; exact ⟨tp, p, var_below gSyn e hb⟩, by obtain ⟨tp, p, e⟩ := h.ran; exact ⟨tp, p, var_below gRan e hb⟩⟩

def ints_Text.f := Given.ints_Text.f
theorem ints_Text.calls (a0 : Int) (r : ByteArray) (w : World) (hG0 : GW w) (h : ints_Text.f a0 = some r) :
    Calls Tryd.prog 41 #[.int .i64 a0] w fun e w' => e = .returned (.string r) ∧ Below w.heap.size w w' :=
  Given.ints_Text.calls a0 r w hG0.pow h

def digs : List UInt8 := [48, 49, 50, 51, 52, 53, 54, 55, 56, 57]
def body (s : List UInt8) : List UInt8 := Lib.trimPrefix s [45]
def parse (s : List UInt8) : Int × Int :=
  if body s = [] then (0, 3) else if Lib.trimS (body s) digs ≠ [] then (0, 3) else
  match Lib.parseIntB 64 s with
  | .ok v => (v, 0)
  | _ => (0, 17)
def ints_Parse.f (s : ByteArray) : Option (Int × Int) := if s.size ≤ 140737488351232 then some (parse s.data.toList) else none

theorem trim (s : ByteArray) (w : World) (hs : s.size ≤ 9223372036854775807) :
    Calls Tryd.prog 52 #[.string s, .string ⟨#[48, 49, 50, 51, 52, 53, 54, 55, 56, 57]⟩] w fun e w' => e = .returned (.string ⟨(Lib.trimS s.data.toList digs).toArray⟩) ∧ Below w.heap.size w w' :=
  Any.strings_Trim_laid Tryd.lays160 (by kernel_rfl) s ⟨#[48, 49, 50, 51, 52, 53, 54, 55, 56, 57]⟩ w hs (by decide) (ascii_of_all (by decide))

set_option maxHeartbeats 1000000 in
theorem ints_Parse.calls (a0 : ByteArray) (r1 r2 : Int) (w : World) (hG0 : GW w) (h : ints_Parse.f a0 = some (r1, r2)) :
    Calls Tryd.prog 45 #[.string a0] w fun e w' => e = .returned (.tuple #[.int .i64 r1, .int .i64 r2]) ∧ Below w.heap.size w w' := by
  unfold ints_Parse.f at h
  split at h
  · rename_i hsz
    have h := Option.some.inj h
    have HG := Aside0.mk hG0
    clear hG0
    have HT := fun W => Tryd.strings_TrimPrefix a0 ⟨#[45]⟩ W
    have hb : (Lib.trimPrefix a0.data.toList ([45] : List UInt8)) = body a0.data.toList := rfl
    simp only [hb] at HT
    unfold parse at h
    have hlen : (body a0.data.toList).length ≤ 140737488351232 := by
      have : (body a0.data.toList).length ≤ a0.data.toList.length := by
        unfold body Lib.trimPrefix
        split
        · simp
        · exact Nat.le_refl _
      rw [Array.length_toList] at this
      exact Nat.le_trans this hsz
    generalize body a0.data.toList = d at *
    have HT' : ∀ W, Calls Tryd.prog 51 #[.string a0, .string ⟨#[45]⟩] W fun e w' => e = .returned (.string ⟨d.toArray⟩) ∧ W = w' := fun W => (HT W).mono fun _ _ h => ⟨h.1, h.2.symm⟩
    clear HT hb
    have hlr : d.length ≤ 9223372036854775807 := by omega
    by_cases h0 : d = []
    · subst h0
      rw [if_pos rfl] at h
      obtain ⟨rfl, rfl⟩ := Prod.mk.inj h
      clear h hlr hlen
      have H := Aside0.mk HT'
      clear HT'
      go_enter Tryd.func45, Tryd.ntmps45
      go_wp2_with (go_at_call 51; refine (H.out _).mono ?_; rintro e w' ⟨rfl, rfl⟩)
      go_ret2
      exact ⟨rfl, Below.refl _ _⟩
    · rw [if_neg h0] at h
      have HR := fun W => trim ⟨d.toArray⟩ W hlr
      have e0 : (⟨d.toArray⟩ : ByteArray).data.toList = d := rfl
      rw [e0] at HR
      generalize Lib.trimS d digs = t at *
      have h1 : d.isEmpty = false := by cases d <;> simp_all
      have H := Aside0.mk HT'
      have H2 := Aside0.mk HR
      clear HT' HR hlr hlen e0
      have h2 := Aside0.mk h0
      clear h0
      by_cases hte : t = []
      · subst hte
        rw [if_neg (by simp)] at h
        have hpi : ∀ W : World, GW W → Calls Tryd.prog 53 #[.string a0, .int .i64 10, .int .i64 64] W fun e w' =>
            ((∃ n x, e = .returned (.tuple #[.int .i64 n, .iface 88 x]) ∧ r1 = 0 ∧ r2 = 17) ∨ (e = .returned (.tuple #[.int .i64 r1, .nilIface]) ∧ r2 = 0)) ∧ Below W.heap.size W w' := by
          intro W hW
          cases hp : Lib.parseIntB 64 a0.data.toList
          · rename_i v
            rw [hp] at h
            obtain ⟨rfl, rfl⟩ := Prod.mk.inj h
            refine (Tryd.strconv_ParseInt_10_at64_ok a0 (by omega) v hp W).mono ?_
            rintro e w' ⟨rfl, hw⟩
            refine ⟨.inr ⟨rfl, rfl⟩, ?_⟩
            rcases hw with rfl | ⟨t, rfl⟩
            · exact Below.refl _ _
            · exact bytes_below (Below.refl _ _) (Nat.le_refl _) _ _
          · rw [hp] at h
            obtain ⟨rfl, rfl⟩ := Prod.mk.inj h
            obtain ⟨tp, p, hv⟩ := hW.syn
            refine (Any.strconv_ParseInt_10_at64_syntax_var Tryd.laysC174 a0 (by omega) hp tp p W hv).mono ?_
            rintro e w' ⟨N, rfl, _, _, hB⟩
            exact ⟨.inl ⟨_, _, rfl, rfl, rfl⟩, hB⟩
          · rw [hp] at h
            obtain ⟨rfl, rfl⟩ := Prod.mk.inj h
            obtain ⟨tp, p, hv⟩ := hW.ran
            refine (Tryd.strconv_ParseInt_10_at64_range_var a0 (by omega) hp tp p W hv).mono ?_
            rintro e w' ⟨N, rfl, _, _, hB⟩
            exact ⟨.inl ⟨_, _, rfl, rfl, rfl⟩, hB⟩
        clear h
        have H3 := Aside0.mk hpi
        clear hpi
        go_enter Tryd.func45, Tryd.ntmps45
        go_wp2_with (first | (go_at_call 51; refine (H.out _).mono ?_; rintro e w' ⟨rfl, rfl⟩) | (go_at_call 52; refine (H2.out _).mono ?_; rintro e w' ⟨rfl, hB⟩))
        have hG := HG.out.below hB
        refine (H3.out _ hG).mono ?_
        rintro e w2 ⟨⟨n, x, rfl, rfl, rfl⟩ | ⟨rfl, rfl⟩, hB2⟩
        · go_wp2
          go_ret2
          exact ⟨rfl, below_then hB hB.size hB2⟩
        · go_wp2
          go_ret2
          exact ⟨rfl, below_then hB hB.size hB2⟩
      · rw [if_pos hte] at h
        obtain ⟨rfl, rfl⟩ := Prod.mk.inj h
        have h4 : t.isEmpty = false := by cases t <;> simp_all
        have h5 := Aside0.mk hte
        clear hte h
        go_enter Tryd.func45, Tryd.ntmps45
        go_wp2_with (first | (go_at_call 51; refine (H.out _).mono ?_; rintro e w' ⟨rfl, rfl⟩) | (go_at_call 52; refine (H2.out _).mono ?_; rintro e w' ⟨rfl, hB⟩))
        go_ret2
        exact ⟨rfl, hB⟩
  · cases h
end Go.Proofs.YtedmbkhjpbdkjaaDoor.GivenT
