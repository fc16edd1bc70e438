/-
  What ints.Text answers, over the library's contract of strconv.FormatInt: the number's decimal digits. The premise: the table of powers of ten reads as the program lays it.
-/
import Derived.Test.YtedmbkhjpbdkjaaDoorShelf
import Derived.Test.YtedmbkhjpbdkjaaDoorWWords
import Derived.Lib.SmallJoins
import Derived.Lib.AppendIntMem
import Derived.WalkKit
namespace Go.Proofs.YtedmbkhjpbdkjaaDoor.Given
open Go.RowKit Go.Proofs.YtedmbkhjpbdkjaaDoorW.PrintWords

/-- The premise on the world. -/
def GW (w : World) : Prop := Lib.TabIs Tryd.prog w "internal/strconv.uint64pow10" .u64 Lib.pow10Tab

theorem gPow : Tryd.prog.globalNamed "internal/strconv.uint64pow10" = some 0 := by kernel_rfl

theorem GW.below {w w' : World} (h : GW w) (hb : Below w.heap.size w w') : GW w' :=
  Joins.tab_stays gPow h hb (Nat.le_refl _)

theorem grow_below (w : World) (k : Nat) (os : Array Obj) : Below w.heap.size w (Sort.grow (w.drewN k) os) :=
  Lib.below_grow _ w (Nat.le_refl _) k os

def ints_Text.f (a0 : Int) : Option ByteArray :=
  if -9223372036854775808 ≤ a0 ∧ a0 ≤ 9223372036854775807 then some ⟨(Lib.itoa a0).toArray⟩ else none

set_option maxHeartbeats 1000000 in
theorem ints_Text.calls (a0 : Int) (r : ByteArray) (w : World) (hG0 : GW w) (h : ints_Text.f a0 = some r) :
    Calls Tryd.prog 41 #[.int .i64 a0] w fun e w' => e = .returned (.string r) ∧ Below w.heap.size w w' := by
  unfold ints_Text.f at h
  split at h
  · rename_i hb
    obtain ⟨h1, h2⟩ := hb
    obtain rfl := Option.some.inj h
    have HG := Aside0.mk hG0
    clear hG0 h
    go_enter Tryd.func41, Tryd.ntmps41
    go_wp2_with (go_at_call 50; refine (Tryd.strconv_FormatInt_10 a0 h1 h2 _ HG.out).mono ?_; rintro e w' ⟨rfl, k, os, rfl⟩)
    go_ret
    exact ⟨rfl, grow_below _ _ _⟩
  · cases h
end Go.Proofs.YtedmbkhjpbdkjaaDoor.Given
