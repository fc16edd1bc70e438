/-
  What the library's text of a small number to the base 16 is: first, how many noughts end the number 16 in its binary form (math/bits.TrailingZeros). The premise: the table of de Bruijn reads as the program lays it.
-/
import Derived.Test.YtmgoncnjagihgaaDoorProg
import Derived.Test.YtmgoncnjagihgaaDoorWWords
import Derived.Test.YtmgoncnjagihgaaDoorWLast
import Derived.Test.YtmgoncnjagihgaaDoorWMore
import Derived.Test.YtmgoncnjagihgaaDoorLem
import Derived.Lib.SmallJoins
import Derived.Lib.AppendIntMem
import Derived.Lib.LaidTab
import Derived.Laws.BytesArg
import Derived.LoopN
import Derived.WalkKit
namespace Go.Proofs.YtmgoncnjagihgaaDoor.Given
open Go.RowKit Go.Proofs.YtmgoncnjagihgaaDoorW.PrintWords Go.Proofs.YtmgoncnjagihgaaDoorW.PrintLast Go.Proofs.YtmgoncnjagihgaaDoorW.PrintMore

def deb64 : List Int := [0, 1, 56, 2, 57, 49, 28, 3, 61, 58, 42, 50, 38, 29, 17, 4, 62, 47, 59, 36, 45, 43, 51, 22, 53, 39, 33, 30, 24, 18, 12, 5, 63, 55, 48, 27, 60, 41, 37, 16, 46, 35, 44, 21, 52, 32, 23, 11, 54, 26, 40, 15, 34, 20, 31, 10, 25, 14, 19, 9, 13, 8, 7, 6]

/-- The premise on the world. -/
def GW (w : World) : Prop := Lib.TabIs Tryd.prog w "math/bits.deBruijn64tab" .u8 deb64

theorem gDeb : Tryd.prog.globalNamed "math/bits.deBruijn64tab" = some 7 := by kernel_rfl

theorem GW.below {w w' : World} (h : GW w) (hb : Below w.heap.size w w') : GW w' :=
  Joins.tab_stays gDeb h hb (Nat.le_refl _)

theorem GW.at4 {w : World} (h : GW w) : w.cell? ⟨7, 15, none⟩ = some (.int .u8 4) :=
  (Lib.TabIs.cell h gDeb 15 (by decide)).trans rfl

theorem tz64 (w : World) (hG0 : GW w) :
    Calls Tryd.prog 93 #[.int .u64 16] w fun e w' => e = .returned (.int .i64 4) ∧ w' = w := by
  have hc := hG0.at4
  have hi : IntKind.u64.wrap (bits BinOp.and IntKind.u64 16 (IntKind.u64.wrap (-16)) * 285870213051353865) / 288230376151711744 = 15 := by decide +kernel
  clear hG0
  go_enter Tryd.func93, Tryd.ntmps93
  go_wp2
  go_ret
  exact ⟨rfl, rfl⟩

theorem tz (w : World) (hG0 : GW w) :
    Calls Tryd.prog 82 #[.int .u64 16] w fun e w' => e = .returned (.int .i64 4) ∧ w' = w := by
  have HG := Aside0.mk hG0
  clear hG0
  go_enter Tryd.func82, Tryd.ntmps82
  go_wp2_with (go_at_call 93; refine (tz64 _ HG.out).mono ?_; rintro e w' ⟨rfl, rfl⟩)
  go_ret
  exact ⟨rfl, rfl⟩

end Go.Proofs.YtmgoncnjagihgaaDoor.Given
