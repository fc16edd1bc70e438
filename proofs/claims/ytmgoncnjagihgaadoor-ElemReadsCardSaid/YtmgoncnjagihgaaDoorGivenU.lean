/-
  Contracts of the first two laws' functions, under the wider premise of the laws that read texts.
-/
import Derived.Test.YtmgoncnjagihgaaDoorParse
import Derived.Test.YtmgoncnjagihgaaDoorXA3
namespace Go.Proofs.YtmgoncnjagihgaaDoor.GivenT
open Go.RowKit Go.Proofs.YtmgoncnjagihgaaDoorW.PrintWords Go.Proofs.YtmgoncnjagihgaaDoorW.PrintLast
def umlautlaw3_awake.f := XA.umlautlaw3_awake.f
theorem umlautlaw3_awake.mono : ∀ k, LeO (umlautlaw3_awake.f k) (umlautlaw3_awake.f (k + 1)) := XA.umlautlaw3_awake.mono
theorem umlautlaw3_awake.calls (k : Nat) (r : Bool) (w : World) (hG0 : GW w) (h : umlautlaw3_awake.f k = some r) :
    Calls Tryd.prog 10 #[] w fun e w' => e = .returned (.bool r) ∧ Below w.heap.size w w' :=
  XA.umlautlaw3_awake.calls k r w hG0.deb h
def elem_Elem_Text.f := XA.elem_Elem_Text.f
theorem elem_Elem_Text.mono : ∀ a0 k, LeO (elem_Elem_Text.f k a0) (elem_Elem_Text.f (k + 1) a0) := XA.elem_Elem_Text.mono
theorem elem_Elem_Text.calls (k : Nat) (a0 : Int) (r : ByteArray) (w : World) (hG0 : GW w) (h : elem_Elem_Text.f k a0 = some r) :
    Calls Tryd.prog 16 #[.int .u32 a0] w fun e w' => e = .returned (.string r) ∧ Below w.heap.size w w' :=
  XA.elem_Elem_Text.calls k a0 r w hG0.deb h
end Go.Proofs.YtmgoncnjagihgaaDoor.GivenT
