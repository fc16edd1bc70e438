/-
  The contract of awake, under the wider premise of the law on texts.
-/
import Derived.Test.YtedmbkhjpbdkjaaDoorGivenT
import Derived.Test.YtedmbkhjpbdkjaaDoorXI1
namespace Go.Proofs.YtedmbkhjpbdkjaaDoor.GivenT
open Go.RowKit Go.Proofs.YtedmbkhjpbdkjaaDoorW.PrintWords Go.Proofs.YtedmbkhjpbdkjaaDoorW.PrintLast
def umlautlaw1_awake.f := XI.umlautlaw1_awake.f
theorem umlautlaw1_awake.mono : ∀ k, LeO (umlautlaw1_awake.f k) (umlautlaw1_awake.f (k + 1)) := XI.umlautlaw1_awake.mono
theorem umlautlaw1_awake.calls (k : Nat) (r : Bool) (w : World) (hG0 : GW w) (h : umlautlaw1_awake.f k = some r) :
    Calls Tryd.prog 19 #[] w fun e w' => e = .returned (.bool r) ∧ Below w.heap.size w w' :=
  XI.umlautlaw1_awake.calls k r w hG0.pow h
end Go.Proofs.YtedmbkhjpbdkjaaDoor.GivenT
