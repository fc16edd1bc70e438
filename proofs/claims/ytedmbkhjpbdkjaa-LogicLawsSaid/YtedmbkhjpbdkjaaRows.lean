/-
  No cell of these rows narrows 'for every input' (looked for: loops, veiled, ifaces, maps, wideKeys, modest, calm, conditions, laid).
  DERIVED. THE GIVEN ROWS OF THIS SEAT. 2 by the template 'for every input the law returns true; each argument reads behind the call as it read before'; 0 by the template 'total and deterministic' (their statements: YtedmbkhjpbdkjaaTotals.lean).
  GIVEN WITH THE SEED: the statements are not yours to turn. If you find one false, say at which input.
  Laid BY PROGRAM, IN A SANDBOX (cutbox-rows.mjs): the forced cells as the released guide's own fill.sh prints them over the translation 9db0f9533a836975… (all of the seat's roots in one cut). By AI agents, Wed Nov 11 2026. No macro, syntax, notation, axiom, sorry.
-/
import Derived.Test.YtedmbkhjpbdkjaaChecked
import GoSem.Claim
import GoSem.ClaimJoined
import GoSem.ClaimMapViews
import Derived.JoinedTies
import Derived.KernelRfl
namespace Go.Proofs.Ytedmbkhjpbdkjaa
/- THE CELL 'sum', in the pinned program and in every row, IS THE sha256 OF THE DUMP (.gsa) THAT YtedmbkhjpbdkjaaProg.lean LOADS. Nothing in Lean hashes anything: it is a label: what it is worth is what the hold of that sum in a sandbox is worth. -/
noncomputable def Try.pinned : Pinned := { name := "ytedmbkhjpbdkjaa", sum := "9db0f9533a8369753543d8b6c97f7e0df945ca1b3daf39e45790542937c9c2c4", checked := Try.checked }
namespace Rows
def none {H : Type} : Left H := { results := [], args := [] }

/-- 'umlautlaw12.LogicLaws': WHATEVER THE INPUT: true; the input reads as it did. -/
def logicLawsSpec : ChangeSpec := { name := "logicLaws", fn := fun _ => fun
  | [d1, d2, d3] => { results := [.lit (.bool true)], args := [d1, d2, d3] }
  | _ => none }
def logicLawsRow : OpenClaim := { program := "ytedmbkhjpbdkjaa", sum := "9db0f9533a8369753543d8b6c97f7e0df945ca1b3daf39e45790542937c9c2c4", func := "umlaut/umlautlaw12.LogicLaws", spec := "logicLaws", unfollowed := true, recurses := true, apart := false }
def LogicLawsSaid : Prop := logicLawsRow.holds Try.pinned (OpenSpec.ofChange logicLawsSpec)

/-- ITS FALSE NEIGHBOUR: 'it returns false'. Refute it at one input. -/
def logicLawsWrong : ChangeSpec := { name := "logicLaws", fn := fun _ => fun
  | [d1, d2, d3] => { results := [.lit (.bool false)], args := [d1, d2, d3] }
  | _ => none }
def LogicLawsWrongFalsely : Prop := logicLawsRow.holds Try.pinned (OpenSpec.ofChange logicLawsWrong)

/-- 'umlautlaw12.LogicTests': WHATEVER THE INPUT: true; the input reads as it did. -/
def logicTestsSpec : ChangeSpec := { name := "logicTests", fn := fun _ => fun
  | [d1, d2, d3] => { results := [.lit (.bool true)], args := [d1, d2, d3] }
  | _ => none }
def logicTestsRow : OpenClaim := { program := "ytedmbkhjpbdkjaa", sum := "9db0f9533a8369753543d8b6c97f7e0df945ca1b3daf39e45790542937c9c2c4", func := "umlaut/umlautlaw12.LogicTests", spec := "logicTests", apart := false }
def LogicTestsSaid : Prop := logicTestsRow.holds Try.pinned (OpenSpec.ofChange logicTestsSpec)

/-- ITS FALSE NEIGHBOUR: 'it returns false'. Refute it at one input. -/
def logicTestsWrong : ChangeSpec := { name := "logicTests", fn := fun _ => fun
  | [d1, d2, d3] => { results := [.lit (.bool false)], args := [d1, d2, d3] }
  | _ => none }
def LogicTestsWrongFalsely : Prop := logicTestsRow.holds Try.pinned (OpenSpec.ofChange logicTestsWrong)

/- THE SECOND FORM. 'bulk': how many values and letters a reading holds, each counted each time it is reached (what is shared counts as often as it is met; a slice's spare places count too). A statement '..UptoSaid' is the law's where the arguments, and the package variables that the reading takes, are together of bulk at most 1048576: NARROWER than '..Said'. Prove '..Said' where nothing that the law and all that it calls make is longer than what came in: it says more and counts as full. Else prove '..UptoSaid'. A law counts once. -/
mutual
def uptoBulk {H : Type} : DataW H → Nat
  | .lit (.string bytes) => bytes.length + 1
  | .lit _ => 1
  | .nil => 1
  | .ptr d => uptoBulk d + 1
  | .slice elems spare => uptoBulkAll elems + uptoBulkAll spare + 1
  | .agg parts => uptoBulkAll parts + 1
  | .iface _ d => uptoBulk d + 1
  | .map entries => uptoBulkEntries entries + 1
  | .held _ => 1
def uptoBulkAll {H : Type} : List (DataW H) → Nat
  | [] => 0
  | d :: r => uptoBulk d + uptoBulkAll r
def uptoBulkEntries {H : Type} : List (Lit × DataW H) → Nat
  | [] => 0
  | x :: r => uptoBulkEntry x + uptoBulkEntries r
def uptoBulkEntry {H : Type} : Lit × DataW H → Nat
  | (.string bytes, d) => bytes.length + uptoBulk d + 1
  | (_, d) => uptoBulk d + 1
 end
def uptoSmall : (H : Type) → List (DataW H) → Bool := fun _ ds => decide (uptoBulkAll ds ≤ 1048576)
def OpenSpec.upto (s : _root_.Go.ChangeSpec) : _root_.Go.OpenSpec := { _root_.Go.OpenSpec.ofChange s with cond := some uptoSmall }

/-- 'umlautlaw12.LogicLaws', WHERE WHAT IT READS IS OF BULK AT MOST 1048576: true; the input reads as it did. -/
def logicLawsUptoRow : OpenClaim := { program := "ytedmbkhjpbdkjaa", sum := "9db0f9533a8369753543d8b6c97f7e0df945ca1b3daf39e45790542937c9c2c4", func := "umlaut/umlautlaw12.LogicLaws", spec := "logicLaws", unfollowed := true, recurses := true, apart := false, narrowed := true }
def LogicLawsUptoSaid : Prop := logicLawsUptoRow.holds Try.pinned (OpenSpec.upto logicLawsSpec)

/-- 'umlautlaw12.LogicTests', WHERE WHAT IT READS IS OF BULK AT MOST 1048576: true; the input reads as it did. -/
def logicTestsUptoRow : OpenClaim := { program := "ytedmbkhjpbdkjaa", sum := "9db0f9533a8369753543d8b6c97f7e0df945ca1b3daf39e45790542937c9c2c4", func := "umlaut/umlautlaw12.LogicTests", spec := "logicTests", apart := false, narrowed := true }
def LogicTestsUptoSaid : Prop := logicTestsUptoRow.holds Try.pinned (OpenSpec.upto logicTestsSpec)

end Rows
end Go.Proofs.Ytedmbkhjpbdkjaa
