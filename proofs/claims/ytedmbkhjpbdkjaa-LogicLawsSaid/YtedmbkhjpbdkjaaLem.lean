/-
  Small laws that the printed walks of this seat use: a write leaves a cell where one was; a call of a function that a variable holds.
-/
import Derived.Laws.Entries
import Derived.Tactics
import Derived.Test.YtedmbkhjpbdkjaaWLast
namespace Go.Proofs.Ytedmbkhjpbdkjaa.Lem
open Go.Proofs.YtedmbkhjpbdkjaaW.PrintLast

/-- A write leaves a cell where one was. -/
@[go_sem] theorem isSome_setCell (w : World) (p q : Addr) (x : Value) : ((w.setCell p x).cell? q).isSome = (w.cell? q).isSome := by
  by_cases h : p = q
  · subst h
    simp only [World.setCell, World.cell?, Array.getElem?_modify, if_true]
    cases hh : w.heap[p.block]? with
    | none => simp
    | some o => cases o <;> cases p.spot <;> simp [Array.getElem?_setIfInBounds] <;> grind
  · rw [World.cell?_setCell_other w p q x h]

/-- A call of a function that a variable holds. -/
theorem goesT_ {P : Program} {ops : Array Oper} {Q : Exit → Act → World → Prop} {oi : Oper} {N : Option Tmp} {a : Act} {w : World} {K : Act → World → Prop} {f : FuncId} {fn : Func} {t : Tmp} {as : Array Operand} {ts : Array TypeId}
    (hf : P.funcs[f]? = some fn) (hname : (fn.name == "runtime.NumGoroutine") = false) (hb : fn.body.isSome = true) (args : Array Value)
    (hw : Region.wanted oi (yielded ops a.tmps) = true) (hN : oi.dst = N) (hop : oi.op = .call { callee := .value (.tmp t), args := as, argTypes := ts }) (hargs : as.map a.eval = args) (hcal : a.eval (.tmp t) = a.eval (.func f))
    (h : Calls P f args w fun e w' => ∃ v, e = .returned v ∧ K (a.put N v) w') : if Region.wanted oi (yielded ops a.tmps) = true then Oper.wp P oi a w K Q else K (a.put N undef) w := by
  refine call_ f args hw hN ?_ h
  have he := enters_ hf hname hb args w
  unfold execOp
  simp only [hop]
  simp [resolve, Deferred.ofValue, invoke, hcal, hargs]
  simp [Act.eval, he]

end Go.Proofs.Ytedmbkhjpbdkjaa.Lem
