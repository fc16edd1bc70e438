/-
  Small laws that the printed walks of this seat use: a write leaves a cell where one was; a call of a function that a variable holds.
-/
import Derived.Laws.Entries
import Derived.Tactics
import Derived.Test.YtmgoncnjagihgaaGreatDoorWLast
import Derived.Test.YtmgoncnjagihgaaGreatDoorWWords
import Derived.Laws.BytesArg
namespace Go.Proofs.YtmgoncnjagihgaaGreatDoor.Lem
open Go.Proofs.YtmgoncnjagihgaaGreatDoorW.PrintLast

/-- A write leaves a cell where one was. -/
@[go_sem] theorem isSome_setCell (w : World) (p q : Addr) (x : Value) : ((w.setCell p x).cell? q).isSome = (w.cell? q).isSome := by
  by_cases h : p = q
  · subst h
    simp only [World.setCell, World.cell?, Array.getElem?_modify, if_true]
    cases hh : w.heap[p.block]? with
    | none => simp
    | some o => cases o <;> cases p.spot <;> simp [Array.getElem?_setIfInBounds] <;> grind
  · rw [World.cell?_setCell_other w p q x h]

/-- A call of a function that a variable holds. -/
theorem goesT_ {P : Program} {ops : Array Oper} {Q : Exit → Act → World → Prop} {oi : Oper} {N : Option Tmp} {a : Act} {w : World} {K : Act → World → Prop} {f : FuncId} {fn : Func} {t : Tmp} {as : Array Operand} {ts : Array TypeId}
    (hf : P.funcs[f]? = some fn) (hname : (fn.name == "runtime.NumGoroutine") = false) (hb : fn.body.isSome = true) (args : Array Value)
    (hw : Region.wanted oi (yielded ops a.tmps) = true) (hN : oi.dst = N) (hop : oi.op = .call { callee := .value (.tmp t), args := as, argTypes := ts }) (hargs : as.map a.eval = args) (hcal : a.eval (.tmp t) = a.eval (.func f))
    (h : Calls P f args w fun e w' => ∃ v, e = .returned v ∧ K (a.put N v) w') : if Region.wanted oi (yielded ops a.tmps) = true then Oper.wp P oi a w K Q else K (a.put N undef) w := by
  refine call_ f args hw hN ?_ h
  have he := enters_ hf hname hb args w
  unfold execOp
  simp only [hop]
  simp [resolve, Deferred.ofValue, invoke, hcal, hargs]
  simp [Act.eval, he]

/-- A row of bytes made a text: the bytes told. -/
theorem convL_ {P : Program} {ops : Array Oper} {Q : Exit → Act → World → Prop} {rest : List Oper} {o : Oper} {a : Act} {W : World} {src dst e : TypeId} {x : Operand} (hgd : o.guard = none) (ho : o.op = .convert src dst x)
    (hs : P.underlying src = some (.slice e)) (he : P.underlying e = some (.int .u8)) (hdt : P.underlying dst = some .string) (g off len cap : Nat) (xs : List Int) (hx : a.eval x = .slice (some ⟨g, off, none⟩) len cap) (hlen : xs.length = len)
    (hcell : ∀ i, i < len → W.cell? ⟨g, off + i, none⟩ = some (.int .u8 (xs.getD i 0)))
    (h : wpList P ops Q rest (a.put o.dst (.string (strOfNums xs))) W) : wpList P ops Q (o :: rest) a W := by
  refine wpList_plain hgd fun K hK => ?_
  have hr := run_convert_bytes_arg (P := P) W src e hs he g off len cap xs hlen hcell dst hdt
  have hrun : (execOp a.eval o).run P W = .ok (.value (.string (strOfNums xs))) W := by
    unfold execOp
    simp [ho, hx, hr]
  unfold Oper.wp
  rw [hrun]
  exact hK _ _ h

end Go.Proofs.YtmgoncnjagihgaaGreatDoor.Lem
