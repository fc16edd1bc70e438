/-
  The type api.Value (a kind, a number, a text) as a law's parameter: opened and shut.
-/
import Derived.Test.YtedmbkhjpbdkjaaChecked
import Derived.Lib.SmallJoins
import Derived.OpenShut
import Derived.ShutString
import Derived.KernelRfl
namespace Go.Proofs.Ytedmbkhjpbdkjaa.Val
open Go.ChangeShapes Go.WideShapes Go.ChangeAt Go.RowKit Go.Joins
variable {H : Type} {enc : TypeId × Value → H} {w : World} {base : Nat} {spare : Nat → Bool} {held : Bool}

theorem cells : Try.prog.cellsOf 23 = 3 := by kernel_rfl

theorem open_value {r : Reach} {b0 : Nat} {v : Value} {d : DataW H} {p : List MemPlace} (hv : Value.okWide Try.prog w r b0 23 v) (h : DataW.Trod enc Try.prog w base spare held 23 v d p) :
    ∃ (a b : Int) (s : ByteArray), v = .agg #[.int .i64 a, .int .i64 b, .string s] ∧ d = .agg [.lit (.int .i64 a), .lit (.int .i64 b), .lit (.string s.data.toList)] ∧ p = [] ∧
      (Lit.int .i64 a).wf = true ∧ (Lit.int .i64 b).wf = true ∧ s.size ≤ maxLen := by
  obtain ⟨c0, c1, c2, y0, y1, y2, m, rfl, rfl, rfl, hy0, hy1, hy2⟩ := open_agg3 Try.underlying23 (by kernel_rfl) cells hv h
  obtain ⟨x, e0, rfl, wx⟩ := DataW.trod_int Try.underlying3 hy0
  obtain ⟨y, e1, rfl, wy⟩ := DataW.trod_int Try.underlying2 hy1
  obtain ⟨f, e2, rfl, wf⟩ := DataW.trod_string Try.underlying9 hy2
  simp at e0 e1 e2
  subst e0 e1 e2
  exact ⟨x, y, f, rfl, rfl, rfl, wx, wy, wf⟩

theorem shut_value {a b : Int} {s : ByteArray} (wa : (Lit.int .i64 a).wf = true) (wb : (Lit.int .i64 b).wf = true) (ws : s.size ≤ maxLen) :
    DataW.Trod enc Try.prog w base spare held 23 (.agg #[.int .i64 a, .int .i64 b, .string s]) (.agg [.lit (.int .i64 a), .lit (.int .i64 b), .lit (.string s.data.toList)]) [] :=
  shut_agg3 (y0 := (.lit (.int .i64 a), [])) (y1 := (.lit (.int .i64 b), [])) (y2 := (.lit (.string s.data.toList), [])) Try.underlying23 (by kernel_rfl) cells
    (by obtain ⟨n, h⟩ := (Go.ChangeShapes.shut_int (enc := enc) (P := Try.prog) (w := w) (base := base) (spare := spare) (held := held) Try.underlying3 wa); exact ⟨n, by simpa [Value.cells] using h⟩)
    (by obtain ⟨n, h⟩ := (Go.ChangeShapes.shut_int (enc := enc) (P := Try.prog) (w := w) (base := base) (spare := spare) (held := held) Try.underlying2 wb); exact ⟨n, by simpa [Value.cells] using h⟩)
    (by obtain ⟨n, h⟩ := (Go.ChangeMaps.shut_string (enc := enc) (P := Try.prog) (w := w) (base := base) (sp := spare) (held := held) Try.underlying9 ws); exact ⟨n, by simpa [Value.cells] using h⟩)

end Go.Proofs.Ytedmbkhjpbdkjaa.Val
