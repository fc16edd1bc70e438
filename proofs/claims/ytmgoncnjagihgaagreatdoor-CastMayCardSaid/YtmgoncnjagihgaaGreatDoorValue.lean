/-
  The type api.Value (a kind, a number, a text) as a law's parameter: opened and shut.
-/
import Derived.Test.YtmgoncnjagihgaaGreatDoorChecked
import Derived.Lib.SmallJoins
import Derived.OpenShut
import Derived.ShutString
import Derived.KernelRfl
namespace Go.Proofs.YtmgoncnjagihgaaGreatDoor.Val
open Go.ChangeShapes Go.WideShapes Go.ChangeAt Go.RowKit Go.Joins
variable {H : Type} {enc : TypeId × Value → H} {w : World} {base : Nat} {spare : Nat → Bool} {held : Bool}

theorem cells : Tryz.prog.cellsOf 24 = 3 := by kernel_rfl

set_option maxRecDepth 100000 in
theorem open_value {r : Reach} {b0 : Nat} {v : Value} {d : DataW H} {p : List MemPlace} (hv : Value.okWide Tryz.prog w r b0 24 v) (h : DataW.Trod enc Tryz.prog w base spare held 24 v d p) :
    ∃ (a b : Int) (s : ByteArray), v = .agg #[.int .i64 a, .int .i64 b, .string s] ∧ d = .agg [.lit (.int .i64 a), .lit (.int .i64 b), .lit (.string s.data.toList)] ∧ p = [] ∧
      (Lit.int .i64 a).wf = true ∧ (Lit.int .i64 b).wf = true ∧ s.size ≤ maxLen := by
  obtain ⟨c0, c1, c2, y0, y1, y2, m, rfl, rfl, rfl, hy0, hy1, hy2⟩ := open_agg3 Tryz.underlying24 (by kernel_rfl) cells hv h
  obtain ⟨x, e0, rfl, wx⟩ := DataW.trod_int Tryz.underlying3 hy0
  obtain ⟨y, e1, rfl, wy⟩ := DataW.trod_int Tryz.underlying2 hy1
  obtain ⟨f, e2, rfl, wf⟩ := DataW.trod_string Tryz.underlying9 hy2
  simp at e0 e1 e2
  subst e0 e1 e2
  exact ⟨x, y, f, rfl, rfl, rfl, wx, wy, wf⟩

set_option maxRecDepth 100000 in
theorem shut_value {a b : Int} {s : ByteArray} (wa : (Lit.int .i64 a).wf = true) (wb : (Lit.int .i64 b).wf = true) (ws : s.size ≤ maxLen) :
    DataW.Trod enc Tryz.prog w base spare held 24 (.agg #[.int .i64 a, .int .i64 b, .string s]) (.agg [.lit (.int .i64 a), .lit (.int .i64 b), .lit (.string s.data.toList)]) [] :=
  shut_agg3 (y0 := (.lit (.int .i64 a), [])) (y1 := (.lit (.int .i64 b), [])) (y2 := (.lit (.string s.data.toList), [])) Tryz.underlying24 (by kernel_rfl) cells
    (by obtain ⟨n, h⟩ := (Go.ChangeShapes.shut_int (enc := enc) (P := Tryz.prog) (w := w) (base := base) (spare := spare) (held := held) Tryz.underlying3 wa); exact ⟨n, by simpa [Value.cells] using h⟩)
    (by obtain ⟨n, h⟩ := (Go.ChangeShapes.shut_int (enc := enc) (P := Tryz.prog) (w := w) (base := base) (spare := spare) (held := held) Tryz.underlying2 wb); exact ⟨n, by simpa [Value.cells] using h⟩)
    (by obtain ⟨n, h⟩ := (Go.ChangeMaps.shut_string (enc := enc) (P := Tryz.prog) (w := w) (base := base) (sp := spare) (held := held) Tryz.underlying9 ws); exact ⟨n, by simpa [Value.cells] using h⟩)

end Go.Proofs.YtmgoncnjagihgaaGreatDoor.Val
