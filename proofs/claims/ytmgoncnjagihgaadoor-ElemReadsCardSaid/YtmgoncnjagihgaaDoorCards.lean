/-
  DERIVED. GIVEN WITH THE SEED: THE CARDS: each row of YtmgoncnjagihgaaDoorRows.lean that lists a variable, with what it lists TIED to the program's text (the seventh form; the later family's looks); each row that meets fmt, with fmt's text TOLD by the authors' own Lean function (tested against real Go, not proved from fmt's source: count such statements apart). THE CARD IS WHAT COUNTS. Prove the row's statement (the work); the ties are given (YtmgoncnjagihgaaDoorTie.lean); close each card by the builder's one call (the guide's Derived/Test/ToyasCard.lean, 'card_holds'). Laid BY PROGRAM, IN A SANDBOX (cutbox-door.mjs). By AI agents, Wed Nov 11 2026. No macro, syntax, notation, axiom, sorry.
-/
import Derived.Test.YtmgoncnjagihgaaDoorRows
import GoSem.ClaimSeven
namespace Go.Proofs.YtmgoncnjagihgaaDoor
namespace Rows

/-- THE TIED CARD OF 'umlautlaw3.ElemChanges'. -/
def elemChangesCard : Claim7 := { stood := { row := elemChangesRow, standIns := [], harness := (true, "7f7e84b59ed3d4d36993ee9533f661cd94f381bb1b4416ed335bd8b06160cf26"), looks := true }, kinds := [], alts := [], laidByText := true, laidKinds := [.data, .data, .data], laidTests := true, laidLooks := .later }
def ElemChangesCardSaid : Prop := Claim7.holds Tryd.pinned (.plain (OpenSpec.ofChange elemChangesSpec)) elemChangesCard

/-- THE TIED CARD OF 'umlautlaw3.ElemMakes'. -/
def elemMakesCard : Claim7 := { stood := { row := elemMakesRow, standIns := [], harness := (true, "7f7e84b59ed3d4d36993ee9533f661cd94f381bb1b4416ed335bd8b06160cf26"), looks := true }, kinds := [], alts := [], laidByText := true, laidKinds := [.data, .data, .data], laidTests := true, laidLooks := .later }
def ElemMakesCardSaid : Prop := Claim7.holds Tryd.pinned (.plain (OpenSpec.ofChange elemMakesSpec)) elemMakesCard

/-- THE TIED CARD OF 'umlautlaw3.ElemReads'. -/
def elemReadsCard : Claim7 := { stood := { row := elemReadsRow, standIns := [], harness := (true, "7f7e84b59ed3d4d36993ee9533f661cd94f381bb1b4416ed335bd8b06160cf26"), looks := true }, kinds := [], alts := [], laidByText := true, laidKinds := [.data, .data, .data, .data, .sentinel, .sentinel, .pinned], laidTests := true, laidLooks := .later }
def ElemReadsCardSaid : Prop := Claim7.holds Tryd.pinned (.plain (OpenSpec.ofChange elemReadsSpec)) elemReadsCard

/-- THE TIED CARD OF 'umlautlaw3.ElemWords'. -/
def elemWordsCard : Claim7 := { stood := { row := elemWordsRow, standIns := [], harness := (true, "7f7e84b59ed3d4d36993ee9533f661cd94f381bb1b4416ed335bd8b06160cf26"), looks := true }, kinds := [], alts := [], laidByText := true, laidKinds := [.data, .data, .data, .data, .sentinel, .sentinel, .pinned], laidTests := true, laidLooks := .later }
def ElemWordsCardSaid : Prop := Claim7.holds Tryd.pinned (.plain (OpenSpec.ofChange elemWordsSpec)) elemWordsCard

/-- THE SECOND FORM's CARD OF 'umlautlaw3.ElemChanges'. -/
def elemChangesUptoCard : Claim7 := { stood := { row := elemChangesUptoRow, standIns := [], harness := (true, "7f7e84b59ed3d4d36993ee9533f661cd94f381bb1b4416ed335bd8b06160cf26"), looks := true }, kinds := [], alts := [], laidByText := true, laidKinds := [.data, .data, .data], laidTests := true, laidLooks := .later }
def ElemChangesUptoCardSaid : Prop := Claim7.holds Tryd.pinned (.plain (OpenSpec.upto elemChangesSpec)) elemChangesUptoCard

/-- THE SECOND FORM's CARD OF 'umlautlaw3.ElemMakes'. -/
def elemMakesUptoCard : Claim7 := { stood := { row := elemMakesUptoRow, standIns := [], harness := (true, "7f7e84b59ed3d4d36993ee9533f661cd94f381bb1b4416ed335bd8b06160cf26"), looks := true }, kinds := [], alts := [], laidByText := true, laidKinds := [.data, .data, .data], laidTests := true, laidLooks := .later }
def ElemMakesUptoCardSaid : Prop := Claim7.holds Tryd.pinned (.plain (OpenSpec.upto elemMakesSpec)) elemMakesUptoCard

/-- THE SECOND FORM's CARD OF 'umlautlaw3.ElemReads'. -/
def elemReadsUptoCard : Claim7 := { stood := { row := elemReadsUptoRow, standIns := [], harness := (true, "7f7e84b59ed3d4d36993ee9533f661cd94f381bb1b4416ed335bd8b06160cf26"), looks := true }, kinds := [], alts := [], laidByText := true, laidKinds := [.data, .data, .data, .data, .sentinel, .sentinel, .pinned], laidTests := true, laidLooks := .later }
def ElemReadsUptoCardSaid : Prop := Claim7.holds Tryd.pinned (.plain (OpenSpec.upto elemReadsSpec)) elemReadsUptoCard

/-- THE SECOND FORM's CARD OF 'umlautlaw3.ElemWords'. -/
def elemWordsUptoCard : Claim7 := { stood := { row := elemWordsUptoRow, standIns := [], harness := (true, "7f7e84b59ed3d4d36993ee9533f661cd94f381bb1b4416ed335bd8b06160cf26"), looks := true }, kinds := [], alts := [], laidByText := true, laidKinds := [.data, .data, .data, .data, .sentinel, .sentinel, .pinned], laidTests := true, laidLooks := .later }
def ElemWordsUptoCardSaid : Prop := Claim7.holds Tryd.pinned (.plain (OpenSpec.upto elemWordsSpec)) elemWordsUptoCard
end Rows
end Go.Proofs.YtmgoncnjagihgaaDoor
