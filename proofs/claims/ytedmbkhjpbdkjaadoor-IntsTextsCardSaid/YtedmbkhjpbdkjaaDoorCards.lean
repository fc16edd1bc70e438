/-
  DERIVED. GIVEN WITH THE SEED: THE CARDS: each row of YtedmbkhjpbdkjaaDoorRows.lean that lists a variable, with what it lists TIED to the program's text (the seventh form; the later family's looks); each row that meets fmt, with fmt's text TOLD by the authors' own Lean function (tested against real Go, not proved from fmt's source: count such statements apart). THE CARD IS WHAT COUNTS. Prove the row's statement (the work); the ties are given (YtedmbkhjpbdkjaaDoorTie.lean); close each card by the builder's one call (the guide's Derived/Test/ToyasCard.lean, 'card_holds'). Laid BY PROGRAM, IN A SANDBOX (cutbox-door.mjs). By AI agents, Wed Nov 11 2026. No macro, syntax, notation, axiom, sorry.
-/
import Derived.Test.YtedmbkhjpbdkjaaDoorRows
import GoSem.ClaimSeven
namespace Go.Proofs.YtedmbkhjpbdkjaaDoor
namespace Rows

/-- THE TIED CARD OF 'umlautlaw1.IntsWidths'. -/
def intsWidthsCard : Claim7 := { stood := { row := intsWidthsRow, standIns := [], harness := (true, "56864460f657cead8c574baa81614ca45ed051f449faa2795de4ebbcb406f4c9"), looks := true }, kinds := [], alts := [], laidByText := true, laidKinds := [.data, .data, .data], laidTests := true, laidLooks := .later }
def IntsWidthsCardSaid : Prop := Claim7.holds Tryd.pinned (.plain (OpenSpec.ofChange intsWidthsSpec)) intsWidthsCard

/-- THE TIED CARD OF 'umlautlaw1.IntsTurns'. -/
def intsTurnsCard : Claim7 := { stood := { row := intsTurnsRow, standIns := [], harness := (true, "56864460f657cead8c574baa81614ca45ed051f449faa2795de4ebbcb406f4c9"), looks := true }, kinds := [], alts := [], laidByText := true, laidKinds := [.data, .data, .data], laidTests := true, laidLooks := .later }
def IntsTurnsCardSaid : Prop := Claim7.holds Tryd.pinned (.plain (OpenSpec.ofChange intsTurnsSpec)) intsTurnsCard

/-- THE TIED CARD OF 'umlautlaw1.IntsShifts'. -/
def intsShiftsCard : Claim7 := { stood := { row := intsShiftsRow, standIns := [], harness := (true, "56864460f657cead8c574baa81614ca45ed051f449faa2795de4ebbcb406f4c9"), looks := true }, kinds := [], alts := [], laidByText := true, laidKinds := [.data, .data, .data], laidTests := true, laidLooks := .later }
def IntsShiftsCardSaid : Prop := Claim7.holds Tryd.pinned (.plain (OpenSpec.ofChange intsShiftsSpec)) intsShiftsCard

/-- THE TIED CARD OF 'umlautlaw1.IntsBits'. -/
def intsBitsCard : Claim7 := { stood := { row := intsBitsRow, standIns := [], harness := (true, "56864460f657cead8c574baa81614ca45ed051f449faa2795de4ebbcb406f4c9"), looks := true }, kinds := [], alts := [], laidByText := true, laidKinds := [.data, .data, .data], laidTests := true, laidLooks := .later }
def IntsBitsCardSaid : Prop := Claim7.holds Tryd.pinned (.plain (OpenSpec.ofChange intsBitsSpec)) intsBitsCard

/-- THE TIED CARD OF 'umlautlaw1.IntsSums'. -/
def intsSumsCard : Claim7 := { stood := { row := intsSumsRow, standIns := [], harness := (true, "56864460f657cead8c574baa81614ca45ed051f449faa2795de4ebbcb406f4c9"), looks := true }, kinds := [], alts := [], laidByText := true, laidKinds := [.data, .data, .data], laidTests := true, laidLooks := .later }
def IntsSumsCardSaid : Prop := Claim7.holds Tryd.pinned (.plain (OpenSpec.ofChange intsSumsSpec)) intsSumsCard

/-- THE TIED CARD OF 'umlautlaw1.IntsFields'. -/
def intsFieldsCard : Claim7 := { stood := { row := intsFieldsRow, standIns := [], harness := (true, "56864460f657cead8c574baa81614ca45ed051f449faa2795de4ebbcb406f4c9"), looks := true }, kinds := [], alts := [], laidByText := true, laidKinds := [.data, .data, .data], laidTests := true, laidLooks := .later }
def IntsFieldsCardSaid : Prop := Claim7.holds Tryd.pinned (.plain (OpenSpec.ofChange intsFieldsSpec)) intsFieldsCard

/-- THE TIED CARD OF 'umlautlaw1.IntsEnds'. -/
def intsEndsCard : Claim7 := { stood := { row := intsEndsRow, standIns := [], harness := (true, "56864460f657cead8c574baa81614ca45ed051f449faa2795de4ebbcb406f4c9"), looks := true }, kinds := [], alts := [], laidByText := true, laidKinds := [.data, .data, .data], laidTests := true, laidLooks := .later }
def IntsEndsCardSaid : Prop := Claim7.holds Tryd.pinned (.plain (OpenSpec.ofChange intsEndsSpec)) intsEndsCard

/-- THE TIED CARD OF 'umlautlaw1.IntsPowers'. -/
def intsPowersCard : Claim7 := { stood := { row := intsPowersRow, standIns := [], harness := (true, "56864460f657cead8c574baa81614ca45ed051f449faa2795de4ebbcb406f4c9"), looks := true }, kinds := [], alts := [], laidByText := true, laidKinds := [.data, .data, .data], laidTests := true, laidLooks := .later }
def IntsPowersCardSaid : Prop := Claim7.holds Tryd.pinned (.plain (OpenSpec.ofChange intsPowersSpec)) intsPowersCard

/-- THE TIED CARD OF 'umlautlaw1.IntsProducts'. -/
def intsProductsCard : Claim7 := { stood := { row := intsProductsRow, standIns := [], harness := (true, "56864460f657cead8c574baa81614ca45ed051f449faa2795de4ebbcb406f4c9"), looks := true }, kinds := [], alts := [], laidByText := true, laidKinds := [.data, .data, .data], laidTests := true, laidLooks := .later }
def IntsProductsCardSaid : Prop := Claim7.holds Tryd.pinned (.plain (OpenSpec.ofChange intsProductsSpec)) intsProductsCard

/-- THE TIED CARD OF 'umlautlaw1.IntsLaws'. -/
def intsLawsCard : Claim7 := { stood := { row := intsLawsRow, standIns := [], harness := (true, "56864460f657cead8c574baa81614ca45ed051f449faa2795de4ebbcb406f4c9"), looks := true }, kinds := [], alts := [], laidByText := true, laidKinds := [.data, .data, .data], laidTests := true, laidLooks := .later }
def IntsLawsCardSaid : Prop := Claim7.holds Tryd.pinned (.plain (OpenSpec.ofChange intsLawsSpec)) intsLawsCard

/-- THE TIED CARD OF 'umlautlaw1.IntsTexts'. -/
def intsTextsCard : Claim7 := { stood := { row := intsTextsRow, standIns := [], harness := (true, "56864460f657cead8c574baa81614ca45ed051f449faa2795de4ebbcb406f4c9"), looks := true }, kinds := [], alts := [], laidByText := true, laidKinds := [.data, .data, .data, .data, .sentinel, .sentinel, .pinned], laidTests := true, laidLooks := .later }
def IntsTextsCardSaid : Prop := Claim7.holds Tryd.pinned (.plain (OpenSpec.ofChange intsTextsSpec)) intsTextsCard

/-- THE SECOND FORM's CARD OF 'umlautlaw1.IntsWidths'. -/
def intsWidthsUptoCard : Claim7 := { stood := { row := intsWidthsUptoRow, standIns := [], harness := (true, "56864460f657cead8c574baa81614ca45ed051f449faa2795de4ebbcb406f4c9"), looks := true }, kinds := [], alts := [], laidByText := true, laidKinds := [.data, .data, .data], laidTests := true, laidLooks := .later }
def IntsWidthsUptoCardSaid : Prop := Claim7.holds Tryd.pinned (.plain (OpenSpec.upto intsWidthsSpec)) intsWidthsUptoCard

/-- THE SECOND FORM's CARD OF 'umlautlaw1.IntsTurns'. -/
def intsTurnsUptoCard : Claim7 := { stood := { row := intsTurnsUptoRow, standIns := [], harness := (true, "56864460f657cead8c574baa81614ca45ed051f449faa2795de4ebbcb406f4c9"), looks := true }, kinds := [], alts := [], laidByText := true, laidKinds := [.data, .data, .data], laidTests := true, laidLooks := .later }
def IntsTurnsUptoCardSaid : Prop := Claim7.holds Tryd.pinned (.plain (OpenSpec.upto intsTurnsSpec)) intsTurnsUptoCard

/-- THE SECOND FORM's CARD OF 'umlautlaw1.IntsShifts'. -/
def intsShiftsUptoCard : Claim7 := { stood := { row := intsShiftsUptoRow, standIns := [], harness := (true, "56864460f657cead8c574baa81614ca45ed051f449faa2795de4ebbcb406f4c9"), looks := true }, kinds := [], alts := [], laidByText := true, laidKinds := [.data, .data, .data], laidTests := true, laidLooks := .later }
def IntsShiftsUptoCardSaid : Prop := Claim7.holds Tryd.pinned (.plain (OpenSpec.upto intsShiftsSpec)) intsShiftsUptoCard

/-- THE SECOND FORM's CARD OF 'umlautlaw1.IntsBits'. -/
def intsBitsUptoCard : Claim7 := { stood := { row := intsBitsUptoRow, standIns := [], harness := (true, "56864460f657cead8c574baa81614ca45ed051f449faa2795de4ebbcb406f4c9"), looks := true }, kinds := [], alts := [], laidByText := true, laidKinds := [.data, .data, .data], laidTests := true, laidLooks := .later }
def IntsBitsUptoCardSaid : Prop := Claim7.holds Tryd.pinned (.plain (OpenSpec.upto intsBitsSpec)) intsBitsUptoCard

/-- THE SECOND FORM's CARD OF 'umlautlaw1.IntsSums'. -/
def intsSumsUptoCard : Claim7 := { stood := { row := intsSumsUptoRow, standIns := [], harness := (true, "56864460f657cead8c574baa81614ca45ed051f449faa2795de4ebbcb406f4c9"), looks := true }, kinds := [], alts := [], laidByText := true, laidKinds := [.data, .data, .data], laidTests := true, laidLooks := .later }
def IntsSumsUptoCardSaid : Prop := Claim7.holds Tryd.pinned (.plain (OpenSpec.upto intsSumsSpec)) intsSumsUptoCard

/-- THE SECOND FORM's CARD OF 'umlautlaw1.IntsFields'. -/
def intsFieldsUptoCard : Claim7 := { stood := { row := intsFieldsUptoRow, standIns := [], harness := (true, "56864460f657cead8c574baa81614ca45ed051f449faa2795de4ebbcb406f4c9"), looks := true }, kinds := [], alts := [], laidByText := true, laidKinds := [.data, .data, .data], laidTests := true, laidLooks := .later }
def IntsFieldsUptoCardSaid : Prop := Claim7.holds Tryd.pinned (.plain (OpenSpec.upto intsFieldsSpec)) intsFieldsUptoCard

/-- THE SECOND FORM's CARD OF 'umlautlaw1.IntsEnds'. -/
def intsEndsUptoCard : Claim7 := { stood := { row := intsEndsUptoRow, standIns := [], harness := (true, "56864460f657cead8c574baa81614ca45ed051f449faa2795de4ebbcb406f4c9"), looks := true }, kinds := [], alts := [], laidByText := true, laidKinds := [.data, .data, .data], laidTests := true, laidLooks := .later }
def IntsEndsUptoCardSaid : Prop := Claim7.holds Tryd.pinned (.plain (OpenSpec.upto intsEndsSpec)) intsEndsUptoCard

/-- THE SECOND FORM's CARD OF 'umlautlaw1.IntsPowers'. -/
def intsPowersUptoCard : Claim7 := { stood := { row := intsPowersUptoRow, standIns := [], harness := (true, "56864460f657cead8c574baa81614ca45ed051f449faa2795de4ebbcb406f4c9"), looks := true }, kinds := [], alts := [], laidByText := true, laidKinds := [.data, .data, .data], laidTests := true, laidLooks := .later }
def IntsPowersUptoCardSaid : Prop := Claim7.holds Tryd.pinned (.plain (OpenSpec.upto intsPowersSpec)) intsPowersUptoCard

/-- THE SECOND FORM's CARD OF 'umlautlaw1.IntsProducts'. -/
def intsProductsUptoCard : Claim7 := { stood := { row := intsProductsUptoRow, standIns := [], harness := (true, "56864460f657cead8c574baa81614ca45ed051f449faa2795de4ebbcb406f4c9"), looks := true }, kinds := [], alts := [], laidByText := true, laidKinds := [.data, .data, .data], laidTests := true, laidLooks := .later }
def IntsProductsUptoCardSaid : Prop := Claim7.holds Tryd.pinned (.plain (OpenSpec.upto intsProductsSpec)) intsProductsUptoCard

/-- THE SECOND FORM's CARD OF 'umlautlaw1.IntsLaws'. -/
def intsLawsUptoCard : Claim7 := { stood := { row := intsLawsUptoRow, standIns := [], harness := (true, "56864460f657cead8c574baa81614ca45ed051f449faa2795de4ebbcb406f4c9"), looks := true }, kinds := [], alts := [], laidByText := true, laidKinds := [.data, .data, .data], laidTests := true, laidLooks := .later }
def IntsLawsUptoCardSaid : Prop := Claim7.holds Tryd.pinned (.plain (OpenSpec.upto intsLawsSpec)) intsLawsUptoCard

/-- THE SECOND FORM's CARD OF 'umlautlaw1.IntsTexts'. -/
def intsTextsUptoCard : Claim7 := { stood := { row := intsTextsUptoRow, standIns := [], harness := (true, "56864460f657cead8c574baa81614ca45ed051f449faa2795de4ebbcb406f4c9"), looks := true }, kinds := [], alts := [], laidByText := true, laidKinds := [.data, .data, .data, .data, .sentinel, .sentinel, .pinned], laidTests := true, laidLooks := .later }
def IntsTextsUptoCardSaid : Prop := Claim7.holds Tryd.pinned (.plain (OpenSpec.upto intsTextsSpec)) intsTextsUptoCard
end Rows
end Go.Proofs.YtedmbkhjpbdkjaaDoor
