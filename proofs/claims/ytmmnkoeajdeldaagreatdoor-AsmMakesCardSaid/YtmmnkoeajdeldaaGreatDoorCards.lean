/-
  DERIVED. GIVEN WITH THE SEED: THE CARDS: each row of YtmmnkoeajdeldaaGreatDoorRows.lean that lists a variable, with what it lists TIED to the program's text (the seventh form; the later family's looks); each row that meets fmt, with fmt's text TOLD by the authors' own Lean function (tested against real Go, not proved from fmt's source: count such statements apart). THE CARD IS WHAT COUNTS. Prove the row's statement (the work); the ties are given (YtmmnkoeajdeldaaGreatDoorTie.lean); close each card by the builder's one call (the guide's Derived/Test/ToyasCard.lean, 'card_holds'). Laid BY PROGRAM, IN A SANDBOX (cutbox-door.mjs). By AI agents, Wed Nov 11 2026. No macro, syntax, notation, axiom, sorry.
-/
import Derived.Test.YtmmnkoeajdeldaaGreatDoorRows
import GoSem.ClaimSeven
namespace Go.Proofs.YtmmnkoeajdeldaaGreatDoor
namespace Rows

/-- THE TIED CARD OF 'hibernaclelaw11.AsmMakes'. -/
def asmMakesCard : Claim7 := { stood := { row := asmMakesRow, standIns := [], harness := (true, "818a6ed589f336af0c0d102f47932e8562c39db2379b8541c17b0339f756e312"), looks := true }, kinds := [], alts := [], laidByText := true, laidKinds := [.data, .data, .data, .data, .sentinel, .sentinel, .data, .pinned], laidTests := true, laidLooks := .later }
def AsmMakesCardSaid : Prop := Claim7.holds Tryz.pinned (.plain (OpenSpec.ofChange asmMakesSpec)) asmMakesCard

/-- THE TIED CARD OF 'hibernaclelaw11.AsmLines'. -/
def asmLinesCard : Claim7 := { stood := { row := asmLinesRow, standIns := [], harness := (true, "818a6ed589f336af0c0d102f47932e8562c39db2379b8541c17b0339f756e312"), looks := true }, kinds := [], alts := [], laidByText := true, laidKinds := [.data, .data, .data, .data, .sentinel, .sentinel, .data, .pinned], laidTests := true, laidLooks := .later }
def AsmLinesCardSaid : Prop := Claim7.holds Tryz.pinned (.plain (OpenSpec.ofChange asmLinesSpec)) asmLinesCard

/-- THE TIED CARD OF 'hibernaclelaw11.AsmLists'. -/
def asmListsCard : Claim7 := { stood := { row := asmListsRow, standIns := [], harness := (true, "818a6ed589f336af0c0d102f47932e8562c39db2379b8541c17b0339f756e312"), looks := true }, kinds := [], alts := [], laidByText := true, laidKinds := [.data, .data, .data, .data, .sentinel, .sentinel, .data, .pinned], laidTests := true, laidLooks := .later }
def AsmListsCardSaid : Prop := Claim7.holds Tryz.pinned (.plain (OpenSpec.ofChange asmListsSpec)) asmListsCard

/-- THE TIED CARD OF 'hibernaclelaw11.AsmBack'. -/
def asmBackCard : Claim7 := { stood := { row := asmBackRow, standIns := [], harness := (true, "818a6ed589f336af0c0d102f47932e8562c39db2379b8541c17b0339f756e312"), looks := true }, kinds := [], alts := [], laidByText := true, laidKinds := [.data, .data, .data, .data, .sentinel, .sentinel, .data, .pinned], laidTests := true, laidLooks := .later }
def AsmBackCardSaid : Prop := Claim7.holds Tryz.pinned (.plain (OpenSpec.ofChange asmBackSpec)) asmBackCard

/-- THE TIED CARD OF 'hibernaclelaw12.ExeMade'. -/
def exeMadeCard : Claim7 := { stood := { row := exeMadeRow, standIns := [], harness := (true, "818a6ed589f336af0c0d102f47932e8562c39db2379b8541c17b0339f756e312"), looks := true }, kinds := [], alts := [], laidByText := true, laidKinds := [.data, .data, .data, .data, .sentinel, .sentinel, .data, .pinned], laidTests := true, laidLooks := .later }
def ExeMadeCardSaid : Prop := Claim7.holds Tryz.pinned (.plain (OpenSpec.ofChange exeMadeSpec)) exeMadeCard

/-- THE SECOND FORM's CARD OF 'hibernaclelaw11.AsmMakes'. -/
def asmMakesUptoCard : Claim7 := { stood := { row := asmMakesUptoRow, standIns := [], harness := (true, "818a6ed589f336af0c0d102f47932e8562c39db2379b8541c17b0339f756e312"), looks := true }, kinds := [], alts := [], laidByText := true, laidKinds := [.data, .data, .data, .data, .sentinel, .sentinel, .data, .pinned], laidTests := true, laidLooks := .later }
def AsmMakesUptoCardSaid : Prop := Claim7.holds Tryz.pinned (.plain (OpenSpec.upto asmMakesSpec)) asmMakesUptoCard

/-- THE SECOND FORM's CARD OF 'hibernaclelaw11.AsmLines'. -/
def asmLinesUptoCard : Claim7 := { stood := { row := asmLinesUptoRow, standIns := [], harness := (true, "818a6ed589f336af0c0d102f47932e8562c39db2379b8541c17b0339f756e312"), looks := true }, kinds := [], alts := [], laidByText := true, laidKinds := [.data, .data, .data, .data, .sentinel, .sentinel, .data, .pinned], laidTests := true, laidLooks := .later }
def AsmLinesUptoCardSaid : Prop := Claim7.holds Tryz.pinned (.plain (OpenSpec.upto asmLinesSpec)) asmLinesUptoCard

/-- THE SECOND FORM's CARD OF 'hibernaclelaw11.AsmLists'. -/
def asmListsUptoCard : Claim7 := { stood := { row := asmListsUptoRow, standIns := [], harness := (true, "818a6ed589f336af0c0d102f47932e8562c39db2379b8541c17b0339f756e312"), looks := true }, kinds := [], alts := [], laidByText := true, laidKinds := [.data, .data, .data, .data, .sentinel, .sentinel, .data, .pinned], laidTests := true, laidLooks := .later }
def AsmListsUptoCardSaid : Prop := Claim7.holds Tryz.pinned (.plain (OpenSpec.upto asmListsSpec)) asmListsUptoCard

/-- THE SECOND FORM's CARD OF 'hibernaclelaw11.AsmBack'. -/
def asmBackUptoCard : Claim7 := { stood := { row := asmBackUptoRow, standIns := [], harness := (true, "818a6ed589f336af0c0d102f47932e8562c39db2379b8541c17b0339f756e312"), looks := true }, kinds := [], alts := [], laidByText := true, laidKinds := [.data, .data, .data, .data, .sentinel, .sentinel, .data, .pinned], laidTests := true, laidLooks := .later }
def AsmBackUptoCardSaid : Prop := Claim7.holds Tryz.pinned (.plain (OpenSpec.upto asmBackSpec)) asmBackUptoCard

/-- THE SECOND FORM's CARD OF 'hibernaclelaw12.ExeMade'. -/
def exeMadeUptoCard : Claim7 := { stood := { row := exeMadeUptoRow, standIns := [], harness := (true, "818a6ed589f336af0c0d102f47932e8562c39db2379b8541c17b0339f756e312"), looks := true }, kinds := [], alts := [], laidByText := true, laidKinds := [.data, .data, .data, .data, .sentinel, .sentinel, .data, .pinned], laidTests := true, laidLooks := .later }
def ExeMadeUptoCardSaid : Prop := Claim7.holds Tryz.pinned (.plain (OpenSpec.upto exeMadeSpec)) exeMadeUptoCard
end Rows
end Go.Proofs.YtmmnkoeajdeldaaGreatDoor
