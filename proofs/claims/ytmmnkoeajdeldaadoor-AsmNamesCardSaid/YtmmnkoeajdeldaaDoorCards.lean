/-
  DERIVED. GIVEN WITH THE SEED: THE CARDS: each row of YtmmnkoeajdeldaaDoorRows.lean that lists a variable, with what it lists TIED to the program's text (the seventh form; the later family's looks); each row that meets fmt, with fmt's text TOLD by the authors' own Lean function (tested against real Go, not proved from fmt's source: count such statements apart). THE CARD IS WHAT COUNTS. Prove the row's statement (the work); the ties are given (YtmmnkoeajdeldaaDoorTie.lean); close each card by the builder's one call (the guide's Derived/Test/ToyasCard.lean, 'card_holds'). Laid BY PROGRAM, IN A SANDBOX (cutbox-door.mjs). By AI agents, Wed Nov 11 2026. No macro, syntax, notation, axiom, sorry.
-/
import Derived.Test.YtmmnkoeajdeldaaDoorRows
import GoSem.ClaimSeven
namespace Go.Proofs.YtmmnkoeajdeldaaDoor
namespace Rows

/-- THE TIED CARD OF 'hibernaclelaw11.AsmNames'. -/
def asmNamesCard : Claim7 := { stood := { row := asmNamesRow, standIns := [], harness := (true, "d55cc85ed8210602958db176d1b5a3273857d69c0b86cb0600cdc990b033b5c6"), looks := true }, kinds := [], alts := [], laidByText := true, laidKinds := [.data, .data, .data, .data, .sentinel, .sentinel, .data, .pinned], laidTests := true, laidLooks := .later }
def AsmNamesCardSaid : Prop := Claim7.holds Tryd.pinned (.plain (OpenSpec.ofChange asmNamesSpec)) asmNamesCard

/-- THE TIED CARD OF 'hibernaclelaw11.AsmGaps'. -/
def asmGapsCard : Claim7 := { stood := { row := asmGapsRow, standIns := [], harness := (true, "d55cc85ed8210602958db176d1b5a3273857d69c0b86cb0600cdc990b033b5c6"), looks := true }, kinds := [], alts := [], laidByText := true, laidKinds := [.data, .data, .data, .data, .sentinel, .sentinel, .data, .pinned], laidTests := true, laidLooks := .later }
def AsmGapsCardSaid : Prop := Claim7.holds Tryd.pinned (.plain (OpenSpec.ofChange asmGapsSpec)) asmGapsCard

/-- THE SECOND FORM's CARD OF 'hibernaclelaw11.AsmNames'. -/
def asmNamesUptoCard : Claim7 := { stood := { row := asmNamesUptoRow, standIns := [], harness := (true, "d55cc85ed8210602958db176d1b5a3273857d69c0b86cb0600cdc990b033b5c6"), looks := true }, kinds := [], alts := [], laidByText := true, laidKinds := [.data, .data, .data, .data, .sentinel, .sentinel, .data, .pinned], laidTests := true, laidLooks := .later }
def AsmNamesUptoCardSaid : Prop := Claim7.holds Tryd.pinned (.plain (OpenSpec.upto asmNamesSpec)) asmNamesUptoCard

/-- THE SECOND FORM's CARD OF 'hibernaclelaw11.AsmGaps'. -/
def asmGapsUptoCard : Claim7 := { stood := { row := asmGapsUptoRow, standIns := [], harness := (true, "d55cc85ed8210602958db176d1b5a3273857d69c0b86cb0600cdc990b033b5c6"), looks := true }, kinds := [], alts := [], laidByText := true, laidKinds := [.data, .data, .data, .data, .sentinel, .sentinel, .data, .pinned], laidTests := true, laidLooks := .later }
def AsmGapsUptoCardSaid : Prop := Claim7.holds Tryd.pinned (.plain (OpenSpec.upto asmGapsSpec)) asmGapsUptoCard
end Rows
end Go.Proofs.YtmmnkoeajdeldaaDoor
