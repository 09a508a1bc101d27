/-
  DERIVED. GIVEN WITH THE SEED: THE CARDS: each row of YtmncgnmgdkdhaaaGreatDoorRows.lean that lists a variable, with what it lists TIED to the program's text (the seventh form; the later family's looks); each row that meets fmt, with fmt's text TOLD by the authors' own Lean function (tested against real Go, not proved from fmt's source: count such statements apart). THE CARD IS WHAT COUNTS. Prove the row's statement (the work); the ties are given (YtmncgnmgdkdhaaaGreatDoorTie.lean); close each card by the builder's one call (the guide's Derived/Test/ToyasCard.lean, 'card_holds'). Laid BY PROGRAM, IN A SANDBOX (cutbox-door.mjs). By AI agents, Wed Nov 11 2026. No macro, syntax, notation, axiom, sorry.
-/
import Derived.Test.YtmncgnmgdkdhaaaGreatDoorRows
import GoSem.ClaimSeven
namespace Go.Proofs.YtmncgnmgdkdhaaaGreatDoor
namespace Rows

/-- THE TIED CARD OF 'hibernaclelaw49.PolicyTexts'. -/
def policyTextsCard : Claim7 := { stood := { row := policyTextsRow, standIns := [], harness := (true, "02b003ade427d62ed0908f33fa3ad860fd25ad3502c2ef17bff12e515b4c93bc"), looks := true }, kinds := [], alts := [], laidByText := true, laidKinds := [.data, .data, .data, .data, .sentinel, .sentinel, .pinned], laidTests := true, laidLooks := .later }
def PolicyTextsCardSaid : Prop := Claim7.holds Tryz.pinned (.plain (OpenSpec.ofChange policyTextsSpec)) policyTextsCard

/-- THE TIED CARD OF 'hibernaclelaw49.PolicyMore'. -/
def policyMoreCard : Claim7 := { stood := { row := policyMoreRow, standIns := [], harness := (true, "02b003ade427d62ed0908f33fa3ad860fd25ad3502c2ef17bff12e515b4c93bc"), looks := true }, kinds := [], alts := [], laidByText := true, laidKinds := [.data, .data, .data, .data, .sentinel, .sentinel, .pinned], laidTests := true, laidLooks := .later }
def PolicyMoreCardSaid : Prop := Claim7.holds Tryz.pinned (.plain (OpenSpec.ofChange policyMoreSpec)) policyMoreCard

/-- THE TIED CARD OF 'hibernaclelaw49.PolicyFew'. -/
def policyFewCard : Claim7 := { stood := { row := policyFewRow, standIns := [], harness := (true, "02b003ade427d62ed0908f33fa3ad860fd25ad3502c2ef17bff12e515b4c93bc"), looks := true }, kinds := [], alts := [], laidByText := true, laidKinds := [.data, .data, .data, .data, .sentinel, .sentinel, .pinned], laidTests := true, laidLooks := .later }
def PolicyFewCardSaid : Prop := Claim7.holds Tryz.pinned (.plain (OpenSpec.ofChange policyFewSpec)) policyFewCard

/-- THE TIED CARD OF 'hibernaclelaw49.PolicyLater'. -/
def policyLaterCard : Claim7 := { stood := { row := policyLaterRow, standIns := [], harness := (true, "02b003ade427d62ed0908f33fa3ad860fd25ad3502c2ef17bff12e515b4c93bc"), looks := true }, kinds := [], alts := [], laidByText := true, laidKinds := [.data, .data, .data, .data, .sentinel, .sentinel, .pinned], laidTests := true, laidLooks := .later }
def PolicyLaterCardSaid : Prop := Claim7.holds Tryz.pinned (.plain (OpenSpec.ofChange policyLaterSpec)) policyLaterCard

/-- THE TIED CARD OF 'hibernaclelaw49.PolicyTurned'. -/
def policyTurnedCard : Claim7 := { stood := { row := policyTurnedRow, standIns := [], harness := (true, "02b003ade427d62ed0908f33fa3ad860fd25ad3502c2ef17bff12e515b4c93bc"), looks := true }, kinds := [], alts := [], laidByText := true, laidKinds := [.data, .data, .data, .data, .sentinel, .sentinel, .pinned], laidTests := true, laidLooks := .later }
def PolicyTurnedCardSaid : Prop := Claim7.holds Tryz.pinned (.plain (OpenSpec.ofChange policyTurnedSpec)) policyTurnedCard

/-- THE TIED CARD OF 'hibernaclelaw49.PolicyHeld'. -/
def policyHeldCard : Claim7 := { stood := { row := policyHeldRow, standIns := [], harness := (true, "02b003ade427d62ed0908f33fa3ad860fd25ad3502c2ef17bff12e515b4c93bc"), looks := true }, kinds := [], alts := [], laidByText := true, laidKinds := [.data, .data, .data, .data, .sentinel, .sentinel, .pinned], laidTests := true, laidLooks := .later }
def PolicyHeldCardSaid : Prop := Claim7.holds Tryz.pinned (.plain (OpenSpec.ofChange policyHeldSpec)) policyHeldCard

/-- THE TIED CARD OF 'hibernaclelaw49.PolicyRow'. -/
def policyRowCard : Claim7 := { stood := { row := policyRowRow, standIns := [], harness := (true, "02b003ade427d62ed0908f33fa3ad860fd25ad3502c2ef17bff12e515b4c93bc"), looks := true }, kinds := [], alts := [], laidByText := true, laidKinds := [.data, .data, .data, .data, .sentinel, .sentinel, .pinned], laidTests := true, laidLooks := .later }
def PolicyRowCardSaid : Prop := Claim7.holds Tryz.pinned (.plain (OpenSpec.ofChange policyRowSpec)) policyRowCard

/-- THE SECOND FORM's CARD OF 'hibernaclelaw49.PolicyTexts'. -/
def policyTextsUptoCard : Claim7 := { stood := { row := policyTextsUptoRow, standIns := [], harness := (true, "02b003ade427d62ed0908f33fa3ad860fd25ad3502c2ef17bff12e515b4c93bc"), looks := true }, kinds := [], alts := [], laidByText := true, laidKinds := [.data, .data, .data, .data, .sentinel, .sentinel, .pinned], laidTests := true, laidLooks := .later }
def PolicyTextsUptoCardSaid : Prop := Claim7.holds Tryz.pinned (.plain (OpenSpec.upto policyTextsSpec)) policyTextsUptoCard

/-- THE SECOND FORM's CARD OF 'hibernaclelaw49.PolicyMore'. -/
def policyMoreUptoCard : Claim7 := { stood := { row := policyMoreUptoRow, standIns := [], harness := (true, "02b003ade427d62ed0908f33fa3ad860fd25ad3502c2ef17bff12e515b4c93bc"), looks := true }, kinds := [], alts := [], laidByText := true, laidKinds := [.data, .data, .data, .data, .sentinel, .sentinel, .pinned], laidTests := true, laidLooks := .later }
def PolicyMoreUptoCardSaid : Prop := Claim7.holds Tryz.pinned (.plain (OpenSpec.upto policyMoreSpec)) policyMoreUptoCard

/-- THE SECOND FORM's CARD OF 'hibernaclelaw49.PolicyFew'. -/
def policyFewUptoCard : Claim7 := { stood := { row := policyFewUptoRow, standIns := [], harness := (true, "02b003ade427d62ed0908f33fa3ad860fd25ad3502c2ef17bff12e515b4c93bc"), looks := true }, kinds := [], alts := [], laidByText := true, laidKinds := [.data, .data, .data, .data, .sentinel, .sentinel, .pinned], laidTests := true, laidLooks := .later }
def PolicyFewUptoCardSaid : Prop := Claim7.holds Tryz.pinned (.plain (OpenSpec.upto policyFewSpec)) policyFewUptoCard

/-- THE SECOND FORM's CARD OF 'hibernaclelaw49.PolicyLater'. -/
def policyLaterUptoCard : Claim7 := { stood := { row := policyLaterUptoRow, standIns := [], harness := (true, "02b003ade427d62ed0908f33fa3ad860fd25ad3502c2ef17bff12e515b4c93bc"), looks := true }, kinds := [], alts := [], laidByText := true, laidKinds := [.data, .data, .data, .data, .sentinel, .sentinel, .pinned], laidTests := true, laidLooks := .later }
def PolicyLaterUptoCardSaid : Prop := Claim7.holds Tryz.pinned (.plain (OpenSpec.upto policyLaterSpec)) policyLaterUptoCard

/-- THE SECOND FORM's CARD OF 'hibernaclelaw49.PolicyTurned'. -/
def policyTurnedUptoCard : Claim7 := { stood := { row := policyTurnedUptoRow, standIns := [], harness := (true, "02b003ade427d62ed0908f33fa3ad860fd25ad3502c2ef17bff12e515b4c93bc"), looks := true }, kinds := [], alts := [], laidByText := true, laidKinds := [.data, .data, .data, .data, .sentinel, .sentinel, .pinned], laidTests := true, laidLooks := .later }
def PolicyTurnedUptoCardSaid : Prop := Claim7.holds Tryz.pinned (.plain (OpenSpec.upto policyTurnedSpec)) policyTurnedUptoCard

/-- THE SECOND FORM's CARD OF 'hibernaclelaw49.PolicyHeld'. -/
def policyHeldUptoCard : Claim7 := { stood := { row := policyHeldUptoRow, standIns := [], harness := (true, "02b003ade427d62ed0908f33fa3ad860fd25ad3502c2ef17bff12e515b4c93bc"), looks := true }, kinds := [], alts := [], laidByText := true, laidKinds := [.data, .data, .data, .data, .sentinel, .sentinel, .pinned], laidTests := true, laidLooks := .later }
def PolicyHeldUptoCardSaid : Prop := Claim7.holds Tryz.pinned (.plain (OpenSpec.upto policyHeldSpec)) policyHeldUptoCard

/-- THE SECOND FORM's CARD OF 'hibernaclelaw49.PolicyRow'. -/
def policyRowUptoCard : Claim7 := { stood := { row := policyRowUptoRow, standIns := [], harness := (true, "02b003ade427d62ed0908f33fa3ad860fd25ad3502c2ef17bff12e515b4c93bc"), looks := true }, kinds := [], alts := [], laidByText := true, laidKinds := [.data, .data, .data, .data, .sentinel, .sentinel, .pinned], laidTests := true, laidLooks := .later }
def PolicyRowUptoCardSaid : Prop := Claim7.holds Tryz.pinned (.plain (OpenSpec.upto policyRowSpec)) policyRowUptoCard
end Rows
end Go.Proofs.YtmncgnmgdkdhaaaGreatDoor
