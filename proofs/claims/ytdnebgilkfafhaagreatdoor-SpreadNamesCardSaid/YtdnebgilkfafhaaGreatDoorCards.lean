/-
  DERIVED. GIVEN WITH THE SEED: THE CARDS: each row of YtdnebgilkfafhaaGreatDoorRows.lean that lists a variable, with what it lists TIED to the program's text (the seventh form; the later family's looks); each row that meets fmt, with fmt's text TOLD by the authors' own Lean function (tested against real Go, not proved from fmt's source: count such statements apart). THE CARD IS WHAT COUNTS. Prove the row's statement (the work); the ties are given (YtdnebgilkfafhaaGreatDoorTie.lean); close each card by the builder's one call (the guide's Derived/Test/ToyasCard.lean, 'card_holds'). Laid BY PROGRAM, IN A SANDBOX (cutbox-door.mjs). By AI agents, Wed Nov 11 2026. No macro, syntax, notation, axiom, sorry.
-/
import Derived.Test.YtdnebgilkfafhaaGreatDoorRows
import GoSem.ClaimSeven
namespace Go.Proofs.YtdnebgilkfafhaaGreatDoor
namespace Rows

/-- THE TIED CARD OF 'hibernaclelaw37.SpreadTwo'. -/
def spreadTwoCard : Claim7 := { stood := { row := spreadTwoRow, standIns := [], harness := (true, "0b7c186e8d0c8ec5dbd714917fda1c1a9863461abdd35648811154aebd693e09"), looks := true }, kinds := [], alts := [], laidByText := true, laidKinds := [.data, .data, .data, .data, .data, .sentinel, .sentinel], laidTests := true, laidLooks := .later }
def SpreadTwoCardSaid : Prop := Claim7.holds Tryz.pinned (.plain (OpenSpec.ofChange spreadTwoSpec)) spreadTwoCard

/-- THE TIED CARD OF 'hibernaclelaw37.SpreadFates'. -/
def spreadFatesCard : Claim7 := { stood := { row := spreadFatesRow, standIns := [], harness := (true, "0b7c186e8d0c8ec5dbd714917fda1c1a9863461abdd35648811154aebd693e09"), looks := true }, kinds := [], alts := [], laidByText := true, laidKinds := [.data, .data, .data, .data, .data, .sentinel, .sentinel], laidTests := true, laidLooks := .later }
def SpreadFatesCardSaid : Prop := Claim7.holds Tryz.pinned (.plain (OpenSpec.ofChange spreadFatesSpec)) spreadFatesCard

/-- THE TIED CARD OF 'hibernaclelaw37.SpreadPower'. -/
def spreadPowerCard : Claim7 := { stood := { row := spreadPowerRow, standIns := [], harness := (true, "0b7c186e8d0c8ec5dbd714917fda1c1a9863461abdd35648811154aebd693e09"), looks := true }, kinds := [], alts := [], laidByText := true, laidKinds := [.data, .data, .data, .data, .data, .sentinel, .sentinel], laidTests := true, laidLooks := .later }
def SpreadPowerCardSaid : Prop := Claim7.holds Tryz.pinned (.plain (OpenSpec.ofChange spreadPowerSpec)) spreadPowerCard

/-- THE TIED CARD OF 'hibernaclelaw37.SpreadVotes'. -/
def spreadVotesCard : Claim7 := { stood := { row := spreadVotesRow, standIns := [], harness := (true, "0b7c186e8d0c8ec5dbd714917fda1c1a9863461abdd35648811154aebd693e09"), looks := true }, kinds := [], alts := [], laidByText := true, laidKinds := [.data, .data, .data, .data, .data, .sentinel, .sentinel], laidTests := true, laidLooks := .later }
def SpreadVotesCardSaid : Prop := Claim7.holds Tryz.pinned (.plain (OpenSpec.ofChange spreadVotesSpec)) spreadVotesCard

/-- THE TIED CARD OF 'hibernaclelaw37.SpreadNames'. -/
def spreadNamesCard : Claim7 := { stood := { row := spreadNamesRow, standIns := [], harness := (true, "0b7c186e8d0c8ec5dbd714917fda1c1a9863461abdd35648811154aebd693e09"), looks := true }, kinds := [], alts := [], laidByText := true, laidKinds := [.data, .data, .data, .data, .data, .sentinel, .sentinel], laidTests := true, laidLooks := .later }
def SpreadNamesCardSaid : Prop := Claim7.holds Tryz.pinned (.plain (OpenSpec.ofChange spreadNamesSpec)) spreadNamesCard

/-- THE TIED CARD OF 'hibernaclelaw37.SpreadDrops'. -/
def spreadDropsCard : Claim7 := { stood := { row := spreadDropsRow, standIns := [], harness := (true, "0b7c186e8d0c8ec5dbd714917fda1c1a9863461abdd35648811154aebd693e09"), looks := true }, kinds := [], alts := [], laidByText := true, laidKinds := [.data, .data, .data, .data, .data, .sentinel, .sentinel], laidTests := true, laidLooks := .later }
def SpreadDropsCardSaid : Prop := Claim7.holds Tryz.pinned (.plain (OpenSpec.ofChange spreadDropsSpec)) spreadDropsCard

/-- THE TIED CARD OF 'hibernaclelaw37.SpreadRuns'. -/
def spreadRunsCard : Claim7 := { stood := { row := spreadRunsRow, standIns := [], harness := (true, "0b7c186e8d0c8ec5dbd714917fda1c1a9863461abdd35648811154aebd693e09"), looks := true }, kinds := [], alts := [], laidByText := true, laidKinds := [.data, .data, .data, .data, .data, .sentinel, .sentinel], laidTests := true, laidLooks := .later }
def SpreadRunsCardSaid : Prop := Claim7.holds Tryz.pinned (.plain (OpenSpec.ofChange spreadRunsSpec)) spreadRunsCard

/-- THE SECOND FORM's CARD OF 'hibernaclelaw37.SpreadTwo'. -/
def spreadTwoUptoCard : Claim7 := { stood := { row := spreadTwoUptoRow, standIns := [], harness := (true, "0b7c186e8d0c8ec5dbd714917fda1c1a9863461abdd35648811154aebd693e09"), looks := true }, kinds := [], alts := [], laidByText := true, laidKinds := [.data, .data, .data, .data, .data, .sentinel, .sentinel], laidTests := true, laidLooks := .later }
def SpreadTwoUptoCardSaid : Prop := Claim7.holds Tryz.pinned (.plain (OpenSpec.upto spreadTwoSpec)) spreadTwoUptoCard

/-- THE SECOND FORM's CARD OF 'hibernaclelaw37.SpreadFates'. -/
def spreadFatesUptoCard : Claim7 := { stood := { row := spreadFatesUptoRow, standIns := [], harness := (true, "0b7c186e8d0c8ec5dbd714917fda1c1a9863461abdd35648811154aebd693e09"), looks := true }, kinds := [], alts := [], laidByText := true, laidKinds := [.data, .data, .data, .data, .data, .sentinel, .sentinel], laidTests := true, laidLooks := .later }
def SpreadFatesUptoCardSaid : Prop := Claim7.holds Tryz.pinned (.plain (OpenSpec.upto spreadFatesSpec)) spreadFatesUptoCard

/-- THE SECOND FORM's CARD OF 'hibernaclelaw37.SpreadPower'. -/
def spreadPowerUptoCard : Claim7 := { stood := { row := spreadPowerUptoRow, standIns := [], harness := (true, "0b7c186e8d0c8ec5dbd714917fda1c1a9863461abdd35648811154aebd693e09"), looks := true }, kinds := [], alts := [], laidByText := true, laidKinds := [.data, .data, .data, .data, .data, .sentinel, .sentinel], laidTests := true, laidLooks := .later }
def SpreadPowerUptoCardSaid : Prop := Claim7.holds Tryz.pinned (.plain (OpenSpec.upto spreadPowerSpec)) spreadPowerUptoCard

/-- THE SECOND FORM's CARD OF 'hibernaclelaw37.SpreadVotes'. -/
def spreadVotesUptoCard : Claim7 := { stood := { row := spreadVotesUptoRow, standIns := [], harness := (true, "0b7c186e8d0c8ec5dbd714917fda1c1a9863461abdd35648811154aebd693e09"), looks := true }, kinds := [], alts := [], laidByText := true, laidKinds := [.data, .data, .data, .data, .data, .sentinel, .sentinel], laidTests := true, laidLooks := .later }
def SpreadVotesUptoCardSaid : Prop := Claim7.holds Tryz.pinned (.plain (OpenSpec.upto spreadVotesSpec)) spreadVotesUptoCard

/-- THE SECOND FORM's CARD OF 'hibernaclelaw37.SpreadNames'. -/
def spreadNamesUptoCard : Claim7 := { stood := { row := spreadNamesUptoRow, standIns := [], harness := (true, "0b7c186e8d0c8ec5dbd714917fda1c1a9863461abdd35648811154aebd693e09"), looks := true }, kinds := [], alts := [], laidByText := true, laidKinds := [.data, .data, .data, .data, .data, .sentinel, .sentinel], laidTests := true, laidLooks := .later }
def SpreadNamesUptoCardSaid : Prop := Claim7.holds Tryz.pinned (.plain (OpenSpec.upto spreadNamesSpec)) spreadNamesUptoCard

/-- THE SECOND FORM's CARD OF 'hibernaclelaw37.SpreadDrops'. -/
def spreadDropsUptoCard : Claim7 := { stood := { row := spreadDropsUptoRow, standIns := [], harness := (true, "0b7c186e8d0c8ec5dbd714917fda1c1a9863461abdd35648811154aebd693e09"), looks := true }, kinds := [], alts := [], laidByText := true, laidKinds := [.data, .data, .data, .data, .data, .sentinel, .sentinel], laidTests := true, laidLooks := .later }
def SpreadDropsUptoCardSaid : Prop := Claim7.holds Tryz.pinned (.plain (OpenSpec.upto spreadDropsSpec)) spreadDropsUptoCard

/-- THE SECOND FORM's CARD OF 'hibernaclelaw37.SpreadRuns'. -/
def spreadRunsUptoCard : Claim7 := { stood := { row := spreadRunsUptoRow, standIns := [], harness := (true, "0b7c186e8d0c8ec5dbd714917fda1c1a9863461abdd35648811154aebd693e09"), looks := true }, kinds := [], alts := [], laidByText := true, laidKinds := [.data, .data, .data, .data, .data, .sentinel, .sentinel], laidTests := true, laidLooks := .later }
def SpreadRunsUptoCardSaid : Prop := Claim7.holds Tryz.pinned (.plain (OpenSpec.upto spreadRunsSpec)) spreadRunsUptoCard
end Rows
end Go.Proofs.YtdnebgilkfafhaaGreatDoor
