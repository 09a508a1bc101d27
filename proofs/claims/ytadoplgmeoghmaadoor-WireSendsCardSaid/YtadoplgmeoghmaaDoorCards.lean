/-
  DERIVED. GIVEN WITH THE SEED: THE CARDS: each row of YtadoplgmeoghmaaDoorRows.lean that lists a variable, with what it lists TIED to the program's text (the seventh form; the later family's looks); each row that meets fmt, with fmt's text TOLD by the authors' own Lean function (tested against real Go, not proved from fmt's source: count such statements apart). THE CARD IS WHAT COUNTS. Prove the row's statement (the work); the ties are given (YtadoplgmeoghmaaDoorTie.lean); close each card by the builder's one call (the guide's Derived/Test/ToyasCard.lean, 'card_holds'). Laid BY PROGRAM, IN A SANDBOX (cutbox-door.mjs). By AI agents, Wed Nov 11 2026. No macro, syntax, notation, axiom, sorry.
-/
import Derived.Test.YtadoplgmeoghmaaDoorRows
import GoSem.ClaimSeven
namespace Go.Proofs.YtadoplgmeoghmaaDoor
namespace Rows

/-- THE TIED CARD OF 'hibernaclelaw44.WireSends'. -/
def wireSendsCard : Claim7 := { stood := { row := wireSendsRow, standIns := [], harness := (true, "d52ae2ddd743d3938e0413c9492b2d81ac0661b7004b97195e9d59de3f082b44"), looks := true }, kinds := [], alts := [], laidByText := true, laidKinds := [.data, .data, .data, .data, .data, .sentinel, .sentinel], laidTests := true, laidLooks := .later }
def WireSendsCardSaid : Prop := Claim7.holds Tryd.pinned (.plain (OpenSpec.ofChange wireSendsSpec)) wireSendsCard

/-- THE SECOND FORM's CARD OF 'hibernaclelaw44.WireSends'. -/
def wireSendsUptoCard : Claim7 := { stood := { row := wireSendsUptoRow, standIns := [], harness := (true, "d52ae2ddd743d3938e0413c9492b2d81ac0661b7004b97195e9d59de3f082b44"), looks := true }, kinds := [], alts := [], laidByText := true, laidKinds := [.data, .data, .data, .data, .data, .sentinel, .sentinel], laidTests := true, laidLooks := .later }
def WireSendsUptoCardSaid : Prop := Claim7.holds Tryd.pinned (.plain (OpenSpec.upto wireSendsSpec)) wireSendsUptoCard
end Rows
end Go.Proofs.YtadoplgmeoghmaaDoor
