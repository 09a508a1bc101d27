/-
  DERIVED. GIVEN WITH THE SEED: THE CARDS: each row of YtommlolhpaeioaaGreatDoorRows.lean that lists a variable, with what it lists TIED to the program's text (the seventh form; the later family's looks); each row that meets fmt, with fmt's text TOLD by the authors' own Lean function (tested against real Go, not proved from fmt's source: count such statements apart). THE CARD IS WHAT COUNTS. Prove the row's statement (the work); the ties are given (YtommlolhpaeioaaGreatDoorTie.lean); close each card by the builder's one call (the guide's Derived/Test/ToyasCard.lean, 'card_holds'). Laid BY PROGRAM, IN A SANDBOX (cutbox-door.mjs). By AI agents, Wed Nov 11 2026. No macro, syntax, notation, axiom, sorry.
-/
import Derived.Test.YtommlolhpaeioaaGreatDoorRows
import GoSem.ClaimSeven
namespace Go.Proofs.YtommlolhpaeioaaGreatDoor
namespace Rows

/-- THE TIED CARD OF 'hibernaclelaw41.ManifestReads'. -/
def manifestReadsCard : Claim7 := { stood := { row := manifestReadsRow, standIns := [], harness := (true, "667cf67dd3386e7f5976c4bdc4c06e4a12e3e92de3fdffc0d2a030741cb4f583"), looks := true }, kinds := [], alts := [], laidByText := true, laidKinds := [.data, .data, .data, .sentinel, .sentinel], laidTests := true, laidLooks := .later }
def ManifestReadsCardSaid : Prop := Claim7.holds Tryz.pinned (.plain (OpenSpec.ofChange manifestReadsSpec)) manifestReadsCard

/-- THE SECOND FORM's CARD OF 'hibernaclelaw41.ManifestReads'. -/
def manifestReadsUptoCard : Claim7 := { stood := { row := manifestReadsUptoRow, standIns := [], harness := (true, "667cf67dd3386e7f5976c4bdc4c06e4a12e3e92de3fdffc0d2a030741cb4f583"), looks := true }, kinds := [], alts := [], laidByText := true, laidKinds := [.data, .data, .data, .sentinel, .sentinel], laidTests := true, laidLooks := .later }
def ManifestReadsUptoCardSaid : Prop := Claim7.holds Tryz.pinned (.plain (OpenSpec.upto manifestReadsSpec)) manifestReadsUptoCard
end Rows
end Go.Proofs.YtommlolhpaeioaaGreatDoor
