/-
  DERIVED. GIVEN WITH THE SEED: THE CARDS: each row of YtppblcbgkadldaaGreatDoorRows.lean that lists a variable, with what it lists TIED to the program's text (the seventh form; the later family's looks); each row that meets fmt, with fmt's text TOLD by the authors' own Lean function (tested against real Go, not proved from fmt's source: count such statements apart). THE CARD IS WHAT COUNTS. Prove the row's statement (the work); the ties are given (YtppblcbgkadldaaGreatDoorTie.lean); close each card by the builder's one call (the guide's Derived/Test/ToyasCard.lean, 'card_holds'). Laid BY PROGRAM, IN A SANDBOX (cutbox-door.mjs). By AI agents, Wed Nov 11 2026. No macro, syntax, notation, axiom, sorry.
-/
import Derived.Test.YtppblcbgkadldaaGreatDoorRows
import GoSem.ClaimSeven
namespace Go.Proofs.YtppblcbgkadldaaGreatDoor
namespace Rows

/-- THE TIED CARD OF 'raftsmantop.TopForest'. -/
def topForestCard : Claim7 := { stood := { row := topForestRow, standIns := [], harness := (true, "af764896e6e4864726f46ffe69cf68f3a953dd60cfe2c5c3415154eaa8971889"), looks := true }, kinds := [], alts := [], laidByText := true, laidKinds := [.data, .data, .data], laidTests := true, laidLooks := .later }
def TopForestCardSaid : Prop := Claim7.holds Tryz.pinned (.plain (OpenSpec.ofChange topForestSpec)) topForestCard

/-- THE SECOND FORM's CARD OF 'raftsmantop.TopForest'. -/
def topForestUptoCard : Claim7 := { stood := { row := topForestUptoRow, standIns := [], harness := (true, "af764896e6e4864726f46ffe69cf68f3a953dd60cfe2c5c3415154eaa8971889"), looks := true }, kinds := [], alts := [], laidByText := true, laidKinds := [.data, .data, .data], laidTests := true, laidLooks := .later }
def TopForestUptoCardSaid : Prop := Claim7.holds Tryz.pinned (.plain (OpenSpec.upto topForestSpec)) topForestUptoCard
end Rows
end Go.Proofs.YtppblcbgkadldaaGreatDoor
