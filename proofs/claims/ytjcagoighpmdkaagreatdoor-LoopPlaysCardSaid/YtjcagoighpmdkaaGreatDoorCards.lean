/-
  DERIVED. GIVEN WITH THE SEED: THE CARDS: each row of YtjcagoighpmdkaaGreatDoorRows.lean that lists a variable, with what it lists TIED to the program's text (the seventh form; the later family's looks); each row that meets fmt, with fmt's text TOLD by the authors' own Lean function (tested against real Go, not proved from fmt's source: count such statements apart). THE CARD IS WHAT COUNTS. Prove the row's statement (the work); the ties are given (YtjcagoighpmdkaaGreatDoorTie.lean); close each card by the builder's one call (the guide's Derived/Test/ToyasCard.lean, 'card_holds'). Laid BY PROGRAM, IN A SANDBOX (cutbox-door.mjs). By AI agents, Wed Nov 11 2026. No macro, syntax, notation, axiom, sorry.
-/
import Derived.Test.YtjcagoighpmdkaaGreatDoorRows
import GoSem.ClaimSeven
namespace Go.Proofs.YtjcagoighpmdkaaGreatDoor
namespace Rows

/-- THE TIED CARD OF 'flittinglaw7.LoopPlays'. -/
def loopPlaysCard : Claim7 := { stood := { row := loopPlaysRow, standIns := [], harness := (true, "e6509df99361cb01f45a27310ba80f771ffb12061af6bf2730d74cd3d61dbee4"), looks := true }, kinds := [], alts := [], laidByText := true, laidKinds := [.handle], laidTests := true, laidLooks := .later }
def LoopPlaysCardSaid : Prop := Claim7.holds Tryz.pinned (.plain (OpenSpec.ofChange loopPlaysSpec)) loopPlaysCard

/-- THE SECOND FORM's CARD OF 'flittinglaw7.LoopPlays'. -/
def loopPlaysUptoCard : Claim7 := { stood := { row := loopPlaysUptoRow, standIns := [], harness := (true, "e6509df99361cb01f45a27310ba80f771ffb12061af6bf2730d74cd3d61dbee4"), looks := true }, kinds := [], alts := [], laidByText := true, laidKinds := [.handle], laidTests := true, laidLooks := .later }
def LoopPlaysUptoCardSaid : Prop := Claim7.holds Tryz.pinned (.plain (OpenSpec.upto loopPlaysSpec)) loopPlaysUptoCard
end Rows
end Go.Proofs.YtjcagoighpmdkaaGreatDoor
