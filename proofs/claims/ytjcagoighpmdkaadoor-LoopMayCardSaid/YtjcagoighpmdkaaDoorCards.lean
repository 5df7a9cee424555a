/-
  DERIVED. GIVEN WITH THE SEED: THE CARDS: each row of YtjcagoighpmdkaaDoorRows.lean that lists a variable, with what it lists TIED to the program's text (the seventh form; the later family's looks); each row that meets fmt, with fmt's text TOLD by the authors' own Lean function (tested against real Go, not proved from fmt's source: count such statements apart). THE CARD IS WHAT COUNTS. Prove the row's statement (the work); the ties are given (YtjcagoighpmdkaaDoorTie.lean); close each card by the builder's one call (the guide's Derived/Test/ToyasCard.lean, 'card_holds'). Laid BY PROGRAM, IN A SANDBOX (cutbox-door.mjs). By AI agents, Wed Nov 11 2026. No macro, syntax, notation, axiom, sorry.
-/
import Derived.Test.YtjcagoighpmdkaaDoorRows
import GoSem.ClaimSeven
namespace Go.Proofs.YtjcagoighpmdkaaDoor
namespace Rows

/-- THE TIED CARD OF 'flittinglaw7.LoopMay'. -/
def loopMayCard : Claim7 := { stood := { row := loopMayRow, standIns := [], harness := (true, "34c1942ab3c51a0afe448ba84a7499261e486fa621041a53b0eb9731324ef163"), looks := true }, kinds := [], alts := [], laidByText := true, laidKinds := [.handle], laidTests := true, laidLooks := .later }
def LoopMayCardSaid : Prop := Claim7.holds Tryd.pinned (.plain (OpenSpec.ofChange loopMaySpec)) loopMayCard

/-- THE TIED CARD OF 'flittinglaw7.LoopElder'. -/
def loopElderCard : Claim7 := { stood := { row := loopElderRow, standIns := [], harness := (true, "34c1942ab3c51a0afe448ba84a7499261e486fa621041a53b0eb9731324ef163"), looks := true }, kinds := [], alts := [], laidByText := true, laidKinds := [.handle], laidTests := true, laidLooks := .later }
def LoopElderCardSaid : Prop := Claim7.holds Tryd.pinned (.plain (OpenSpec.ofChange loopElderSpec)) loopElderCard

/-- THE TIED CARD OF 'flittinglaw7.LoopAround'. -/
def loopAroundCard : Claim7 := { stood := { row := loopAroundRow, standIns := [], harness := (true, "34c1942ab3c51a0afe448ba84a7499261e486fa621041a53b0eb9731324ef163"), looks := true }, kinds := [], alts := [], laidByText := true, laidKinds := [.handle], laidTests := true, laidLooks := .later }
def LoopAroundCardSaid : Prop := Claim7.holds Tryd.pinned (.plain (OpenSpec.ofChange loopAroundSpec)) loopAroundCard

/-- THE TIED CARD OF 'flittinglaw7.LoopCuts'. -/
def loopCutsCard : Claim7 := { stood := { row := loopCutsRow, standIns := [], harness := (true, "34c1942ab3c51a0afe448ba84a7499261e486fa621041a53b0eb9731324ef163"), looks := true }, kinds := [], alts := [], laidByText := true, laidKinds := [.handle], laidTests := true, laidLooks := .later }
def LoopCutsCardSaid : Prop := Claim7.holds Tryd.pinned (.plain (OpenSpec.ofChange loopCutsSpec)) loopCutsCard

/-- THE SECOND FORM's CARD OF 'flittinglaw7.LoopMay'. -/
def loopMayUptoCard : Claim7 := { stood := { row := loopMayUptoRow, standIns := [], harness := (true, "34c1942ab3c51a0afe448ba84a7499261e486fa621041a53b0eb9731324ef163"), looks := true }, kinds := [], alts := [], laidByText := true, laidKinds := [.handle], laidTests := true, laidLooks := .later }
def LoopMayUptoCardSaid : Prop := Claim7.holds Tryd.pinned (.plain (OpenSpec.upto loopMaySpec)) loopMayUptoCard

/-- THE SECOND FORM's CARD OF 'flittinglaw7.LoopElder'. -/
def loopElderUptoCard : Claim7 := { stood := { row := loopElderUptoRow, standIns := [], harness := (true, "34c1942ab3c51a0afe448ba84a7499261e486fa621041a53b0eb9731324ef163"), looks := true }, kinds := [], alts := [], laidByText := true, laidKinds := [.handle], laidTests := true, laidLooks := .later }
def LoopElderUptoCardSaid : Prop := Claim7.holds Tryd.pinned (.plain (OpenSpec.upto loopElderSpec)) loopElderUptoCard

/-- THE SECOND FORM's CARD OF 'flittinglaw7.LoopAround'. -/
def loopAroundUptoCard : Claim7 := { stood := { row := loopAroundUptoRow, standIns := [], harness := (true, "34c1942ab3c51a0afe448ba84a7499261e486fa621041a53b0eb9731324ef163"), looks := true }, kinds := [], alts := [], laidByText := true, laidKinds := [.handle], laidTests := true, laidLooks := .later }
def LoopAroundUptoCardSaid : Prop := Claim7.holds Tryd.pinned (.plain (OpenSpec.upto loopAroundSpec)) loopAroundUptoCard

/-- THE SECOND FORM's CARD OF 'flittinglaw7.LoopCuts'. -/
def loopCutsUptoCard : Claim7 := { stood := { row := loopCutsUptoRow, standIns := [], harness := (true, "34c1942ab3c51a0afe448ba84a7499261e486fa621041a53b0eb9731324ef163"), looks := true }, kinds := [], alts := [], laidByText := true, laidKinds := [.handle], laidTests := true, laidLooks := .later }
def LoopCutsUptoCardSaid : Prop := Claim7.holds Tryd.pinned (.plain (OpenSpec.upto loopCutsSpec)) loopCutsUptoCard
end Rows
end Go.Proofs.YtjcagoighpmdkaaDoor
