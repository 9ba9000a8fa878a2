/-
  DERIVED. GIVEN WITH THE SEED: THE CARDS: each row of YtndhmahkglfopaaGreatDoorRows.lean that lists a variable, with what it lists TIED to the program's text (the seventh form; the later family's looks); each row that meets fmt, with fmt's text TOLD by the authors' own Lean function (tested against real Go, not proved from fmt's source: count such statements apart). THE CARD IS WHAT COUNTS. Prove the row's statement (the work); the ties are given (YtndhmahkglfopaaGreatDoorTie.lean); close each card by the builder's one call (the guide's Derived/Test/ToyasCard.lean, 'card_holds'). Laid BY PROGRAM, IN A SANDBOX (cutbox-door.mjs). By AI agents, Wed Nov 11 2026. No macro, syntax, notation, axiom, sorry.
-/
import Derived.Test.YtndhmahkglfopaaGreatDoorRows
import GoSem.ClaimSeven
namespace Go.Proofs.YtndhmahkglfopaaGreatDoor
namespace Rows

/-- THE TIED CARD OF 'counterpanetop.WholeFiltered'. -/
def wholeFilteredCard : Claim7 := { stood := { row := wholeFilteredRow, standIns := [], harness := (true, "f970eace8a375c0cb93d5d91b7cb7781a7cfe2be739553778124a900ae356792"), looks := false }, kinds := [], alts := [], laidByText := true, laidKinds := [.data, .data, .data, .data, .data, .pinned], laidTests := true, laidLooks := .later }
def WholeFilteredCardSaid : Prop := Claim7.holds Tryz.pinned (.plain (OpenSpec.ofChange wholeFilteredSpec)) wholeFilteredCard

/-- THE TIED CARD OF 'counterpanetop.WholeTurned'. -/
def wholeTurnedCard : Claim7 := { stood := { row := wholeTurnedRow, standIns := [], harness := (true, "f970eace8a375c0cb93d5d91b7cb7781a7cfe2be739553778124a900ae356792"), looks := false }, kinds := [], alts := [], laidByText := true, laidKinds := [.data, .data, .data, .data, .data, .pinned], laidTests := true, laidLooks := .later }
def WholeTurnedCardSaid : Prop := Claim7.holds Tryz.pinned (.plain (OpenSpec.ofChange wholeTurnedSpec)) wholeTurnedCard

/-- THE SECOND FORM's CARD OF 'counterpanetop.WholeFiltered'. -/
def wholeFilteredUptoCard : Claim7 := { stood := { row := wholeFilteredUptoRow, standIns := [], harness := (true, "f970eace8a375c0cb93d5d91b7cb7781a7cfe2be739553778124a900ae356792"), looks := false }, kinds := [], alts := [], laidByText := true, laidKinds := [.data, .data, .data, .data, .data, .pinned], laidTests := true, laidLooks := .later }
def WholeFilteredUptoCardSaid : Prop := Claim7.holds Tryz.pinned (.plain (OpenSpec.upto wholeFilteredSpec)) wholeFilteredUptoCard

/-- THE SECOND FORM's CARD OF 'counterpanetop.WholeTurned'. -/
def wholeTurnedUptoCard : Claim7 := { stood := { row := wholeTurnedUptoRow, standIns := [], harness := (true, "f970eace8a375c0cb93d5d91b7cb7781a7cfe2be739553778124a900ae356792"), looks := false }, kinds := [], alts := [], laidByText := true, laidKinds := [.data, .data, .data, .data, .data, .pinned], laidTests := true, laidLooks := .later }
def WholeTurnedUptoCardSaid : Prop := Claim7.holds Tryz.pinned (.plain (OpenSpec.upto wholeTurnedSpec)) wholeTurnedUptoCard
end Rows
end Go.Proofs.YtndhmahkglfopaaGreatDoor
