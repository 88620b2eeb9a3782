/-
  DERIVED. GIVEN WITH THE SEED: THE CARDS: each row of YtnbhhdncbajkgaaGreatDoorRows.lean that lists a variable, with what it lists TIED to the program's text (the seventh form; the later family's looks); each row that meets fmt, with fmt's text TOLD by the authors' own Lean function (tested against real Go, not proved from fmt's source: count such statements apart). THE CARD IS WHAT COUNTS. Prove the row's statement (the work); the ties are given (YtnbhhdncbajkgaaGreatDoorTie.lean); close each card by the builder's one call (the guide's Derived/Test/ToyasCard.lean, 'card_holds'). Laid BY PROGRAM, IN A SANDBOX (cutbox-door.mjs). By AI agents, Wed Nov 11 2026. No macro, syntax, notation, axiom, sorry.
-/
import Derived.Test.YtnbhhdncbajkgaaGreatDoorRows
import GoSem.ClaimSeven
namespace Go.Proofs.YtnbhhdncbajkgaaGreatDoor
namespace Rows

/-- THE TIED CARD OF 'cuvettelaw19.ModelDoes'. -/
def modelDoesCard : Claim7 := { stood := { row := modelDoesRow, standIns := [], harness := (true, "2fe1090e70f2a823146aa711be9cf1983b6b67ef998ee44a02b5d1c35a3a1dd3"), looks := true }, kinds := [], alts := [], laidByText := true, laidKinds := [.data], laidTests := true, laidLooks := .later }
def ModelDoesCardSaid : Prop := Claim7.holds Tryz.pinned (.plain (OpenSpec.ofChange modelDoesSpec)) modelDoesCard

/-- THE TIED CARD OF 'cuvettelaw19.ModelSlots'. -/
def modelSlotsCard : Claim7 := { stood := { row := modelSlotsRow, standIns := [], harness := (true, "2fe1090e70f2a823146aa711be9cf1983b6b67ef998ee44a02b5d1c35a3a1dd3"), looks := true }, kinds := [], alts := [], laidByText := true, laidKinds := [.data], laidTests := true, laidLooks := .later }
def ModelSlotsCardSaid : Prop := Claim7.holds Tryz.pinned (.plain (OpenSpec.ofChange modelSlotsSpec)) modelSlotsCard

/-- THE SECOND FORM's CARD OF 'cuvettelaw19.ModelDoes'. -/
def modelDoesUptoCard : Claim7 := { stood := { row := modelDoesUptoRow, standIns := [], harness := (true, "2fe1090e70f2a823146aa711be9cf1983b6b67ef998ee44a02b5d1c35a3a1dd3"), looks := true }, kinds := [], alts := [], laidByText := true, laidKinds := [.data], laidTests := true, laidLooks := .later }
def ModelDoesUptoCardSaid : Prop := Claim7.holds Tryz.pinned (.plain (OpenSpec.upto modelDoesSpec)) modelDoesUptoCard

/-- THE SECOND FORM's CARD OF 'cuvettelaw19.ModelSlots'. -/
def modelSlotsUptoCard : Claim7 := { stood := { row := modelSlotsUptoRow, standIns := [], harness := (true, "2fe1090e70f2a823146aa711be9cf1983b6b67ef998ee44a02b5d1c35a3a1dd3"), looks := true }, kinds := [], alts := [], laidByText := true, laidKinds := [.data], laidTests := true, laidLooks := .later }
def ModelSlotsUptoCardSaid : Prop := Claim7.holds Tryz.pinned (.plain (OpenSpec.upto modelSlotsSpec)) modelSlotsUptoCard
end Rows
end Go.Proofs.YtnbhhdncbajkgaaGreatDoor
