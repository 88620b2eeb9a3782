/-
  DERIVED. GIVEN WITH THE SEED: THE CARDS: each row of YtdeeclnjkjapcaaDoorRows.lean that lists a variable, with what it lists TIED to the program's text (the seventh form; the later family's looks); each row that meets fmt, with fmt's text TOLD by the authors' own Lean function (tested against real Go, not proved from fmt's source: count such statements apart). THE CARD IS WHAT COUNTS. Prove the row's statement (the work); the ties are given (YtdeeclnjkjapcaaDoorTie.lean); close each card by the builder's one call (the guide's Derived/Test/ToyasCard.lean, 'card_holds'). Laid BY PROGRAM, IN A SANDBOX (cutbox-door.mjs). By AI agents, Wed Nov 11 2026. No macro, syntax, notation, axiom, sorry.
-/
import Derived.Test.YtdeeclnjkjapcaaDoorRows
import GoSem.ClaimSeven
namespace Go.Proofs.YtdeeclnjkjapcaaDoor
namespace Rows

/-- THE TIED CARD OF 'cuvettelaw19.ModelMap'. -/
def modelMapCard : Claim7 := { stood := { row := modelMapRow, standIns := [], harness := (true, "65a08271bbb0eb8f55a90ae66b0cf88f1d1c55b8432fd0c9eea209a095eaca9a"), looks := true }, kinds := [], alts := [], laidByText := true, laidKinds := [.data], laidTests := true, laidLooks := .later }
def ModelMapCardSaid : Prop := Claim7.holds Tryd.pinned (.plain (OpenSpec.ofChange modelMapSpec)) modelMapCard

/-- THE TIED CARD OF 'cuvettelaw19.ModelApart'. -/
def modelApartCard : Claim7 := { stood := { row := modelApartRow, standIns := [], harness := (true, "65a08271bbb0eb8f55a90ae66b0cf88f1d1c55b8432fd0c9eea209a095eaca9a"), looks := true }, kinds := [], alts := [], laidByText := true, laidKinds := [.data], laidTests := true, laidLooks := .later }
def ModelApartCardSaid : Prop := Claim7.holds Tryd.pinned (.plain (OpenSpec.ofChange modelApartSpec)) modelApartCard

/-- THE SECOND FORM's CARD OF 'cuvettelaw19.ModelMap'. -/
def modelMapUptoCard : Claim7 := { stood := { row := modelMapUptoRow, standIns := [], harness := (true, "65a08271bbb0eb8f55a90ae66b0cf88f1d1c55b8432fd0c9eea209a095eaca9a"), looks := true }, kinds := [], alts := [], laidByText := true, laidKinds := [.data], laidTests := true, laidLooks := .later }
def ModelMapUptoCardSaid : Prop := Claim7.holds Tryd.pinned (.plain (OpenSpec.upto modelMapSpec)) modelMapUptoCard

/-- THE SECOND FORM's CARD OF 'cuvettelaw19.ModelApart'. -/
def modelApartUptoCard : Claim7 := { stood := { row := modelApartUptoRow, standIns := [], harness := (true, "65a08271bbb0eb8f55a90ae66b0cf88f1d1c55b8432fd0c9eea209a095eaca9a"), looks := true }, kinds := [], alts := [], laidByText := true, laidKinds := [.data], laidTests := true, laidLooks := .later }
def ModelApartUptoCardSaid : Prop := Claim7.holds Tryd.pinned (.plain (OpenSpec.upto modelApartSpec)) modelApartUptoCard
end Rows
end Go.Proofs.YtdeeclnjkjapcaaDoor
