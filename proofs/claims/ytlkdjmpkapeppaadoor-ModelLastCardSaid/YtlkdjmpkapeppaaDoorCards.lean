/-
  DERIVED. GIVEN WITH THE SEED: THE CARDS: each row of YtlkdjmpkapeppaaDoorRows.lean that lists a variable, with what it lists TIED to the program's text (the seventh form; the later family's looks); each row that meets fmt, with fmt's text TOLD by the authors' own Lean function (tested against real Go, not proved from fmt's source: count such statements apart). THE CARD IS WHAT COUNTS. Prove the row's statement (the work); the ties are given (YtlkdjmpkapeppaaDoorTie.lean); close each card by the builder's one call (the guide's Derived/Test/ToyasCard.lean, 'card_holds'). Laid BY PROGRAM, IN A SANDBOX (cutbox-door.mjs). By AI agents, Wed Nov 11 2026. No macro, syntax, notation, axiom, sorry.
-/
import Derived.Test.YtlkdjmpkapeppaaDoorRows
import GoSem.ClaimSeven
namespace Go.Proofs.YtlkdjmpkapeppaaDoor
namespace Rows

/-- THE TIED CARD OF 'cuvettelaw19.ModelMap'. -/
def modelMapCard : Claim7 := { stood := { row := modelMapRow, standIns := [], harness := (true, "8fb7ff6e75aa28b261ea4719dcc92cee886f149228cee7dcee9146e8f43e8aae"), looks := true }, kinds := [], alts := [], laidByText := true, laidKinds := [.data], laidTests := true, laidLooks := .later }
def ModelMapCardSaid : Prop := Claim7.holds Tryd.pinned (.plain (OpenSpec.ofChange modelMapSpec)) modelMapCard

/-- THE TIED CARD OF 'cuvettelaw19.ModelLast'. -/
def modelLastCard : Claim7 := { stood := { row := modelLastRow, standIns := [], harness := (true, "8fb7ff6e75aa28b261ea4719dcc92cee886f149228cee7dcee9146e8f43e8aae"), looks := true }, kinds := [], alts := [], laidByText := true, laidKinds := [.data], laidTests := true, laidLooks := .later }
def ModelLastCardSaid : Prop := Claim7.holds Tryd.pinned (.plain (OpenSpec.ofChange modelLastSpec)) modelLastCard

/-- THE TIED CARD OF 'cuvettelaw19.ModelApart'. -/
def modelApartCard : Claim7 := { stood := { row := modelApartRow, standIns := [], harness := (true, "8fb7ff6e75aa28b261ea4719dcc92cee886f149228cee7dcee9146e8f43e8aae"), looks := true }, kinds := [], alts := [], laidByText := true, laidKinds := [.data], laidTests := true, laidLooks := .later }
def ModelApartCardSaid : Prop := Claim7.holds Tryd.pinned (.plain (OpenSpec.ofChange modelApartSpec)) modelApartCard

/-- THE SECOND FORM's CARD OF 'cuvettelaw19.ModelMap'. -/
def modelMapUptoCard : Claim7 := { stood := { row := modelMapUptoRow, standIns := [], harness := (true, "8fb7ff6e75aa28b261ea4719dcc92cee886f149228cee7dcee9146e8f43e8aae"), looks := true }, kinds := [], alts := [], laidByText := true, laidKinds := [.data], laidTests := true, laidLooks := .later }
def ModelMapUptoCardSaid : Prop := Claim7.holds Tryd.pinned (.plain (OpenSpec.upto modelMapSpec)) modelMapUptoCard

/-- THE SECOND FORM's CARD OF 'cuvettelaw19.ModelLast'. -/
def modelLastUptoCard : Claim7 := { stood := { row := modelLastUptoRow, standIns := [], harness := (true, "8fb7ff6e75aa28b261ea4719dcc92cee886f149228cee7dcee9146e8f43e8aae"), looks := true }, kinds := [], alts := [], laidByText := true, laidKinds := [.data], laidTests := true, laidLooks := .later }
def ModelLastUptoCardSaid : Prop := Claim7.holds Tryd.pinned (.plain (OpenSpec.upto modelLastSpec)) modelLastUptoCard

/-- THE SECOND FORM's CARD OF 'cuvettelaw19.ModelApart'. -/
def modelApartUptoCard : Claim7 := { stood := { row := modelApartUptoRow, standIns := [], harness := (true, "8fb7ff6e75aa28b261ea4719dcc92cee886f149228cee7dcee9146e8f43e8aae"), looks := true }, kinds := [], alts := [], laidByText := true, laidKinds := [.data], laidTests := true, laidLooks := .later }
def ModelApartUptoCardSaid : Prop := Claim7.holds Tryd.pinned (.plain (OpenSpec.upto modelApartSpec)) modelApartUptoCard
end Rows
end Go.Proofs.YtlkdjmpkapeppaaDoor
