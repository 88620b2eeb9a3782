/-
  NARROWER THAN 'FOR EVERY INPUT', by the rows' own cells (each row's printed sentence says how): ModelDoes: laid · ModelSlots: laid.
  DERIVED. THE GIVEN ROWS OF THIS SEAT. 2 by the template 'for every input the law returns true; each argument reads behind the call as it read before'; 0 by the template 'total and deterministic' (their statements: YtnbhhdncbajkgaaGreatDoorTotals.lean).
  GIVEN WITH THE SEED: the statements are not yours to turn. If you find one false, say at which input.
  Laid BY PROGRAM, IN A SANDBOX (cutbox-rows.mjs): the forced cells as the released guide's own fill.sh prints them over the translation c6f4a396cb182995… (all of the seat's roots in one cut). By AI agents, Wed Nov 11 2026. No macro, syntax, notation, axiom, sorry.
-/
import Derived.Test.YtnbhhdncbajkgaaGreatDoorChecked
import GoSem.Claim
import GoSem.ClaimJoined
import GoSem.ClaimMapViews
import Derived.JoinedTies
import Derived.KernelRfl
namespace Go.Proofs.YtnbhhdncbajkgaaGreatDoor
/- THE CELL 'sum', in the pinned program and in every row, IS THE sha256 OF THE DUMP (.gsa) THAT YtnbhhdncbajkgaaGreatDoorProg.lean LOADS. Nothing in Lean hashes anything: it is a label: what it is worth is what the hold of that sum in a sandbox is worth. -/
noncomputable def Tryz.pinned : Pinned := { name := "ytnbhhdncbajkgaagreatdoor", sum := "c6f4a396cb1829955e25a5773e21f1b7d89c0fb81d3cb618c41012741649b30a", checked := Tryz.checked }
namespace Rows
def none {H : Type} : Left H := { results := [], args := [] }

/- WHAT THE LISTED PACKAGE-LEVEL VARIABLES READ AS WHEN THE CALL BEGINS. Each datum BY PROGRAM (the guide's laid-datum.mjs) off the statement by which the dump's own 'gosem.cut.vars' lays the variable. In a bare row this is a premise. The card (YtnbhhdncbajkgaaGreatDoorCards.lean) ties it to the program's text. -/
def laid_cuvette_ask_shapes {H : Type} : DataW H := .agg [.agg [.lit (.int .i64 0), .lit (.int .i64 0), .lit (.int .i64 0), .lit (.bool false)], .agg [.lit (.int .i64 4), .lit (.int .i64 0), .lit (.int .i64 0), .lit (.bool true)], .agg [.lit (.int .i64 4), .lit (.int .i64 0), .lit (.int .i64 0), .lit (.bool true)], .agg [.lit (.int .i64 4), .lit (.int .i64 0), .lit (.int .i64 0), .lit (.bool false)], .agg [.lit (.int .i64 4), .lit (.int .i64 0), .lit (.int .i64 0), .lit (.bool false)], .agg [.lit (.int .i64 0), .lit (.int .i64 2), .lit (.int .i64 0), .lit (.bool true)], .agg [.lit (.int .i64 0), .lit (.int .i64 0), .lit (.int .i64 0), .lit (.bool false)], .agg [.lit (.int .i64 0), .lit (.int .i64 0), .lit (.int .i64 8), .lit (.bool false)], .agg [.lit (.int .i64 0), .lit (.int .i64 0), .lit (.int .i64 0), .lit (.bool false)]]

/-- 'cuvettelaw19.ModelDoes': WHATEVER THE INPUT: true; the input reads as it did. -/
def modelDoesSpec : ChangeSpec := { name := "modelDoes", fn := fun _ => fun
  | [d1, d2, d3, d4, d5, d6, d7, d8] => { results := [.lit (.bool true)], args := [d1, d2, d3, d4, d5, d6, d7, d8] }
  | _ => none }
def modelDoesRow : OpenClaim := { program := "ytnbhhdncbajkgaagreatdoor", sum := "c6f4a396cb1829955e25a5773e21f1b7d89c0fb81d3cb618c41012741649b30a", func := "cuvette/cuvettelaw19.ModelDoes", spec := "modelDoes", inPlace := ["slices.overlaps[cuvette/api.Item]"], unfollowed := true, recurses := true, named := ["cuvette/ask.shapes"], apart := false, laid := [("cuvette/ask.shapes", laid_cuvette_ask_shapes)] }
def ModelDoesSaid : Prop := modelDoesRow.holds Tryz.pinned (OpenSpec.ofChange modelDoesSpec)

/-- ITS FALSE NEIGHBOUR: 'it returns false'. Refute it at one input. -/
def modelDoesWrong : ChangeSpec := { name := "modelDoes", fn := fun _ => fun
  | [d1, d2, d3, d4, d5, d6, d7, d8] => { results := [.lit (.bool false)], args := [d1, d2, d3, d4, d5, d6, d7, d8] }
  | _ => none }
def ModelDoesWrongFalsely : Prop := modelDoesRow.holds Tryz.pinned (OpenSpec.ofChange modelDoesWrong)

/-- 'cuvettelaw19.ModelSlots': WHATEVER THE INPUT: true; the input reads as it did. -/
def modelSlotsSpec : ChangeSpec := { name := "modelSlots", fn := fun _ => fun
  | [d1, d2, d3, d4] => { results := [.lit (.bool true)], args := [d1, d2, d3, d4] }
  | _ => none }
def modelSlotsRow : OpenClaim := { program := "ytnbhhdncbajkgaagreatdoor", sum := "c6f4a396cb1829955e25a5773e21f1b7d89c0fb81d3cb618c41012741649b30a", func := "cuvette/cuvettelaw19.ModelSlots", spec := "modelSlots", inPlace := ["slices.overlaps[cuvette/api.Item]"], unfollowed := true, recurses := true, named := ["cuvette/ask.shapes"], apart := false, laid := [("cuvette/ask.shapes", laid_cuvette_ask_shapes)] }
def ModelSlotsSaid : Prop := modelSlotsRow.holds Tryz.pinned (OpenSpec.ofChange modelSlotsSpec)

/-- ITS FALSE NEIGHBOUR: 'it returns false'. Refute it at one input. -/
def modelSlotsWrong : ChangeSpec := { name := "modelSlots", fn := fun _ => fun
  | [d1, d2, d3, d4] => { results := [.lit (.bool false)], args := [d1, d2, d3, d4] }
  | _ => none }
def ModelSlotsWrongFalsely : Prop := modelSlotsRow.holds Tryz.pinned (OpenSpec.ofChange modelSlotsWrong)

/- THE SECOND FORM. 'bulk': how many values and letters a reading holds, each counted each time it is reached (what is shared counts as often as it is met; a slice's spare places count too). A statement '..UptoSaid' is the law's where the arguments, and the package variables that the reading takes, are together of bulk at most 1048576: NARROWER than '..Said'. Prove '..Said' where nothing that the law and all that it calls make is longer than what came in: it says more and counts as full. Else prove '..UptoSaid'. A law counts once. -/
mutual
def uptoBulk {H : Type} : DataW H → Nat
  | .lit (.string bytes) => bytes.length + 1
  | .lit _ => 1
  | .nil => 1
  | .ptr d => uptoBulk d + 1
  | .slice elems spare => uptoBulkAll elems + uptoBulkAll spare + 1
  | .agg parts => uptoBulkAll parts + 1
  | .iface _ d => uptoBulk d + 1
  | .map entries => uptoBulkEntries entries + 1
  | .held _ => 1
def uptoBulkAll {H : Type} : List (DataW H) → Nat
  | [] => 0
  | d :: r => uptoBulk d + uptoBulkAll r
def uptoBulkEntries {H : Type} : List (Lit × DataW H) → Nat
  | [] => 0
  | x :: r => uptoBulkEntry x + uptoBulkEntries r
def uptoBulkEntry {H : Type} : Lit × DataW H → Nat
  | (.string bytes, d) => bytes.length + uptoBulk d + 1
  | (_, d) => uptoBulk d + 1
 end
def uptoSmall : (H : Type) → List (DataW H) → Bool := fun _ ds => decide (uptoBulkAll ds ≤ 1048576)
def OpenSpec.upto (s : _root_.Go.ChangeSpec) : _root_.Go.OpenSpec := { _root_.Go.OpenSpec.ofChange s with cond := some uptoSmall }

/-- 'cuvettelaw19.ModelDoes', WHERE WHAT IT READS IS OF BULK AT MOST 1048576: true; the input reads as it did. -/
def modelDoesUptoRow : OpenClaim := { program := "ytnbhhdncbajkgaagreatdoor", sum := "c6f4a396cb1829955e25a5773e21f1b7d89c0fb81d3cb618c41012741649b30a", func := "cuvette/cuvettelaw19.ModelDoes", spec := "modelDoes", inPlace := ["slices.overlaps[cuvette/api.Item]"], unfollowed := true, recurses := true, named := ["cuvette/ask.shapes"], apart := false, laid := [("cuvette/ask.shapes", laid_cuvette_ask_shapes)], narrowed := true }
def ModelDoesUptoSaid : Prop := modelDoesUptoRow.holds Tryz.pinned (OpenSpec.upto modelDoesSpec)

/-- 'cuvettelaw19.ModelSlots', WHERE WHAT IT READS IS OF BULK AT MOST 1048576: true; the input reads as it did. -/
def modelSlotsUptoRow : OpenClaim := { program := "ytnbhhdncbajkgaagreatdoor", sum := "c6f4a396cb1829955e25a5773e21f1b7d89c0fb81d3cb618c41012741649b30a", func := "cuvette/cuvettelaw19.ModelSlots", spec := "modelSlots", inPlace := ["slices.overlaps[cuvette/api.Item]"], unfollowed := true, recurses := true, named := ["cuvette/ask.shapes"], apart := false, laid := [("cuvette/ask.shapes", laid_cuvette_ask_shapes)], narrowed := true }
def ModelSlotsUptoSaid : Prop := modelSlotsUptoRow.holds Tryz.pinned (OpenSpec.upto modelSlotsSpec)

end Rows
end Go.Proofs.YtnbhhdncbajkgaaGreatDoor
