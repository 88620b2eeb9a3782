/-
  NARROWER THAN 'FOR EVERY INPUT', by the rows' own cells (each row's printed sentence says how): ModelMap: laid · ModelApart: laid.
  DERIVED. THE GIVEN ROWS OF THIS SEAT. 2 by the template 'for every input the law returns true; each argument reads behind the call as it read before'; 0 by the template 'total and deterministic' (their statements: YtdeeclnjkjapcaaDoorTotals.lean).
  GIVEN WITH THE SEED: the statements are not yours to turn. If you find one false, say at which input.
  Laid BY PROGRAM, IN A SANDBOX (cutbox-rows.mjs): the forced cells as the released guide's own fill.sh prints them over the translation a037cd20ce083b70… (all of the seat's roots in one cut). By AI agents, Wed Nov 11 2026. No macro, syntax, notation, axiom, sorry.
-/
import Derived.Test.YtdeeclnjkjapcaaDoorChecked
import GoSem.Claim
import GoSem.ClaimJoined
import GoSem.ClaimMapViews
import Derived.JoinedTies
import Derived.KernelRfl
namespace Go.Proofs.YtdeeclnjkjapcaaDoor
/- THE CELL 'sum', in the pinned program and in every row, IS THE sha256 OF THE DUMP (.gsa) THAT YtdeeclnjkjapcaaDoorProg.lean LOADS. Nothing in Lean hashes anything: it is a label: what it is worth is what the hold of that sum in a sandbox is worth. -/
noncomputable def Tryd.pinned : Pinned := { name := "ytdeeclnjkjapcaadoor", sum := "a037cd20ce083b70494c87c142cfa8c39bf91ed007221dfec740c83ca9d9b402", checked := Tryd.checked }
namespace Rows
def none {H : Type} : Left H := { results := [], args := [] }

/- WHAT THE LISTED PACKAGE-LEVEL VARIABLES READ AS WHEN THE CALL BEGINS. Each datum BY PROGRAM (the guide's laid-datum.mjs) off the statement by which the dump's own 'gosem.cut.vars' lays the variable. In a bare row this is a premise. The card (YtdeeclnjkjapcaaDoorCards.lean) ties it to the program's text. -/
def laid_cuvette_ask_shapes {H : Type} : DataW H := .agg [.agg [.lit (.int .i64 0), .lit (.int .i64 0), .lit (.int .i64 0), .lit (.bool false)], .agg [.lit (.int .i64 4), .lit (.int .i64 0), .lit (.int .i64 0), .lit (.bool true)], .agg [.lit (.int .i64 4), .lit (.int .i64 0), .lit (.int .i64 0), .lit (.bool true)], .agg [.lit (.int .i64 4), .lit (.int .i64 0), .lit (.int .i64 0), .lit (.bool false)], .agg [.lit (.int .i64 4), .lit (.int .i64 0), .lit (.int .i64 0), .lit (.bool false)], .agg [.lit (.int .i64 0), .lit (.int .i64 2), .lit (.int .i64 0), .lit (.bool true)], .agg [.lit (.int .i64 0), .lit (.int .i64 0), .lit (.int .i64 0), .lit (.bool false)], .agg [.lit (.int .i64 0), .lit (.int .i64 0), .lit (.int .i64 8), .lit (.bool false)], .agg [.lit (.int .i64 0), .lit (.int .i64 0), .lit (.int .i64 0), .lit (.bool false)]]

/-- 'cuvettelaw19.ModelMap': WHATEVER THE INPUT: true; the input reads as it did. -/
def modelMapSpec : ChangeSpec := { name := "modelMap", fn := fun _ => fun
  | [d1, d2] => { results := [.lit (.bool true)], args := [d1, d2] }
  | _ => none }
def modelMapRow : OpenClaim := { program := "ytdeeclnjkjapcaadoor", sum := "a037cd20ce083b70494c87c142cfa8c39bf91ed007221dfec740c83ca9d9b402", func := "cuvette/cuvettelaw19.ModelMap", spec := "modelMap", inPlace := ["slices.overlaps[cuvette/api.Item]"], unfollowed := true, recurses := true, named := ["cuvette/ask.shapes"], apart := false, laid := [("cuvette/ask.shapes", laid_cuvette_ask_shapes)] }
def ModelMapSaid : Prop := modelMapRow.holds Tryd.pinned (OpenSpec.ofChange modelMapSpec)

/-- ITS FALSE NEIGHBOUR: 'it returns false'. Refute it at one input. -/
def modelMapWrong : ChangeSpec := { name := "modelMap", fn := fun _ => fun
  | [d1, d2] => { results := [.lit (.bool false)], args := [d1, d2] }
  | _ => none }
def ModelMapWrongFalsely : Prop := modelMapRow.holds Tryd.pinned (OpenSpec.ofChange modelMapWrong)

/-- 'cuvettelaw19.ModelApart': WHATEVER THE INPUT: true; the input reads as it did. -/
def modelApartSpec : ChangeSpec := { name := "modelApart", fn := fun _ => fun
  | [d1, d2, d3] => { results := [.lit (.bool true)], args := [d1, d2, d3] }
  | _ => none }
def modelApartRow : OpenClaim := { program := "ytdeeclnjkjapcaadoor", sum := "a037cd20ce083b70494c87c142cfa8c39bf91ed007221dfec740c83ca9d9b402", func := "cuvette/cuvettelaw19.ModelApart", spec := "modelApart", inPlace := ["slices.overlaps[cuvette/api.Item]"], unfollowed := true, recurses := true, named := ["cuvette/ask.shapes"], apart := false, laid := [("cuvette/ask.shapes", laid_cuvette_ask_shapes)] }
def ModelApartSaid : Prop := modelApartRow.holds Tryd.pinned (OpenSpec.ofChange modelApartSpec)

/-- ITS FALSE NEIGHBOUR: 'it returns false'. Refute it at one input. -/
def modelApartWrong : ChangeSpec := { name := "modelApart", fn := fun _ => fun
  | [d1, d2, d3] => { results := [.lit (.bool false)], args := [d1, d2, d3] }
  | _ => none }
def ModelApartWrongFalsely : Prop := modelApartRow.holds Tryd.pinned (OpenSpec.ofChange modelApartWrong)

/- THE SECOND FORM. 'bulk': how many values and letters a reading holds, each counted each time it is reached (what is shared counts as often as it is met; a slice's spare places count too). A statement '..UptoSaid' is the law's where the arguments, and the package variables that the reading takes, are together of bulk at most 1048576: NARROWER than '..Said'. Prove '..Said' where nothing that the law and all that it calls make is longer than what came in: it says more and counts as full. Else prove '..UptoSaid'. A law counts once. -/
mutual
def uptoBulk {H : Type} : DataW H → Nat
  | .lit (.string bytes) => bytes.length + 1
  | .lit _ => 1
  | .nil => 1
  | .ptr d => uptoBulk d + 1
  | .slice elems spare => uptoBulkAll elems + uptoBulkAll spare + 1
  | .agg parts => uptoBulkAll parts + 1
  | .iface _ d => uptoBulk d + 1
  | .map entries => uptoBulkEntries entries + 1
  | .held _ => 1
def uptoBulkAll {H : Type} : List (DataW H) → Nat
  | [] => 0
  | d :: r => uptoBulk d + uptoBulkAll r
def uptoBulkEntries {H : Type} : List (Lit × DataW H) → Nat
  | [] => 0
  | x :: r => uptoBulkEntry x + uptoBulkEntries r
def uptoBulkEntry {H : Type} : Lit × DataW H → Nat
  | (.string bytes, d) => bytes.length + uptoBulk d + 1
  | (_, d) => uptoBulk d + 1
 end
def uptoSmall : (H : Type) → List (DataW H) → Bool := fun _ ds => decide (uptoBulkAll ds ≤ 1048576)
def OpenSpec.upto (s : _root_.Go.ChangeSpec) : _root_.Go.OpenSpec := { _root_.Go.OpenSpec.ofChange s with cond := some uptoSmall }

/-- 'cuvettelaw19.ModelMap', WHERE WHAT IT READS IS OF BULK AT MOST 1048576: true; the input reads as it did. -/
def modelMapUptoRow : OpenClaim := { program := "ytdeeclnjkjapcaadoor", sum := "a037cd20ce083b70494c87c142cfa8c39bf91ed007221dfec740c83ca9d9b402", func := "cuvette/cuvettelaw19.ModelMap", spec := "modelMap", inPlace := ["slices.overlaps[cuvette/api.Item]"], unfollowed := true, recurses := true, named := ["cuvette/ask.shapes"], apart := false, laid := [("cuvette/ask.shapes", laid_cuvette_ask_shapes)], narrowed := true }
def ModelMapUptoSaid : Prop := modelMapUptoRow.holds Tryd.pinned (OpenSpec.upto modelMapSpec)

/-- 'cuvettelaw19.ModelApart', WHERE WHAT IT READS IS OF BULK AT MOST 1048576: true; the input reads as it did. -/
def modelApartUptoRow : OpenClaim := { program := "ytdeeclnjkjapcaadoor", sum := "a037cd20ce083b70494c87c142cfa8c39bf91ed007221dfec740c83ca9d9b402", func := "cuvette/cuvettelaw19.ModelApart", spec := "modelApart", inPlace := ["slices.overlaps[cuvette/api.Item]"], unfollowed := true, recurses := true, named := ["cuvette/ask.shapes"], apart := false, laid := [("cuvette/ask.shapes", laid_cuvette_ask_shapes)], narrowed := true }
def ModelApartUptoSaid : Prop := modelApartUptoRow.holds Tryd.pinned (OpenSpec.upto modelApartSpec)

end Rows
end Go.Proofs.YtdeeclnjkjapcaaDoor
