/-
  No cell of these rows narrows 'for every input' (looked for: loops, veiled, ifaces, maps, wideKeys, modest, calm, conditions, laid).
  DERIVED. THE GIVEN ROWS OF THIS SEAT. 8 by the template 'for every input the law returns true; each argument reads behind the call as it read before'; 0 by the template 'total and deterministic' (their statements: YtlkdjmpkapeppaaTotals.lean).
  GIVEN WITH THE SEED: the statements are not yours to turn. If you find one false, say at which input.
  Laid BY PROGRAM, IN A SANDBOX (cutbox-rows.mjs): the forced cells as the released guide's own fill.sh prints them over the translation 674e2014353ea5e1… (all of the seat's roots in one cut). By AI agents, Wed Nov 11 2026. No macro, syntax, notation, axiom, sorry.
-/
import Derived.Test.YtlkdjmpkapeppaaChecked
import GoSem.Claim
import GoSem.ClaimJoined
import GoSem.ClaimMapViews
import Derived.JoinedTies
import Derived.KernelRfl
namespace Go.Proofs.Ytlkdjmpkapeppaa
/- THE CELL 'sum', in the pinned program and in every row, IS THE sha256 OF THE DUMP (.gsa) THAT YtlkdjmpkapeppaaProg.lean LOADS. Nothing in Lean hashes anything: it is a label: what it is worth is what the hold of that sum in a sandbox is worth. -/
noncomputable def Try.pinned : Pinned := { name := "ytlkdjmpkapeppaa", sum := "674e2014353ea5e1caf7c19531ee9640ecc6bf2960f6bb7db2c6a95a50379be4", checked := Try.checked }
namespace Rows
def none {H : Type} : Left H := { results := [], args := [] }

/-- 'cuvettelaw16.BestNearest': WHATEVER THE INPUT: true; the input reads as it did. -/
def bestNearestSpec : ChangeSpec := { name := "bestNearest", fn := fun _ => fun
  | [d1, d2] => { results := [.lit (.bool true)], args := [d1, d2] }
  | _ => none }
def bestNearestRow : OpenClaim := { program := "ytlkdjmpkapeppaa", sum := "674e2014353ea5e1caf7c19531ee9640ecc6bf2960f6bb7db2c6a95a50379be4", func := "cuvette/cuvettelaw16.BestNearest", spec := "bestNearest", unfollowed := true, recurses := true, apart := false }
def BestNearestSaid : Prop := bestNearestRow.holds Try.pinned (OpenSpec.ofChange bestNearestSpec)

/-- ITS FALSE NEIGHBOUR: 'it returns false'. Refute it at one input. -/
def bestNearestWrong : ChangeSpec := { name := "bestNearest", fn := fun _ => fun
  | [d1, d2] => { results := [.lit (.bool false)], args := [d1, d2] }
  | _ => none }
def BestNearestWrongFalsely : Prop := bestNearestRow.holds Try.pinned (OpenSpec.ofChange bestNearestWrong)

/-- 'cuvettelaw16.BestParts': WHATEVER THE INPUT: true; the input reads as it did. -/
def bestPartsSpec : ChangeSpec := { name := "bestParts", fn := fun _ => fun
  | [d1, d2, d3] => { results := [.lit (.bool true)], args := [d1, d2, d3] }
  | _ => none }
def bestPartsRow : OpenClaim := { program := "ytlkdjmpkapeppaa", sum := "674e2014353ea5e1caf7c19531ee9640ecc6bf2960f6bb7db2c6a95a50379be4", func := "cuvette/cuvettelaw16.BestParts", spec := "bestParts", unfollowed := true, recurses := true, apart := false }
def BestPartsSaid : Prop := bestPartsRow.holds Try.pinned (OpenSpec.ofChange bestPartsSpec)

/-- ITS FALSE NEIGHBOUR: 'it returns false'. Refute it at one input. -/
def bestPartsWrong : ChangeSpec := { name := "bestParts", fn := fun _ => fun
  | [d1, d2, d3] => { results := [.lit (.bool false)], args := [d1, d2, d3] }
  | _ => none }
def BestPartsWrongFalsely : Prop := bestPartsRow.holds Try.pinned (OpenSpec.ofChange bestPartsWrong)

/-- 'cuvettelaw16.BestOrder': WHATEVER THE INPUT: true; the input reads as it did. -/
def bestOrderSpec : ChangeSpec := { name := "bestOrder", fn := fun _ => fun
  | [d1, d2, d3] => { results := [.lit (.bool true)], args := [d1, d2, d3] }
  | _ => none }
def bestOrderRow : OpenClaim := { program := "ytlkdjmpkapeppaa", sum := "674e2014353ea5e1caf7c19531ee9640ecc6bf2960f6bb7db2c6a95a50379be4", func := "cuvette/cuvettelaw16.BestOrder", spec := "bestOrder", unfollowed := true, recurses := true, apart := false }
def BestOrderSaid : Prop := bestOrderRow.holds Try.pinned (OpenSpec.ofChange bestOrderSpec)

/-- ITS FALSE NEIGHBOUR: 'it returns false'. Refute it at one input. -/
def bestOrderWrong : ChangeSpec := { name := "bestOrder", fn := fun _ => fun
  | [d1, d2, d3] => { results := [.lit (.bool false)], args := [d1, d2, d3] }
  | _ => none }
def BestOrderWrongFalsely : Prop := bestOrderRow.holds Try.pinned (OpenSpec.ofChange bestOrderWrong)

/-- 'cuvettelaw16.BestDoes': WHATEVER THE INPUT: true; the input reads as it did. -/
def bestDoesSpec : ChangeSpec := { name := "bestDoes", fn := fun _ => fun
  | [d1, d2, d3, d4] => { results := [.lit (.bool true)], args := [d1, d2, d3, d4] }
  | _ => none }
def bestDoesRow : OpenClaim := { program := "ytlkdjmpkapeppaa", sum := "674e2014353ea5e1caf7c19531ee9640ecc6bf2960f6bb7db2c6a95a50379be4", func := "cuvette/cuvettelaw16.BestDoes", spec := "bestDoes", unfollowed := true, recurses := true, apart := false }
def BestDoesSaid : Prop := bestDoesRow.holds Try.pinned (OpenSpec.ofChange bestDoesSpec)

/-- ITS FALSE NEIGHBOUR: 'it returns false'. Refute it at one input. -/
def bestDoesWrong : ChangeSpec := { name := "bestDoes", fn := fun _ => fun
  | [d1, d2, d3, d4] => { results := [.lit (.bool false)], args := [d1, d2, d3, d4] }
  | _ => none }
def BestDoesWrongFalsely : Prop := bestDoesRow.holds Try.pinned (OpenSpec.ofChange bestDoesWrong)

/-- 'cuvettelaw16.BestWorst': WHATEVER THE INPUT: true; the input reads as it did. -/
def bestWorstSpec : ChangeSpec := { name := "bestWorst", fn := fun _ => fun
  | [d1, d2, d3] => { results := [.lit (.bool true)], args := [d1, d2, d3] }
  | _ => none }
def bestWorstRow : OpenClaim := { program := "ytlkdjmpkapeppaa", sum := "674e2014353ea5e1caf7c19531ee9640ecc6bf2960f6bb7db2c6a95a50379be4", func := "cuvette/cuvettelaw16.BestWorst", spec := "bestWorst", unfollowed := true, recurses := true, apart := false }
def BestWorstSaid : Prop := bestWorstRow.holds Try.pinned (OpenSpec.ofChange bestWorstSpec)

/-- ITS FALSE NEIGHBOUR: 'it returns false'. Refute it at one input. -/
def bestWorstWrong : ChangeSpec := { name := "bestWorst", fn := fun _ => fun
  | [d1, d2, d3] => { results := [.lit (.bool false)], args := [d1, d2, d3] }
  | _ => none }
def BestWorstWrongFalsely : Prop := bestWorstRow.holds Try.pinned (OpenSpec.ofChange bestWorstWrong)

/-- 'cuvettelaw17.ScanNearest': WHATEVER THE INPUT: true; the input reads as it did. -/
def scanNearestSpec : ChangeSpec := { name := "scanNearest", fn := fun _ => fun
  | [d1, d2, d3] => { results := [.lit (.bool true)], args := [d1, d2, d3] }
  | _ => none }
def scanNearestRow : OpenClaim := { program := "ytlkdjmpkapeppaa", sum := "674e2014353ea5e1caf7c19531ee9640ecc6bf2960f6bb7db2c6a95a50379be4", func := "cuvette/cuvettelaw17.ScanNearest", spec := "scanNearest", unfollowed := true, recurses := true, apart := false }
def ScanNearestSaid : Prop := scanNearestRow.holds Try.pinned (OpenSpec.ofChange scanNearestSpec)

/-- ITS FALSE NEIGHBOUR: 'it returns false'. Refute it at one input. -/
def scanNearestWrong : ChangeSpec := { name := "scanNearest", fn := fun _ => fun
  | [d1, d2, d3] => { results := [.lit (.bool false)], args := [d1, d2, d3] }
  | _ => none }
def ScanNearestWrongFalsely : Prop := scanNearestRow.holds Try.pinned (OpenSpec.ofChange scanNearestWrong)

/-- 'cuvettelaw17.ScanTurned': WHATEVER THE INPUT: true; the input reads as it did. -/
def scanTurnedSpec : ChangeSpec := { name := "scanTurned", fn := fun _ => fun
  | [d1, d2, d3, d4] => { results := [.lit (.bool true)], args := [d1, d2, d3, d4] }
  | _ => none }
def scanTurnedRow : OpenClaim := { program := "ytlkdjmpkapeppaa", sum := "674e2014353ea5e1caf7c19531ee9640ecc6bf2960f6bb7db2c6a95a50379be4", func := "cuvette/cuvettelaw17.ScanTurned", spec := "scanTurned", unfollowed := true, recurses := true, apart := false }
def ScanTurnedSaid : Prop := scanTurnedRow.holds Try.pinned (OpenSpec.ofChange scanTurnedSpec)

/-- ITS FALSE NEIGHBOUR: 'it returns false'. Refute it at one input. -/
def scanTurnedWrong : ChangeSpec := { name := "scanTurned", fn := fun _ => fun
  | [d1, d2, d3, d4] => { results := [.lit (.bool false)], args := [d1, d2, d3, d4] }
  | _ => none }
def ScanTurnedWrongFalsely : Prop := scanTurnedRow.holds Try.pinned (OpenSpec.ofChange scanTurnedWrong)

/-- 'cuvettelaw17.ScanApart': WHATEVER THE INPUT: true; the input reads as it did. -/
def scanApartSpec : ChangeSpec := { name := "scanApart", fn := fun _ => fun
  | [d1, d2, d3, d4] => { results := [.lit (.bool true)], args := [d1, d2, d3, d4] }
  | _ => none }
def scanApartRow : OpenClaim := { program := "ytlkdjmpkapeppaa", sum := "674e2014353ea5e1caf7c19531ee9640ecc6bf2960f6bb7db2c6a95a50379be4", func := "cuvette/cuvettelaw17.ScanApart", spec := "scanApart", unfollowed := true, recurses := true, apart := false }
def ScanApartSaid : Prop := scanApartRow.holds Try.pinned (OpenSpec.ofChange scanApartSpec)

/-- ITS FALSE NEIGHBOUR: 'it returns false'. Refute it at one input. -/
def scanApartWrong : ChangeSpec := { name := "scanApart", fn := fun _ => fun
  | [d1, d2, d3, d4] => { results := [.lit (.bool false)], args := [d1, d2, d3, d4] }
  | _ => none }
def ScanApartWrongFalsely : Prop := scanApartRow.holds Try.pinned (OpenSpec.ofChange scanApartWrong)

/- THE SECOND FORM. 'bulk': how many values and letters a reading holds, each counted each time it is reached (what is shared counts as often as it is met; a slice's spare places count too). A statement '..UptoSaid' is the law's where the arguments, and the package variables that the reading takes, are together of bulk at most 1048576: NARROWER than '..Said'. Prove '..Said' where nothing that the law and all that it calls make is longer than what came in: it says more and counts as full. Else prove '..UptoSaid'. A law counts once. -/
mutual
def uptoBulk {H : Type} : DataW H → Nat
  | .lit (.string bytes) => bytes.length + 1
  | .lit _ => 1
  | .nil => 1
  | .ptr d => uptoBulk d + 1
  | .slice elems spare => uptoBulkAll elems + uptoBulkAll spare + 1
  | .agg parts => uptoBulkAll parts + 1
  | .iface _ d => uptoBulk d + 1
  | .map entries => uptoBulkEntries entries + 1
  | .held _ => 1
def uptoBulkAll {H : Type} : List (DataW H) → Nat
  | [] => 0
  | d :: r => uptoBulk d + uptoBulkAll r
def uptoBulkEntries {H : Type} : List (Lit × DataW H) → Nat
  | [] => 0
  | x :: r => uptoBulkEntry x + uptoBulkEntries r
def uptoBulkEntry {H : Type} : Lit × DataW H → Nat
  | (.string bytes, d) => bytes.length + uptoBulk d + 1
  | (_, d) => uptoBulk d + 1
 end
def uptoSmall : (H : Type) → List (DataW H) → Bool := fun _ ds => decide (uptoBulkAll ds ≤ 1048576)
def OpenSpec.upto (s : _root_.Go.ChangeSpec) : _root_.Go.OpenSpec := { _root_.Go.OpenSpec.ofChange s with cond := some uptoSmall }

/-- 'cuvettelaw16.BestNearest', WHERE WHAT IT READS IS OF BULK AT MOST 1048576: true; the input reads as it did. -/
def bestNearestUptoRow : OpenClaim := { program := "ytlkdjmpkapeppaa", sum := "674e2014353ea5e1caf7c19531ee9640ecc6bf2960f6bb7db2c6a95a50379be4", func := "cuvette/cuvettelaw16.BestNearest", spec := "bestNearest", unfollowed := true, recurses := true, apart := false, narrowed := true }
def BestNearestUptoSaid : Prop := bestNearestUptoRow.holds Try.pinned (OpenSpec.upto bestNearestSpec)

/-- 'cuvettelaw16.BestParts', WHERE WHAT IT READS IS OF BULK AT MOST 1048576: true; the input reads as it did. -/
def bestPartsUptoRow : OpenClaim := { program := "ytlkdjmpkapeppaa", sum := "674e2014353ea5e1caf7c19531ee9640ecc6bf2960f6bb7db2c6a95a50379be4", func := "cuvette/cuvettelaw16.BestParts", spec := "bestParts", unfollowed := true, recurses := true, apart := false, narrowed := true }
def BestPartsUptoSaid : Prop := bestPartsUptoRow.holds Try.pinned (OpenSpec.upto bestPartsSpec)

/-- 'cuvettelaw16.BestOrder', WHERE WHAT IT READS IS OF BULK AT MOST 1048576: true; the input reads as it did. -/
def bestOrderUptoRow : OpenClaim := { program := "ytlkdjmpkapeppaa", sum := "674e2014353ea5e1caf7c19531ee9640ecc6bf2960f6bb7db2c6a95a50379be4", func := "cuvette/cuvettelaw16.BestOrder", spec := "bestOrder", unfollowed := true, recurses := true, apart := false, narrowed := true }
def BestOrderUptoSaid : Prop := bestOrderUptoRow.holds Try.pinned (OpenSpec.upto bestOrderSpec)

/-- 'cuvettelaw16.BestDoes', WHERE WHAT IT READS IS OF BULK AT MOST 1048576: true; the input reads as it did. -/
def bestDoesUptoRow : OpenClaim := { program := "ytlkdjmpkapeppaa", sum := "674e2014353ea5e1caf7c19531ee9640ecc6bf2960f6bb7db2c6a95a50379be4", func := "cuvette/cuvettelaw16.BestDoes", spec := "bestDoes", unfollowed := true, recurses := true, apart := false, narrowed := true }
def BestDoesUptoSaid : Prop := bestDoesUptoRow.holds Try.pinned (OpenSpec.upto bestDoesSpec)

/-- 'cuvettelaw16.BestWorst', WHERE WHAT IT READS IS OF BULK AT MOST 1048576: true; the input reads as it did. -/
def bestWorstUptoRow : OpenClaim := { program := "ytlkdjmpkapeppaa", sum := "674e2014353ea5e1caf7c19531ee9640ecc6bf2960f6bb7db2c6a95a50379be4", func := "cuvette/cuvettelaw16.BestWorst", spec := "bestWorst", unfollowed := true, recurses := true, apart := false, narrowed := true }
def BestWorstUptoSaid : Prop := bestWorstUptoRow.holds Try.pinned (OpenSpec.upto bestWorstSpec)

/-- 'cuvettelaw17.ScanNearest', WHERE WHAT IT READS IS OF BULK AT MOST 1048576: true; the input reads as it did. -/
def scanNearestUptoRow : OpenClaim := { program := "ytlkdjmpkapeppaa", sum := "674e2014353ea5e1caf7c19531ee9640ecc6bf2960f6bb7db2c6a95a50379be4", func := "cuvette/cuvettelaw17.ScanNearest", spec := "scanNearest", unfollowed := true, recurses := true, apart := false, narrowed := true }
def ScanNearestUptoSaid : Prop := scanNearestUptoRow.holds Try.pinned (OpenSpec.upto scanNearestSpec)

/-- 'cuvettelaw17.ScanTurned', WHERE WHAT IT READS IS OF BULK AT MOST 1048576: true; the input reads as it did. -/
def scanTurnedUptoRow : OpenClaim := { program := "ytlkdjmpkapeppaa", sum := "674e2014353ea5e1caf7c19531ee9640ecc6bf2960f6bb7db2c6a95a50379be4", func := "cuvette/cuvettelaw17.ScanTurned", spec := "scanTurned", unfollowed := true, recurses := true, apart := false, narrowed := true }
def ScanTurnedUptoSaid : Prop := scanTurnedUptoRow.holds Try.pinned (OpenSpec.upto scanTurnedSpec)

/-- 'cuvettelaw17.ScanApart', WHERE WHAT IT READS IS OF BULK AT MOST 1048576: true; the input reads as it did. -/
def scanApartUptoRow : OpenClaim := { program := "ytlkdjmpkapeppaa", sum := "674e2014353ea5e1caf7c19531ee9640ecc6bf2960f6bb7db2c6a95a50379be4", func := "cuvette/cuvettelaw17.ScanApart", spec := "scanApart", unfollowed := true, recurses := true, apart := false, narrowed := true }
def ScanApartUptoSaid : Prop := scanApartUptoRow.holds Try.pinned (OpenSpec.upto scanApartSpec)

end Rows
end Go.Proofs.Ytlkdjmpkapeppaa
