/-
  No cell of these rows narrows 'for every input' (looked for: loops, veiled, ifaces, maps, wideKeys, modest, calm, conditions, laid).
  DERIVED. THE GIVEN ROWS OF THIS SEAT. 18 by the template 'for every input the law returns true; each argument reads behind the call as it read before'; 0 by the template 'total and deterministic' (their statements: YtnmgiiaejpaeeaaTotals.lean).
  GIVEN WITH THE SEED: the statements are not yours to turn. If you find one false, say at which input.
  Laid BY PROGRAM, IN A SANDBOX (cutbox-rows.mjs): the forced cells as the released guide's own fill.sh prints them over the translation 02521a6ffca49c60… (all of the seat's roots in one cut). By AI agents, Wed Nov 11 2026. No macro, syntax, notation, axiom, sorry.
-/
import Derived.Test.YtnmgiiaejpaeeaaChecked
import GoSem.Claim
import GoSem.ClaimJoined
import GoSem.ClaimMapViews
import Derived.JoinedTies
import Derived.KernelRfl
namespace Go.Proofs.Ytnmgiiaejpaeeaa
/- THE CELL 'sum', in the pinned program and in every row, IS THE sha256 OF THE DUMP (.gsa) THAT YtnmgiiaejpaeeaaProg.lean LOADS. Nothing in Lean hashes anything: it is a label: what it is worth is what the hold of that sum in a sandbox is worth. -/
noncomputable def Try.pinned : Pinned := { name := "ytnmgiiaejpaeeaa", sum := "02521a6ffca49c60847591b40188facc0063937cfaf91b0404fcb2052348adb7", checked := Try.checked }
namespace Rows
def none {H : Type} : Left H := { results := [], args := [] }

/-- 'cuvettelaw02.StampBack': WHATEVER THE INPUT: true; the input reads as it did. -/
def stampBackSpec : ChangeSpec := { name := "stampBack", fn := fun _ => fun
  | [d1, d2, d3, d4, d5, d6] => { results := [.lit (.bool true)], args := [d1, d2, d3, d4, d5, d6] }
  | _ => none }
def stampBackRow : OpenClaim := { program := "ytnmgiiaejpaeeaa", sum := "02521a6ffca49c60847591b40188facc0063937cfaf91b0404fcb2052348adb7", func := "cuvette/cuvettelaw02.StampBack", spec := "stampBack", inPlace := ["internal/bytealg.MakeNoZero"], apart := false }
def StampBackSaid : Prop := stampBackRow.holds Try.pinned (OpenSpec.ofChange stampBackSpec)

/-- ITS FALSE NEIGHBOUR: 'it returns false'. Refute it at one input. -/
def stampBackWrong : ChangeSpec := { name := "stampBack", fn := fun _ => fun
  | [d1, d2, d3, d4, d5, d6] => { results := [.lit (.bool false)], args := [d1, d2, d3, d4, d5, d6] }
  | _ => none }
def StampBackWrongFalsely : Prop := stampBackRow.holds Try.pinned (OpenSpec.ofChange stampBackWrong)

/-- 'cuvettelaw02.StampParts': WHATEVER THE INPUT: true; the input reads as it did. -/
def stampPartsSpec : ChangeSpec := { name := "stampParts", fn := fun _ => fun
  | [d1, d2] => { results := [.lit (.bool true)], args := [d1, d2] }
  | _ => none }
def stampPartsRow : OpenClaim := { program := "ytnmgiiaejpaeeaa", sum := "02521a6ffca49c60847591b40188facc0063937cfaf91b0404fcb2052348adb7", func := "cuvette/cuvettelaw02.StampParts", spec := "stampParts", inPlace := ["internal/bytealg.MakeNoZero"], apart := false }
def StampPartsSaid : Prop := stampPartsRow.holds Try.pinned (OpenSpec.ofChange stampPartsSpec)

/-- ITS FALSE NEIGHBOUR: 'it returns false'. Refute it at one input. -/
def stampPartsWrong : ChangeSpec := { name := "stampParts", fn := fun _ => fun
  | [d1, d2] => { results := [.lit (.bool false)], args := [d1, d2] }
  | _ => none }
def StampPartsWrongFalsely : Prop := stampPartsRow.holds Try.pinned (OpenSpec.ofChange stampPartsWrong)

/-- 'cuvettelaw02.StampTorn': WHATEVER THE INPUT: true; the input reads as it did. -/
def stampTornSpec : ChangeSpec := { name := "stampTorn", fn := fun _ => fun
  | [d1, d2, d3, d4, d5] => { results := [.lit (.bool true)], args := [d1, d2, d3, d4, d5] }
  | _ => none }
def stampTornRow : OpenClaim := { program := "ytnmgiiaejpaeeaa", sum := "02521a6ffca49c60847591b40188facc0063937cfaf91b0404fcb2052348adb7", func := "cuvette/cuvettelaw02.StampTorn", spec := "stampTorn", inPlace := ["internal/bytealg.MakeNoZero"], apart := false }
def StampTornSaid : Prop := stampTornRow.holds Try.pinned (OpenSpec.ofChange stampTornSpec)

/-- ITS FALSE NEIGHBOUR: 'it returns false'. Refute it at one input. -/
def stampTornWrong : ChangeSpec := { name := "stampTorn", fn := fun _ => fun
  | [d1, d2, d3, d4, d5] => { results := [.lit (.bool false)], args := [d1, d2, d3, d4, d5] }
  | _ => none }
def StampTornWrongFalsely : Prop := stampTornRow.holds Try.pinned (OpenSpec.ofChange stampTornWrong)

/-- 'cuvettelaw02.StampNew': WHATEVER THE INPUT: true; the input reads as it did. -/
def stampNewSpec : ChangeSpec := { name := "stampNew", fn := fun _ => fun
  | [d1, d2, d3, d4] => { results := [.lit (.bool true)], args := [d1, d2, d3, d4] }
  | _ => none }
def stampNewRow : OpenClaim := { program := "ytnmgiiaejpaeeaa", sum := "02521a6ffca49c60847591b40188facc0063937cfaf91b0404fcb2052348adb7", func := "cuvette/cuvettelaw02.StampNew", spec := "stampNew", inPlace := ["internal/bytealg.MakeNoZero"], apart := false }
def StampNewSaid : Prop := stampNewRow.holds Try.pinned (OpenSpec.ofChange stampNewSpec)

/-- ITS FALSE NEIGHBOUR: 'it returns false'. Refute it at one input. -/
def stampNewWrong : ChangeSpec := { name := "stampNew", fn := fun _ => fun
  | [d1, d2, d3, d4] => { results := [.lit (.bool false)], args := [d1, d2, d3, d4] }
  | _ => none }
def StampNewWrongFalsely : Prop := stampNewRow.holds Try.pinned (OpenSpec.ofChange stampNewWrong)

/-- 'cuvettelaw02.StampMixes': WHATEVER THE INPUT: true; the input reads as it did. -/
def stampMixesSpec : ChangeSpec := { name := "stampMixes", fn := fun _ => fun
  | [d1, d2, d3, d4] => { results := [.lit (.bool true)], args := [d1, d2, d3, d4] }
  | _ => none }
def stampMixesRow : OpenClaim := { program := "ytnmgiiaejpaeeaa", sum := "02521a6ffca49c60847591b40188facc0063937cfaf91b0404fcb2052348adb7", func := "cuvette/cuvettelaw02.StampMixes", spec := "stampMixes", inPlace := ["internal/bytealg.MakeNoZero"], apart := false }
def StampMixesSaid : Prop := stampMixesRow.holds Try.pinned (OpenSpec.ofChange stampMixesSpec)

/-- ITS FALSE NEIGHBOUR: 'it returns false'. Refute it at one input. -/
def stampMixesWrong : ChangeSpec := { name := "stampMixes", fn := fun _ => fun
  | [d1, d2, d3, d4] => { results := [.lit (.bool false)], args := [d1, d2, d3, d4] }
  | _ => none }
def StampMixesWrongFalsely : Prop := stampMixesRow.holds Try.pinned (OpenSpec.ofChange stampMixesWrong)

/-- 'cuvettelaw02.StampDoes': WHATEVER THE INPUT: true; the input reads as it did. -/
def stampDoesSpec : ChangeSpec := { name := "stampDoes", fn := fun _ => fun
  | [d1, d2, d3, d4, d5, d6, d7] => { results := [.lit (.bool true)], args := [d1, d2, d3, d4, d5, d6, d7] }
  | _ => none }
def stampDoesRow : OpenClaim := { program := "ytnmgiiaejpaeeaa", sum := "02521a6ffca49c60847591b40188facc0063937cfaf91b0404fcb2052348adb7", func := "cuvette/cuvettelaw02.StampDoes", spec := "stampDoes", inPlace := ["internal/bytealg.MakeNoZero"], apart := false }
def StampDoesSaid : Prop := stampDoesRow.holds Try.pinned (OpenSpec.ofChange stampDoesSpec)

/-- ITS FALSE NEIGHBOUR: 'it returns false'. Refute it at one input. -/
def stampDoesWrong : ChangeSpec := { name := "stampDoes", fn := fun _ => fun
  | [d1, d2, d3, d4, d5, d6, d7] => { results := [.lit (.bool false)], args := [d1, d2, d3, d4, d5, d6, d7] }
  | _ => none }
def StampDoesWrongFalsely : Prop := stampDoesRow.holds Try.pinned (OpenSpec.ofChange stampDoesWrong)

/-- 'cuvettelaw01.DiskLast': WHATEVER THE INPUT: true; the input reads as it did. -/
def diskLastSpec : ChangeSpec := { name := "diskLast", fn := fun _ => fun
  | [d1, d2] => { results := [.lit (.bool true)], args := [d1, d2] }
  | _ => none }
def diskLastRow : OpenClaim := { program := "ytnmgiiaejpaeeaa", sum := "02521a6ffca49c60847591b40188facc0063937cfaf91b0404fcb2052348adb7", func := "cuvette/cuvettelaw01.DiskLast", spec := "diskLast", unfollowed := true, recurses := true, apart := false }
def DiskLastSaid : Prop := diskLastRow.holds Try.pinned (OpenSpec.ofChange diskLastSpec)

/-- ITS FALSE NEIGHBOUR: 'it returns false'. Refute it at one input. -/
def diskLastWrong : ChangeSpec := { name := "diskLast", fn := fun _ => fun
  | [d1, d2] => { results := [.lit (.bool false)], args := [d1, d2] }
  | _ => none }
def DiskLastWrongFalsely : Prop := diskLastRow.holds Try.pinned (OpenSpec.ofChange diskLastWrong)

/-- 'cuvettelaw01.DiskCrash': WHATEVER THE INPUT: true; the input reads as it did. -/
def diskCrashSpec : ChangeSpec := { name := "diskCrash", fn := fun _ => fun
  | [d1, d2] => { results := [.lit (.bool true)], args := [d1, d2] }
  | _ => none }
def diskCrashRow : OpenClaim := { program := "ytnmgiiaejpaeeaa", sum := "02521a6ffca49c60847591b40188facc0063937cfaf91b0404fcb2052348adb7", func := "cuvette/cuvettelaw01.DiskCrash", spec := "diskCrash", unfollowed := true, recurses := true, apart := false }
def DiskCrashSaid : Prop := diskCrashRow.holds Try.pinned (OpenSpec.ofChange diskCrashSpec)

/-- ITS FALSE NEIGHBOUR: 'it returns false'. Refute it at one input. -/
def diskCrashWrong : ChangeSpec := { name := "diskCrash", fn := fun _ => fun
  | [d1, d2] => { results := [.lit (.bool false)], args := [d1, d2] }
  | _ => none }
def DiskCrashWrongFalsely : Prop := diskCrashRow.holds Try.pinned (OpenSpec.ofChange diskCrashWrong)

/-- 'cuvettelaw01.DiskApart': WHATEVER THE INPUT: true; the input reads as it did. -/
def diskApartSpec : ChangeSpec := { name := "diskApart", fn := fun _ => fun
  | [d1, d2, d3, d4, d5] => { results := [.lit (.bool true)], args := [d1, d2, d3, d4, d5] }
  | _ => none }
def diskApartRow : OpenClaim := { program := "ytnmgiiaejpaeeaa", sum := "02521a6ffca49c60847591b40188facc0063937cfaf91b0404fcb2052348adb7", func := "cuvette/cuvettelaw01.DiskApart", spec := "diskApart", unfollowed := true, recurses := true, apart := false }
def DiskApartSaid : Prop := diskApartRow.holds Try.pinned (OpenSpec.ofChange diskApartSpec)

/-- ITS FALSE NEIGHBOUR: 'it returns false'. Refute it at one input. -/
def diskApartWrong : ChangeSpec := { name := "diskApart", fn := fun _ => fun
  | [d1, d2, d3, d4, d5] => { results := [.lit (.bool false)], args := [d1, d2, d3, d4, d5] }
  | _ => none }
def DiskApartWrongFalsely : Prop := diskApartRow.holds Try.pinned (OpenSpec.ofChange diskApartWrong)

/-- 'cuvettelaw01.DiskDoes': WHATEVER THE INPUT: true; the input reads as it did. -/
def diskDoesSpec : ChangeSpec := { name := "diskDoes", fn := fun _ => fun
  | [d1, d2, d3, d4, d5] => { results := [.lit (.bool true)], args := [d1, d2, d3, d4, d5] }
  | _ => none }
def diskDoesRow : OpenClaim := { program := "ytnmgiiaejpaeeaa", sum := "02521a6ffca49c60847591b40188facc0063937cfaf91b0404fcb2052348adb7", func := "cuvette/cuvettelaw01.DiskDoes", spec := "diskDoes", unfollowed := true, recurses := true, apart := false }
def DiskDoesSaid : Prop := diskDoesRow.holds Try.pinned (OpenSpec.ofChange diskDoesSpec)

/-- ITS FALSE NEIGHBOUR: 'it returns false'. Refute it at one input. -/
def diskDoesWrong : ChangeSpec := { name := "diskDoes", fn := fun _ => fun
  | [d1, d2, d3, d4, d5] => { results := [.lit (.bool false)], args := [d1, d2, d3, d4, d5] }
  | _ => none }
def DiskDoesWrongFalsely : Prop := diskDoesRow.holds Try.pinned (OpenSpec.ofChange diskDoesWrong)

/-- 'cuvettelaw01.DiskFuse': WHATEVER THE INPUT: true; the input reads as it did. -/
def diskFuseSpec : ChangeSpec := { name := "diskFuse", fn := fun _ => fun
  | [d1, d2, d3] => { results := [.lit (.bool true)], args := [d1, d2, d3] }
  | _ => none }
def diskFuseRow : OpenClaim := { program := "ytnmgiiaejpaeeaa", sum := "02521a6ffca49c60847591b40188facc0063937cfaf91b0404fcb2052348adb7", func := "cuvette/cuvettelaw01.DiskFuse", spec := "diskFuse", unfollowed := true, recurses := true, apart := false }
def DiskFuseSaid : Prop := diskFuseRow.holds Try.pinned (OpenSpec.ofChange diskFuseSpec)

/-- ITS FALSE NEIGHBOUR: 'it returns false'. Refute it at one input. -/
def diskFuseWrong : ChangeSpec := { name := "diskFuse", fn := fun _ => fun
  | [d1, d2, d3] => { results := [.lit (.bool false)], args := [d1, d2, d3] }
  | _ => none }
def DiskFuseWrongFalsely : Prop := diskFuseRow.holds Try.pinned (OpenSpec.ofChange diskFuseWrong)

/-- 'cuvettelaw01.DiskTells': WHATEVER THE INPUT: true; the input reads as it did. -/
def diskTellsSpec : ChangeSpec := { name := "diskTells", fn := fun _ => fun
  | [d1, d2, d3] => { results := [.lit (.bool true)], args := [d1, d2, d3] }
  | _ => none }
def diskTellsRow : OpenClaim := { program := "ytnmgiiaejpaeeaa", sum := "02521a6ffca49c60847591b40188facc0063937cfaf91b0404fcb2052348adb7", func := "cuvette/cuvettelaw01.DiskTells", spec := "diskTells", unfollowed := true, recurses := true, apart := false }
def DiskTellsSaid : Prop := diskTellsRow.holds Try.pinned (OpenSpec.ofChange diskTellsSpec)

/-- ITS FALSE NEIGHBOUR: 'it returns false'. Refute it at one input. -/
def diskTellsWrong : ChangeSpec := { name := "diskTells", fn := fun _ => fun
  | [d1, d2, d3] => { results := [.lit (.bool false)], args := [d1, d2, d3] }
  | _ => none }
def DiskTellsWrongFalsely : Prop := diskTellsRow.holds Try.pinned (OpenSpec.ofChange diskTellsWrong)

/-- 'cuvettelaw01.DiskTwice': WHATEVER THE INPUT: true; the input reads as it did. -/
def diskTwiceSpec : ChangeSpec := { name := "diskTwice", fn := fun _ => fun
  | [d1, d2, d3] => { results := [.lit (.bool true)], args := [d1, d2, d3] }
  | _ => none }
def diskTwiceRow : OpenClaim := { program := "ytnmgiiaejpaeeaa", sum := "02521a6ffca49c60847591b40188facc0063937cfaf91b0404fcb2052348adb7", func := "cuvette/cuvettelaw01.DiskTwice", spec := "diskTwice", unfollowed := true, recurses := true, apart := false }
def DiskTwiceSaid : Prop := diskTwiceRow.holds Try.pinned (OpenSpec.ofChange diskTwiceSpec)

/-- ITS FALSE NEIGHBOUR: 'it returns false'. Refute it at one input. -/
def diskTwiceWrong : ChangeSpec := { name := "diskTwice", fn := fun _ => fun
  | [d1, d2, d3] => { results := [.lit (.bool false)], args := [d1, d2, d3] }
  | _ => none }
def DiskTwiceWrongFalsely : Prop := diskTwiceRow.holds Try.pinned (OpenSpec.ofChange diskTwiceWrong)

/-- 'cuvettelaw20.JournalDoes': WHATEVER THE INPUT: true; the input reads as it did. -/
def journalDoesSpec : ChangeSpec := { name := "journalDoes", fn := fun _ => fun
  | [d1, d2, d3, d4, d5, d6] => { results := [.lit (.bool true)], args := [d1, d2, d3, d4, d5, d6] }
  | _ => none }
def journalDoesRow : OpenClaim := { program := "ytnmgiiaejpaeeaa", sum := "02521a6ffca49c60847591b40188facc0063937cfaf91b0404fcb2052348adb7", func := "cuvette/cuvettelaw20.JournalDoes", spec := "journalDoes", inPlace := ["internal/bytealg.MakeNoZero"], unfollowed := true, recurses := true, apart := false }
def JournalDoesSaid : Prop := journalDoesRow.holds Try.pinned (OpenSpec.ofChange journalDoesSpec)

/-- ITS FALSE NEIGHBOUR: 'it returns false'. Refute it at one input. -/
def journalDoesWrong : ChangeSpec := { name := "journalDoes", fn := fun _ => fun
  | [d1, d2, d3, d4, d5, d6] => { results := [.lit (.bool false)], args := [d1, d2, d3, d4, d5, d6] }
  | _ => none }
def JournalDoesWrongFalsely : Prop := journalDoesRow.holds Try.pinned (OpenSpec.ofChange journalDoesWrong)

/-- 'cuvettelaw20.JournalRead': WHATEVER THE INPUT: true; the input reads as it did. -/
def journalReadSpec : ChangeSpec := { name := "journalRead", fn := fun _ => fun
  | [d1, d2, d3] => { results := [.lit (.bool true)], args := [d1, d2, d3] }
  | _ => none }
def journalReadRow : OpenClaim := { program := "ytnmgiiaejpaeeaa", sum := "02521a6ffca49c60847591b40188facc0063937cfaf91b0404fcb2052348adb7", func := "cuvette/cuvettelaw20.JournalRead", spec := "journalRead", inPlace := ["internal/bytealg.MakeNoZero"], unfollowed := true, recurses := true, apart := false }
def JournalReadSaid : Prop := journalReadRow.holds Try.pinned (OpenSpec.ofChange journalReadSpec)

/-- ITS FALSE NEIGHBOUR: 'it returns false'. Refute it at one input. -/
def journalReadWrong : ChangeSpec := { name := "journalRead", fn := fun _ => fun
  | [d1, d2, d3] => { results := [.lit (.bool false)], args := [d1, d2, d3] }
  | _ => none }
def JournalReadWrongFalsely : Prop := journalReadRow.holds Try.pinned (OpenSpec.ofChange journalReadWrong)

/-- 'cuvettelaw20.JournalOwn': WHATEVER THE INPUT: true; the input reads as it did. -/
def journalOwnSpec : ChangeSpec := { name := "journalOwn", fn := fun _ => fun
  | [d1, d2, d3] => { results := [.lit (.bool true)], args := [d1, d2, d3] }
  | _ => none }
def journalOwnRow : OpenClaim := { program := "ytnmgiiaejpaeeaa", sum := "02521a6ffca49c60847591b40188facc0063937cfaf91b0404fcb2052348adb7", func := "cuvette/cuvettelaw20.JournalOwn", spec := "journalOwn", inPlace := ["internal/bytealg.MakeNoZero"], unfollowed := true, recurses := true, apart := false }
def JournalOwnSaid : Prop := journalOwnRow.holds Try.pinned (OpenSpec.ofChange journalOwnSpec)

/-- ITS FALSE NEIGHBOUR: 'it returns false'. Refute it at one input. -/
def journalOwnWrong : ChangeSpec := { name := "journalOwn", fn := fun _ => fun
  | [d1, d2, d3] => { results := [.lit (.bool false)], args := [d1, d2, d3] }
  | _ => none }
def JournalOwnWrongFalsely : Prop := journalOwnRow.holds Try.pinned (OpenSpec.ofChange journalOwnWrong)

/-- 'cuvettelaw20.JournalParts': WHATEVER THE INPUT: true; the input reads as it did. -/
def journalPartsSpec : ChangeSpec := { name := "journalParts", fn := fun _ => fun
  | [d1, d2] => { results := [.lit (.bool true)], args := [d1, d2] }
  | _ => none }
def journalPartsRow : OpenClaim := { program := "ytnmgiiaejpaeeaa", sum := "02521a6ffca49c60847591b40188facc0063937cfaf91b0404fcb2052348adb7", func := "cuvette/cuvettelaw20.JournalParts", spec := "journalParts", inPlace := ["internal/bytealg.MakeNoZero"], unfollowed := true, recurses := true, apart := false }
def JournalPartsSaid : Prop := journalPartsRow.holds Try.pinned (OpenSpec.ofChange journalPartsSpec)

/-- ITS FALSE NEIGHBOUR: 'it returns false'. Refute it at one input. -/
def journalPartsWrong : ChangeSpec := { name := "journalParts", fn := fun _ => fun
  | [d1, d2] => { results := [.lit (.bool false)], args := [d1, d2] }
  | _ => none }
def JournalPartsWrongFalsely : Prop := journalPartsRow.holds Try.pinned (OpenSpec.ofChange journalPartsWrong)

/-- 'cuvettelaw20.JournalCrash': WHATEVER THE INPUT: true; the input reads as it did. -/
def journalCrashSpec : ChangeSpec := { name := "journalCrash", fn := fun _ => fun
  | [d1, d2, d3, d4] => { results := [.lit (.bool true)], args := [d1, d2, d3, d4] }
  | _ => none }
def journalCrashRow : OpenClaim := { program := "ytnmgiiaejpaeeaa", sum := "02521a6ffca49c60847591b40188facc0063937cfaf91b0404fcb2052348adb7", func := "cuvette/cuvettelaw20.JournalCrash", spec := "journalCrash", inPlace := ["internal/bytealg.MakeNoZero"], unfollowed := true, recurses := true, apart := false }
def JournalCrashSaid : Prop := journalCrashRow.holds Try.pinned (OpenSpec.ofChange journalCrashSpec)

/-- ITS FALSE NEIGHBOUR: 'it returns false'. Refute it at one input. -/
def journalCrashWrong : ChangeSpec := { name := "journalCrash", fn := fun _ => fun
  | [d1, d2, d3, d4] => { results := [.lit (.bool false)], args := [d1, d2, d3, d4] }
  | _ => none }
def JournalCrashWrongFalsely : Prop := journalCrashRow.holds Try.pinned (OpenSpec.ofChange journalCrashWrong)

/- THE SECOND FORM. 'bulk': how many values and letters a reading holds, each counted each time it is reached (what is shared counts as often as it is met; a slice's spare places count too). A statement '..UptoSaid' is the law's where the arguments, and the package variables that the reading takes, are together of bulk at most 1048576: NARROWER than '..Said'. Prove '..Said' where nothing that the law and all that it calls make is longer than what came in: it says more and counts as full. Else prove '..UptoSaid'. A law counts once. -/
mutual
def uptoBulk {H : Type} : DataW H → Nat
  | .lit (.string bytes) => bytes.length + 1
  | .lit _ => 1
  | .nil => 1
  | .ptr d => uptoBulk d + 1
  | .slice elems spare => uptoBulkAll elems + uptoBulkAll spare + 1
  | .agg parts => uptoBulkAll parts + 1
  | .iface _ d => uptoBulk d + 1
  | .map entries => uptoBulkEntries entries + 1
  | .held _ => 1
def uptoBulkAll {H : Type} : List (DataW H) → Nat
  | [] => 0
  | d :: r => uptoBulk d + uptoBulkAll r
def uptoBulkEntries {H : Type} : List (Lit × DataW H) → Nat
  | [] => 0
  | x :: r => uptoBulkEntry x + uptoBulkEntries r
def uptoBulkEntry {H : Type} : Lit × DataW H → Nat
  | (.string bytes, d) => bytes.length + uptoBulk d + 1
  | (_, d) => uptoBulk d + 1
 end
def uptoSmall : (H : Type) → List (DataW H) → Bool := fun _ ds => decide (uptoBulkAll ds ≤ 1048576)
def OpenSpec.upto (s : _root_.Go.ChangeSpec) : _root_.Go.OpenSpec := { _root_.Go.OpenSpec.ofChange s with cond := some uptoSmall }

/-- 'cuvettelaw02.StampBack', WHERE WHAT IT READS IS OF BULK AT MOST 1048576: true; the input reads as it did. -/
def stampBackUptoRow : OpenClaim := { program := "ytnmgiiaejpaeeaa", sum := "02521a6ffca49c60847591b40188facc0063937cfaf91b0404fcb2052348adb7", func := "cuvette/cuvettelaw02.StampBack", spec := "stampBack", inPlace := ["internal/bytealg.MakeNoZero"], apart := false, narrowed := true }
def StampBackUptoSaid : Prop := stampBackUptoRow.holds Try.pinned (OpenSpec.upto stampBackSpec)

/-- 'cuvettelaw02.StampParts', WHERE WHAT IT READS IS OF BULK AT MOST 1048576: true; the input reads as it did. -/
def stampPartsUptoRow : OpenClaim := { program := "ytnmgiiaejpaeeaa", sum := "02521a6ffca49c60847591b40188facc0063937cfaf91b0404fcb2052348adb7", func := "cuvette/cuvettelaw02.StampParts", spec := "stampParts", inPlace := ["internal/bytealg.MakeNoZero"], apart := false, narrowed := true }
def StampPartsUptoSaid : Prop := stampPartsUptoRow.holds Try.pinned (OpenSpec.upto stampPartsSpec)

/-- 'cuvettelaw02.StampTorn', WHERE WHAT IT READS IS OF BULK AT MOST 1048576: true; the input reads as it did. -/
def stampTornUptoRow : OpenClaim := { program := "ytnmgiiaejpaeeaa", sum := "02521a6ffca49c60847591b40188facc0063937cfaf91b0404fcb2052348adb7", func := "cuvette/cuvettelaw02.StampTorn", spec := "stampTorn", inPlace := ["internal/bytealg.MakeNoZero"], apart := false, narrowed := true }
def StampTornUptoSaid : Prop := stampTornUptoRow.holds Try.pinned (OpenSpec.upto stampTornSpec)

/-- 'cuvettelaw02.StampNew', WHERE WHAT IT READS IS OF BULK AT MOST 1048576: true; the input reads as it did. -/
def stampNewUptoRow : OpenClaim := { program := "ytnmgiiaejpaeeaa", sum := "02521a6ffca49c60847591b40188facc0063937cfaf91b0404fcb2052348adb7", func := "cuvette/cuvettelaw02.StampNew", spec := "stampNew", inPlace := ["internal/bytealg.MakeNoZero"], apart := false, narrowed := true }
def StampNewUptoSaid : Prop := stampNewUptoRow.holds Try.pinned (OpenSpec.upto stampNewSpec)

/-- 'cuvettelaw02.StampMixes', WHERE WHAT IT READS IS OF BULK AT MOST 1048576: true; the input reads as it did. -/
def stampMixesUptoRow : OpenClaim := { program := "ytnmgiiaejpaeeaa", sum := "02521a6ffca49c60847591b40188facc0063937cfaf91b0404fcb2052348adb7", func := "cuvette/cuvettelaw02.StampMixes", spec := "stampMixes", inPlace := ["internal/bytealg.MakeNoZero"], apart := false, narrowed := true }
def StampMixesUptoSaid : Prop := stampMixesUptoRow.holds Try.pinned (OpenSpec.upto stampMixesSpec)

/-- 'cuvettelaw02.StampDoes', WHERE WHAT IT READS IS OF BULK AT MOST 1048576: true; the input reads as it did. -/
def stampDoesUptoRow : OpenClaim := { program := "ytnmgiiaejpaeeaa", sum := "02521a6ffca49c60847591b40188facc0063937cfaf91b0404fcb2052348adb7", func := "cuvette/cuvettelaw02.StampDoes", spec := "stampDoes", inPlace := ["internal/bytealg.MakeNoZero"], apart := false, narrowed := true }
def StampDoesUptoSaid : Prop := stampDoesUptoRow.holds Try.pinned (OpenSpec.upto stampDoesSpec)

/-- 'cuvettelaw01.DiskLast', WHERE WHAT IT READS IS OF BULK AT MOST 1048576: true; the input reads as it did. -/
def diskLastUptoRow : OpenClaim := { program := "ytnmgiiaejpaeeaa", sum := "02521a6ffca49c60847591b40188facc0063937cfaf91b0404fcb2052348adb7", func := "cuvette/cuvettelaw01.DiskLast", spec := "diskLast", unfollowed := true, recurses := true, apart := false, narrowed := true }
def DiskLastUptoSaid : Prop := diskLastUptoRow.holds Try.pinned (OpenSpec.upto diskLastSpec)

/-- 'cuvettelaw01.DiskCrash', WHERE WHAT IT READS IS OF BULK AT MOST 1048576: true; the input reads as it did. -/
def diskCrashUptoRow : OpenClaim := { program := "ytnmgiiaejpaeeaa", sum := "02521a6ffca49c60847591b40188facc0063937cfaf91b0404fcb2052348adb7", func := "cuvette/cuvettelaw01.DiskCrash", spec := "diskCrash", unfollowed := true, recurses := true, apart := false, narrowed := true }
def DiskCrashUptoSaid : Prop := diskCrashUptoRow.holds Try.pinned (OpenSpec.upto diskCrashSpec)

/-- 'cuvettelaw01.DiskApart', WHERE WHAT IT READS IS OF BULK AT MOST 1048576: true; the input reads as it did. -/
def diskApartUptoRow : OpenClaim := { program := "ytnmgiiaejpaeeaa", sum := "02521a6ffca49c60847591b40188facc0063937cfaf91b0404fcb2052348adb7", func := "cuvette/cuvettelaw01.DiskApart", spec := "diskApart", unfollowed := true, recurses := true, apart := false, narrowed := true }
def DiskApartUptoSaid : Prop := diskApartUptoRow.holds Try.pinned (OpenSpec.upto diskApartSpec)

/-- 'cuvettelaw01.DiskDoes', WHERE WHAT IT READS IS OF BULK AT MOST 1048576: true; the input reads as it did. -/
def diskDoesUptoRow : OpenClaim := { program := "ytnmgiiaejpaeeaa", sum := "02521a6ffca49c60847591b40188facc0063937cfaf91b0404fcb2052348adb7", func := "cuvette/cuvettelaw01.DiskDoes", spec := "diskDoes", unfollowed := true, recurses := true, apart := false, narrowed := true }
def DiskDoesUptoSaid : Prop := diskDoesUptoRow.holds Try.pinned (OpenSpec.upto diskDoesSpec)

/-- 'cuvettelaw01.DiskFuse', WHERE WHAT IT READS IS OF BULK AT MOST 1048576: true; the input reads as it did. -/
def diskFuseUptoRow : OpenClaim := { program := "ytnmgiiaejpaeeaa", sum := "02521a6ffca49c60847591b40188facc0063937cfaf91b0404fcb2052348adb7", func := "cuvette/cuvettelaw01.DiskFuse", spec := "diskFuse", unfollowed := true, recurses := true, apart := false, narrowed := true }
def DiskFuseUptoSaid : Prop := diskFuseUptoRow.holds Try.pinned (OpenSpec.upto diskFuseSpec)

/-- 'cuvettelaw01.DiskTells', WHERE WHAT IT READS IS OF BULK AT MOST 1048576: true; the input reads as it did. -/
def diskTellsUptoRow : OpenClaim := { program := "ytnmgiiaejpaeeaa", sum := "02521a6ffca49c60847591b40188facc0063937cfaf91b0404fcb2052348adb7", func := "cuvette/cuvettelaw01.DiskTells", spec := "diskTells", unfollowed := true, recurses := true, apart := false, narrowed := true }
def DiskTellsUptoSaid : Prop := diskTellsUptoRow.holds Try.pinned (OpenSpec.upto diskTellsSpec)

/-- 'cuvettelaw01.DiskTwice', WHERE WHAT IT READS IS OF BULK AT MOST 1048576: true; the input reads as it did. -/
def diskTwiceUptoRow : OpenClaim := { program := "ytnmgiiaejpaeeaa", sum := "02521a6ffca49c60847591b40188facc0063937cfaf91b0404fcb2052348adb7", func := "cuvette/cuvettelaw01.DiskTwice", spec := "diskTwice", unfollowed := true, recurses := true, apart := false, narrowed := true }
def DiskTwiceUptoSaid : Prop := diskTwiceUptoRow.holds Try.pinned (OpenSpec.upto diskTwiceSpec)

/-- 'cuvettelaw20.JournalDoes', WHERE WHAT IT READS IS OF BULK AT MOST 1048576: true; the input reads as it did. -/
def journalDoesUptoRow : OpenClaim := { program := "ytnmgiiaejpaeeaa", sum := "02521a6ffca49c60847591b40188facc0063937cfaf91b0404fcb2052348adb7", func := "cuvette/cuvettelaw20.JournalDoes", spec := "journalDoes", inPlace := ["internal/bytealg.MakeNoZero"], unfollowed := true, recurses := true, apart := false, narrowed := true }
def JournalDoesUptoSaid : Prop := journalDoesUptoRow.holds Try.pinned (OpenSpec.upto journalDoesSpec)

/-- 'cuvettelaw20.JournalRead', WHERE WHAT IT READS IS OF BULK AT MOST 1048576: true; the input reads as it did. -/
def journalReadUptoRow : OpenClaim := { program := "ytnmgiiaejpaeeaa", sum := "02521a6ffca49c60847591b40188facc0063937cfaf91b0404fcb2052348adb7", func := "cuvette/cuvettelaw20.JournalRead", spec := "journalRead", inPlace := ["internal/bytealg.MakeNoZero"], unfollowed := true, recurses := true, apart := false, narrowed := true }
def JournalReadUptoSaid : Prop := journalReadUptoRow.holds Try.pinned (OpenSpec.upto journalReadSpec)

/-- 'cuvettelaw20.JournalOwn', WHERE WHAT IT READS IS OF BULK AT MOST 1048576: true; the input reads as it did. -/
def journalOwnUptoRow : OpenClaim := { program := "ytnmgiiaejpaeeaa", sum := "02521a6ffca49c60847591b40188facc0063937cfaf91b0404fcb2052348adb7", func := "cuvette/cuvettelaw20.JournalOwn", spec := "journalOwn", inPlace := ["internal/bytealg.MakeNoZero"], unfollowed := true, recurses := true, apart := false, narrowed := true }
def JournalOwnUptoSaid : Prop := journalOwnUptoRow.holds Try.pinned (OpenSpec.upto journalOwnSpec)

/-- 'cuvettelaw20.JournalParts', WHERE WHAT IT READS IS OF BULK AT MOST 1048576: true; the input reads as it did. -/
def journalPartsUptoRow : OpenClaim := { program := "ytnmgiiaejpaeeaa", sum := "02521a6ffca49c60847591b40188facc0063937cfaf91b0404fcb2052348adb7", func := "cuvette/cuvettelaw20.JournalParts", spec := "journalParts", inPlace := ["internal/bytealg.MakeNoZero"], unfollowed := true, recurses := true, apart := false, narrowed := true }
def JournalPartsUptoSaid : Prop := journalPartsUptoRow.holds Try.pinned (OpenSpec.upto journalPartsSpec)

/-- 'cuvettelaw20.JournalCrash', WHERE WHAT IT READS IS OF BULK AT MOST 1048576: true; the input reads as it did. -/
def journalCrashUptoRow : OpenClaim := { program := "ytnmgiiaejpaeeaa", sum := "02521a6ffca49c60847591b40188facc0063937cfaf91b0404fcb2052348adb7", func := "cuvette/cuvettelaw20.JournalCrash", spec := "journalCrash", inPlace := ["internal/bytealg.MakeNoZero"], unfollowed := true, recurses := true, apart := false, narrowed := true }
def JournalCrashUptoSaid : Prop := journalCrashUptoRow.holds Try.pinned (OpenSpec.upto journalCrashSpec)

end Rows
end Go.Proofs.Ytnmgiiaejpaeeaa
