/-
  NARROWER THAN 'FOR EVERY INPUT', by the rows' own cells (each row's printed sentence says how): SavesApart: laid · SavesAgain: laid · SavesRoom: laid · SavesCounted: laid · SavesQuiet: laid · SavesStrewn: laid · SavesKept: laid · SavesCrash: laid · SavesRuns: laid · SavesAll: laid · SavesOpens: laid.
  DERIVED. THE GIVEN ROWS OF THIS SEAT. 11 by the template 'for every input the law returns true; each argument reads behind the call as it read before'; 0 by the template 'total and deterministic' (their statements: YtmofiicjaldmiaaGreatDoorTotals.lean).
  GIVEN WITH THE SEED: the statements are not yours to turn. If you find one false, say at which input.
  Laid BY PROGRAM, IN A SANDBOX (cutbox-rows.mjs): the forced cells as the released guide's own fill.sh prints them over the translation 64d2b3c75d38ae92… (all of the seat's roots in one cut). By AI agents, Wed Nov 11 2026. No macro, syntax, notation, axiom, sorry.
-/
import Derived.Test.YtmofiicjaldmiaaGreatDoorChecked
import GoSem.Claim
import GoSem.ClaimJoined
import GoSem.ClaimMapViews
import Derived.JoinedTies
import Derived.KernelRfl
namespace Go.Proofs.YtmofiicjaldmiaaGreatDoor
/- THE CELL 'sum', in the pinned program and in every row, IS THE sha256 OF THE DUMP (.gsa) THAT YtmofiicjaldmiaaGreatDoorProg.lean LOADS. Nothing in Lean hashes anything: it is a label: what it is worth is what the hold of that sum in a sandbox is worth. -/
noncomputable def Tryz.pinned : Pinned := { name := "ytmofiicjaldmiaagreatdoor", sum := "64d2b3c75d38ae92edca7eb470ea7d0fe32ba499dda9158747228e87c82864d9", checked := Tryz.checked }
namespace Rows
def none {H : Type} : Left H := { results := [], args := [] }

/- WHAT THE LISTED PACKAGE-LEVEL VARIABLES READ AS WHEN THE CALL BEGINS. Each datum BY PROGRAM (the guide's laid-datum.mjs) off the statement by which the dump's own 'gosem.cut.vars' lays the variable. In a bare row this is a premise. The card (YtmofiicjaldmiaaGreatDoorCards.lean) ties it to the program's text. -/
def laid_errors_errorType {H : Type} : DataW H := .iface "internal/reflectlite.rtype" (.agg [.ptr (.lit (.string [101, 114, 114, 111, 114]))])
def laid_arcade_saves_errBroken {H : Type} : DataW H := .iface "*errors.errorString" (.ptr (.agg [.lit (.string [119, 104, 97, 116, 32, 105, 115, 32, 111, 110, 32, 116, 104, 101, 32, 115, 116, 111, 114, 101, 32, 105, 115, 32, 110, 111, 110, 101, 32, 111, 102, 32, 111, 117, 114, 115])]))

/-- 'arcadelaw11.SavesApart': WHATEVER THE INPUT: true; the input reads as it did. -/
def savesApartSpec : ChangeSpec := { name := "savesApart", fn := fun _ => fun
  | [d1, d2, d3, d4] => { results := [.lit (.bool true)], args := [d1, d2, d3, d4] }
  | _ => none }
def savesApartRow : OpenClaim := { program := "ytmofiicjaldmiaagreatdoor", sum := "64d2b3c75d38ae92edca7eb470ea7d0fe32ba499dda9158747228e87c82864d9", func := "arcade/arcadelaw11.SavesApart", spec := "savesApart", inPlace := ["internal/reflectlite.TypeOf", "internal/reflectlite.ValueOf", "(internal/reflectlite.Value).Type", "(internal/reflectlite.Value).IsNil", "(internal/reflectlite.Value).Elem", "(internal/reflectlite.Value).Set"], unfollowed := true, recurses := true, named := ["arcade/saves.errBroken", "errors.errorType"], apart := false, laid := [("errors.errorType", laid_errors_errorType), ("arcade/saves.errBroken", laid_arcade_saves_errBroken)] }
def SavesApartSaid : Prop := savesApartRow.holds Tryz.pinned (OpenSpec.ofChange savesApartSpec)

/-- ITS FALSE NEIGHBOUR: 'it returns false'. Refute it at one input. -/
def savesApartWrong : ChangeSpec := { name := "savesApart", fn := fun _ => fun
  | [d1, d2, d3, d4] => { results := [.lit (.bool false)], args := [d1, d2, d3, d4] }
  | _ => none }
def SavesApartWrongFalsely : Prop := savesApartRow.holds Tryz.pinned (OpenSpec.ofChange savesApartWrong)

/-- 'arcadelaw11.SavesAgain': WHATEVER THE INPUT: true; the input reads as it did. -/
def savesAgainSpec : ChangeSpec := { name := "savesAgain", fn := fun _ => fun
  | [d1, d2, d3, d4] => { results := [.lit (.bool true)], args := [d1, d2, d3, d4] }
  | _ => none }
def savesAgainRow : OpenClaim := { program := "ytmofiicjaldmiaagreatdoor", sum := "64d2b3c75d38ae92edca7eb470ea7d0fe32ba499dda9158747228e87c82864d9", func := "arcade/arcadelaw11.SavesAgain", spec := "savesAgain", inPlace := ["internal/reflectlite.TypeOf", "internal/reflectlite.ValueOf", "(internal/reflectlite.Value).Type", "(internal/reflectlite.Value).IsNil", "(internal/reflectlite.Value).Elem", "(internal/reflectlite.Value).Set"], unfollowed := true, recurses := true, named := ["arcade/saves.errBroken", "errors.errorType"], apart := false, laid := [("errors.errorType", laid_errors_errorType), ("arcade/saves.errBroken", laid_arcade_saves_errBroken)] }
def SavesAgainSaid : Prop := savesAgainRow.holds Tryz.pinned (OpenSpec.ofChange savesAgainSpec)

/-- ITS FALSE NEIGHBOUR: 'it returns false'. Refute it at one input. -/
def savesAgainWrong : ChangeSpec := { name := "savesAgain", fn := fun _ => fun
  | [d1, d2, d3, d4] => { results := [.lit (.bool false)], args := [d1, d2, d3, d4] }
  | _ => none }
def SavesAgainWrongFalsely : Prop := savesAgainRow.holds Tryz.pinned (OpenSpec.ofChange savesAgainWrong)

/-- 'arcadelaw11.SavesRoom': WHATEVER THE INPUT: true; the input reads as it did. -/
def savesRoomSpec : ChangeSpec := { name := "savesRoom", fn := fun _ => fun
  | [d1, d2, d3] => { results := [.lit (.bool true)], args := [d1, d2, d3] }
  | _ => none }
def savesRoomRow : OpenClaim := { program := "ytmofiicjaldmiaagreatdoor", sum := "64d2b3c75d38ae92edca7eb470ea7d0fe32ba499dda9158747228e87c82864d9", func := "arcade/arcadelaw11.SavesRoom", spec := "savesRoom", inPlace := ["internal/reflectlite.TypeOf", "internal/reflectlite.ValueOf", "(internal/reflectlite.Value).Type", "(internal/reflectlite.Value).IsNil", "(internal/reflectlite.Value).Elem", "(internal/reflectlite.Value).Set"], unfollowed := true, recurses := true, named := ["arcade/saves.errBroken", "errors.errorType"], apart := false, laid := [("errors.errorType", laid_errors_errorType), ("arcade/saves.errBroken", laid_arcade_saves_errBroken)] }
def SavesRoomSaid : Prop := savesRoomRow.holds Tryz.pinned (OpenSpec.ofChange savesRoomSpec)

/-- ITS FALSE NEIGHBOUR: 'it returns false'. Refute it at one input. -/
def savesRoomWrong : ChangeSpec := { name := "savesRoom", fn := fun _ => fun
  | [d1, d2, d3] => { results := [.lit (.bool false)], args := [d1, d2, d3] }
  | _ => none }
def SavesRoomWrongFalsely : Prop := savesRoomRow.holds Tryz.pinned (OpenSpec.ofChange savesRoomWrong)

/-- 'arcadelaw11.SavesCounted': WHATEVER THE INPUT: true; the input reads as it did. -/
def savesCountedSpec : ChangeSpec := { name := "savesCounted", fn := fun _ => fun
  | [d1, d2] => { results := [.lit (.bool true)], args := [d1, d2] }
  | _ => none }
def savesCountedRow : OpenClaim := { program := "ytmofiicjaldmiaagreatdoor", sum := "64d2b3c75d38ae92edca7eb470ea7d0fe32ba499dda9158747228e87c82864d9", func := "arcade/arcadelaw11.SavesCounted", spec := "savesCounted", inPlace := ["internal/reflectlite.TypeOf", "internal/reflectlite.ValueOf", "(internal/reflectlite.Value).Type", "(internal/reflectlite.Value).IsNil", "(internal/reflectlite.Value).Elem", "(internal/reflectlite.Value).Set"], unfollowed := true, recurses := true, named := ["arcade/saves.errBroken", "errors.errorType"], apart := false, laid := [("errors.errorType", laid_errors_errorType), ("arcade/saves.errBroken", laid_arcade_saves_errBroken)] }
def SavesCountedSaid : Prop := savesCountedRow.holds Tryz.pinned (OpenSpec.ofChange savesCountedSpec)

/-- ITS FALSE NEIGHBOUR: 'it returns false'. Refute it at one input. -/
def savesCountedWrong : ChangeSpec := { name := "savesCounted", fn := fun _ => fun
  | [d1, d2] => { results := [.lit (.bool false)], args := [d1, d2] }
  | _ => none }
def SavesCountedWrongFalsely : Prop := savesCountedRow.holds Tryz.pinned (OpenSpec.ofChange savesCountedWrong)

/-- 'arcadelaw11.SavesQuiet': WHATEVER THE INPUT: true; the input reads as it did. -/
def savesQuietSpec : ChangeSpec := { name := "savesQuiet", fn := fun _ => fun
  | [d1, d2, d3, d4] => { results := [.lit (.bool true)], args := [d1, d2, d3, d4] }
  | _ => none }
def savesQuietRow : OpenClaim := { program := "ytmofiicjaldmiaagreatdoor", sum := "64d2b3c75d38ae92edca7eb470ea7d0fe32ba499dda9158747228e87c82864d9", func := "arcade/arcadelaw11.SavesQuiet", spec := "savesQuiet", inPlace := ["internal/reflectlite.TypeOf", "internal/reflectlite.ValueOf", "(internal/reflectlite.Value).Type", "(internal/reflectlite.Value).IsNil", "(internal/reflectlite.Value).Elem", "(internal/reflectlite.Value).Set"], unfollowed := true, recurses := true, named := ["arcade/saves.errBroken", "errors.errorType"], apart := false, laid := [("errors.errorType", laid_errors_errorType), ("arcade/saves.errBroken", laid_arcade_saves_errBroken)] }
def SavesQuietSaid : Prop := savesQuietRow.holds Tryz.pinned (OpenSpec.ofChange savesQuietSpec)

/-- ITS FALSE NEIGHBOUR: 'it returns false'. Refute it at one input. -/
def savesQuietWrong : ChangeSpec := { name := "savesQuiet", fn := fun _ => fun
  | [d1, d2, d3, d4] => { results := [.lit (.bool false)], args := [d1, d2, d3, d4] }
  | _ => none }
def SavesQuietWrongFalsely : Prop := savesQuietRow.holds Tryz.pinned (OpenSpec.ofChange savesQuietWrong)

/-- 'arcadelaw11.SavesStrewn': WHATEVER THE INPUT: true; the input reads as it did. -/
def savesStrewnSpec : ChangeSpec := { name := "savesStrewn", fn := fun _ => fun
  | [d1, d2, d3, d4] => { results := [.lit (.bool true)], args := [d1, d2, d3, d4] }
  | _ => none }
def savesStrewnRow : OpenClaim := { program := "ytmofiicjaldmiaagreatdoor", sum := "64d2b3c75d38ae92edca7eb470ea7d0fe32ba499dda9158747228e87c82864d9", func := "arcade/arcadelaw11.SavesStrewn", spec := "savesStrewn", inPlace := ["internal/reflectlite.TypeOf", "internal/reflectlite.ValueOf", "(internal/reflectlite.Value).Type", "(internal/reflectlite.Value).IsNil", "(internal/reflectlite.Value).Elem", "(internal/reflectlite.Value).Set"], unfollowed := true, recurses := true, named := ["arcade/saves.errBroken", "errors.errorType"], apart := false, laid := [("errors.errorType", laid_errors_errorType), ("arcade/saves.errBroken", laid_arcade_saves_errBroken)] }
def SavesStrewnSaid : Prop := savesStrewnRow.holds Tryz.pinned (OpenSpec.ofChange savesStrewnSpec)

/-- ITS FALSE NEIGHBOUR: 'it returns false'. Refute it at one input. -/
def savesStrewnWrong : ChangeSpec := { name := "savesStrewn", fn := fun _ => fun
  | [d1, d2, d3, d4] => { results := [.lit (.bool false)], args := [d1, d2, d3, d4] }
  | _ => none }
def SavesStrewnWrongFalsely : Prop := savesStrewnRow.holds Tryz.pinned (OpenSpec.ofChange savesStrewnWrong)

/-- 'arcadelaw11.SavesKept': WHATEVER THE INPUT: true; the input reads as it did. -/
def savesKeptSpec : ChangeSpec := { name := "savesKept", fn := fun _ => fun
  | [d1, d2] => { results := [.lit (.bool true)], args := [d1, d2] }
  | _ => none }
def savesKeptRow : OpenClaim := { program := "ytmofiicjaldmiaagreatdoor", sum := "64d2b3c75d38ae92edca7eb470ea7d0fe32ba499dda9158747228e87c82864d9", func := "arcade/arcadelaw11.SavesKept", spec := "savesKept", inPlace := ["internal/reflectlite.TypeOf", "internal/reflectlite.ValueOf", "(internal/reflectlite.Value).Type", "(internal/reflectlite.Value).IsNil", "(internal/reflectlite.Value).Elem", "(internal/reflectlite.Value).Set"], unfollowed := true, recurses := true, named := ["arcade/saves.errBroken", "errors.errorType"], apart := false, laid := [("errors.errorType", laid_errors_errorType), ("arcade/saves.errBroken", laid_arcade_saves_errBroken)] }
def SavesKeptSaid : Prop := savesKeptRow.holds Tryz.pinned (OpenSpec.ofChange savesKeptSpec)

/-- ITS FALSE NEIGHBOUR: 'it returns false'. Refute it at one input. -/
def savesKeptWrong : ChangeSpec := { name := "savesKept", fn := fun _ => fun
  | [d1, d2] => { results := [.lit (.bool false)], args := [d1, d2] }
  | _ => none }
def SavesKeptWrongFalsely : Prop := savesKeptRow.holds Tryz.pinned (OpenSpec.ofChange savesKeptWrong)

/-- 'arcadelaw11.SavesCrash': WHATEVER THE INPUT: true; the input reads as it did. -/
def savesCrashSpec : ChangeSpec := { name := "savesCrash", fn := fun _ => fun
  | [d1, d2, d3, d4, d5, d6, d7, d8] => { results := [.lit (.bool true)], args := [d1, d2, d3, d4, d5, d6, d7, d8] }
  | _ => none }
def savesCrashRow : OpenClaim := { program := "ytmofiicjaldmiaagreatdoor", sum := "64d2b3c75d38ae92edca7eb470ea7d0fe32ba499dda9158747228e87c82864d9", func := "arcade/arcadelaw11.SavesCrash", spec := "savesCrash", inPlace := ["internal/reflectlite.TypeOf", "internal/reflectlite.ValueOf", "(internal/reflectlite.Value).Type", "(internal/reflectlite.Value).IsNil", "(internal/reflectlite.Value).Elem", "(internal/reflectlite.Value).Set"], unfollowed := true, recurses := true, named := ["arcade/saves.errBroken", "errors.errorType"], apart := false, laid := [("errors.errorType", laid_errors_errorType), ("arcade/saves.errBroken", laid_arcade_saves_errBroken)] }
def SavesCrashSaid : Prop := savesCrashRow.holds Tryz.pinned (OpenSpec.ofChange savesCrashSpec)

/-- ITS FALSE NEIGHBOUR: 'it returns false'. Refute it at one input. -/
def savesCrashWrong : ChangeSpec := { name := "savesCrash", fn := fun _ => fun
  | [d1, d2, d3, d4, d5, d6, d7, d8] => { results := [.lit (.bool false)], args := [d1, d2, d3, d4, d5, d6, d7, d8] }
  | _ => none }
def SavesCrashWrongFalsely : Prop := savesCrashRow.holds Tryz.pinned (OpenSpec.ofChange savesCrashWrong)

/-- 'arcadelaw11.SavesRuns': WHATEVER THE INPUT: true; the input reads as it did. -/
def savesRunsSpec : ChangeSpec := { name := "savesRuns", fn := fun _ => fun
  | [d1, d2] => { results := [.lit (.bool true)], args := [d1, d2] }
  | _ => none }
def savesRunsRow : OpenClaim := { program := "ytmofiicjaldmiaagreatdoor", sum := "64d2b3c75d38ae92edca7eb470ea7d0fe32ba499dda9158747228e87c82864d9", func := "arcade/arcadelaw11.SavesRuns", spec := "savesRuns", inPlace := ["internal/reflectlite.TypeOf", "internal/reflectlite.ValueOf", "(internal/reflectlite.Value).Type", "(internal/reflectlite.Value).IsNil", "(internal/reflectlite.Value).Elem", "(internal/reflectlite.Value).Set"], unfollowed := true, recurses := true, named := ["arcade/saves.errBroken", "errors.errorType"], apart := false, laid := [("errors.errorType", laid_errors_errorType), ("arcade/saves.errBroken", laid_arcade_saves_errBroken)] }
def SavesRunsSaid : Prop := savesRunsRow.holds Tryz.pinned (OpenSpec.ofChange savesRunsSpec)

/-- ITS FALSE NEIGHBOUR: 'it returns false'. Refute it at one input. -/
def savesRunsWrong : ChangeSpec := { name := "savesRuns", fn := fun _ => fun
  | [d1, d2] => { results := [.lit (.bool false)], args := [d1, d2] }
  | _ => none }
def SavesRunsWrongFalsely : Prop := savesRunsRow.holds Tryz.pinned (OpenSpec.ofChange savesRunsWrong)

/-- 'arcadelaw11.SavesAll': WHATEVER THE INPUT: true; the input reads as it did. -/
def savesAllSpec : ChangeSpec := { name := "savesAll", fn := fun _ => fun
  | [d1, d2] => { results := [.lit (.bool true)], args := [d1, d2] }
  | _ => none }
def savesAllRow : OpenClaim := { program := "ytmofiicjaldmiaagreatdoor", sum := "64d2b3c75d38ae92edca7eb470ea7d0fe32ba499dda9158747228e87c82864d9", func := "arcade/arcadelaw11.SavesAll", spec := "savesAll", inPlace := ["internal/reflectlite.TypeOf", "internal/reflectlite.ValueOf", "(internal/reflectlite.Value).Type", "(internal/reflectlite.Value).IsNil", "(internal/reflectlite.Value).Elem", "(internal/reflectlite.Value).Set"], unfollowed := true, recurses := true, named := ["arcade/saves.errBroken", "errors.errorType"], apart := false, laid := [("errors.errorType", laid_errors_errorType), ("arcade/saves.errBroken", laid_arcade_saves_errBroken)] }
def SavesAllSaid : Prop := savesAllRow.holds Tryz.pinned (OpenSpec.ofChange savesAllSpec)

/-- ITS FALSE NEIGHBOUR: 'it returns false'. Refute it at one input. -/
def savesAllWrong : ChangeSpec := { name := "savesAll", fn := fun _ => fun
  | [d1, d2] => { results := [.lit (.bool false)], args := [d1, d2] }
  | _ => none }
def SavesAllWrongFalsely : Prop := savesAllRow.holds Tryz.pinned (OpenSpec.ofChange savesAllWrong)

/-- 'arcadelaw11.SavesOpens': WHATEVER THE INPUT: true; the input reads as it did. -/
def savesOpensSpec : ChangeSpec := { name := "savesOpens", fn := fun _ => fun
  | [d1, d2] => { results := [.lit (.bool true)], args := [d1, d2] }
  | _ => none }
def savesOpensRow : OpenClaim := { program := "ytmofiicjaldmiaagreatdoor", sum := "64d2b3c75d38ae92edca7eb470ea7d0fe32ba499dda9158747228e87c82864d9", func := "arcade/arcadelaw11.SavesOpens", spec := "savesOpens", inPlace := ["internal/reflectlite.TypeOf", "internal/reflectlite.ValueOf", "(internal/reflectlite.Value).Type", "(internal/reflectlite.Value).IsNil", "(internal/reflectlite.Value).Elem", "(internal/reflectlite.Value).Set"], unfollowed := true, recurses := true, named := ["arcade/saves.errBroken", "errors.errorType"], apart := false, laid := [("errors.errorType", laid_errors_errorType), ("arcade/saves.errBroken", laid_arcade_saves_errBroken)] }
def SavesOpensSaid : Prop := savesOpensRow.holds Tryz.pinned (OpenSpec.ofChange savesOpensSpec)

/-- ITS FALSE NEIGHBOUR: 'it returns false'. Refute it at one input. -/
def savesOpensWrong : ChangeSpec := { name := "savesOpens", fn := fun _ => fun
  | [d1, d2] => { results := [.lit (.bool false)], args := [d1, d2] }
  | _ => none }
def SavesOpensWrongFalsely : Prop := savesOpensRow.holds Tryz.pinned (OpenSpec.ofChange savesOpensWrong)

/- THE SECOND FORM. 'bulk': how many values and letters a reading holds, each counted each time it is reached (what is shared counts as often as it is met; a slice's spare places count too). A statement '..UptoSaid' is the law's where the arguments, and the package variables that the reading takes, are together of bulk at most 1048576: NARROWER than '..Said'. Prove '..Said' where nothing that the law and all that it calls make is longer than what came in: it says more and counts as full. Else prove '..UptoSaid'. A law counts once. -/
mutual
def uptoBulk {H : Type} : DataW H → Nat
  | .lit (.string bytes) => bytes.length + 1
  | .lit _ => 1
  | .nil => 1
  | .ptr d => uptoBulk d + 1
  | .slice elems spare => uptoBulkAll elems + uptoBulkAll spare + 1
  | .agg parts => uptoBulkAll parts + 1
  | .iface _ d => uptoBulk d + 1
  | .map entries => uptoBulkEntries entries + 1
  | .held _ => 1
def uptoBulkAll {H : Type} : List (DataW H) → Nat
  | [] => 0
  | d :: r => uptoBulk d + uptoBulkAll r
def uptoBulkEntries {H : Type} : List (Lit × DataW H) → Nat
  | [] => 0
  | x :: r => uptoBulkEntry x + uptoBulkEntries r
def uptoBulkEntry {H : Type} : Lit × DataW H → Nat
  | (.string bytes, d) => bytes.length + uptoBulk d + 1
  | (_, d) => uptoBulk d + 1
 end
def uptoSmall : (H : Type) → List (DataW H) → Bool := fun _ ds => decide (uptoBulkAll ds ≤ 1048576)
def OpenSpec.upto (s : _root_.Go.ChangeSpec) : _root_.Go.OpenSpec := { _root_.Go.OpenSpec.ofChange s with cond := some uptoSmall }

/-- 'arcadelaw11.SavesApart', WHERE WHAT IT READS IS OF BULK AT MOST 1048576: true; the input reads as it did. -/
def savesApartUptoRow : OpenClaim := { program := "ytmofiicjaldmiaagreatdoor", sum := "64d2b3c75d38ae92edca7eb470ea7d0fe32ba499dda9158747228e87c82864d9", func := "arcade/arcadelaw11.SavesApart", spec := "savesApart", inPlace := ["internal/reflectlite.TypeOf", "internal/reflectlite.ValueOf", "(internal/reflectlite.Value).Type", "(internal/reflectlite.Value).IsNil", "(internal/reflectlite.Value).Elem", "(internal/reflectlite.Value).Set"], unfollowed := true, recurses := true, named := ["arcade/saves.errBroken", "errors.errorType"], apart := false, laid := [("errors.errorType", laid_errors_errorType), ("arcade/saves.errBroken", laid_arcade_saves_errBroken)], narrowed := true }
def SavesApartUptoSaid : Prop := savesApartUptoRow.holds Tryz.pinned (OpenSpec.upto savesApartSpec)

/-- 'arcadelaw11.SavesAgain', WHERE WHAT IT READS IS OF BULK AT MOST 1048576: true; the input reads as it did. -/
def savesAgainUptoRow : OpenClaim := { program := "ytmofiicjaldmiaagreatdoor", sum := "64d2b3c75d38ae92edca7eb470ea7d0fe32ba499dda9158747228e87c82864d9", func := "arcade/arcadelaw11.SavesAgain", spec := "savesAgain", inPlace := ["internal/reflectlite.TypeOf", "internal/reflectlite.ValueOf", "(internal/reflectlite.Value).Type", "(internal/reflectlite.Value).IsNil", "(internal/reflectlite.Value).Elem", "(internal/reflectlite.Value).Set"], unfollowed := true, recurses := true, named := ["arcade/saves.errBroken", "errors.errorType"], apart := false, laid := [("errors.errorType", laid_errors_errorType), ("arcade/saves.errBroken", laid_arcade_saves_errBroken)], narrowed := true }
def SavesAgainUptoSaid : Prop := savesAgainUptoRow.holds Tryz.pinned (OpenSpec.upto savesAgainSpec)

/-- 'arcadelaw11.SavesRoom', WHERE WHAT IT READS IS OF BULK AT MOST 1048576: true; the input reads as it did. -/
def savesRoomUptoRow : OpenClaim := { program := "ytmofiicjaldmiaagreatdoor", sum := "64d2b3c75d38ae92edca7eb470ea7d0fe32ba499dda9158747228e87c82864d9", func := "arcade/arcadelaw11.SavesRoom", spec := "savesRoom", inPlace := ["internal/reflectlite.TypeOf", "internal/reflectlite.ValueOf", "(internal/reflectlite.Value).Type", "(internal/reflectlite.Value).IsNil", "(internal/reflectlite.Value).Elem", "(internal/reflectlite.Value).Set"], unfollowed := true, recurses := true, named := ["arcade/saves.errBroken", "errors.errorType"], apart := false, laid := [("errors.errorType", laid_errors_errorType), ("arcade/saves.errBroken", laid_arcade_saves_errBroken)], narrowed := true }
def SavesRoomUptoSaid : Prop := savesRoomUptoRow.holds Tryz.pinned (OpenSpec.upto savesRoomSpec)

/-- 'arcadelaw11.SavesCounted', WHERE WHAT IT READS IS OF BULK AT MOST 1048576: true; the input reads as it did. -/
def savesCountedUptoRow : OpenClaim := { program := "ytmofiicjaldmiaagreatdoor", sum := "64d2b3c75d38ae92edca7eb470ea7d0fe32ba499dda9158747228e87c82864d9", func := "arcade/arcadelaw11.SavesCounted", spec := "savesCounted", inPlace := ["internal/reflectlite.TypeOf", "internal/reflectlite.ValueOf", "(internal/reflectlite.Value).Type", "(internal/reflectlite.Value).IsNil", "(internal/reflectlite.Value).Elem", "(internal/reflectlite.Value).Set"], unfollowed := true, recurses := true, named := ["arcade/saves.errBroken", "errors.errorType"], apart := false, laid := [("errors.errorType", laid_errors_errorType), ("arcade/saves.errBroken", laid_arcade_saves_errBroken)], narrowed := true }
def SavesCountedUptoSaid : Prop := savesCountedUptoRow.holds Tryz.pinned (OpenSpec.upto savesCountedSpec)

/-- 'arcadelaw11.SavesQuiet', WHERE WHAT IT READS IS OF BULK AT MOST 1048576: true; the input reads as it did. -/
def savesQuietUptoRow : OpenClaim := { program := "ytmofiicjaldmiaagreatdoor", sum := "64d2b3c75d38ae92edca7eb470ea7d0fe32ba499dda9158747228e87c82864d9", func := "arcade/arcadelaw11.SavesQuiet", spec := "savesQuiet", inPlace := ["internal/reflectlite.TypeOf", "internal/reflectlite.ValueOf", "(internal/reflectlite.Value).Type", "(internal/reflectlite.Value).IsNil", "(internal/reflectlite.Value).Elem", "(internal/reflectlite.Value).Set"], unfollowed := true, recurses := true, named := ["arcade/saves.errBroken", "errors.errorType"], apart := false, laid := [("errors.errorType", laid_errors_errorType), ("arcade/saves.errBroken", laid_arcade_saves_errBroken)], narrowed := true }
def SavesQuietUptoSaid : Prop := savesQuietUptoRow.holds Tryz.pinned (OpenSpec.upto savesQuietSpec)

/-- 'arcadelaw11.SavesStrewn', WHERE WHAT IT READS IS OF BULK AT MOST 1048576: true; the input reads as it did. -/
def savesStrewnUptoRow : OpenClaim := { program := "ytmofiicjaldmiaagreatdoor", sum := "64d2b3c75d38ae92edca7eb470ea7d0fe32ba499dda9158747228e87c82864d9", func := "arcade/arcadelaw11.SavesStrewn", spec := "savesStrewn", inPlace := ["internal/reflectlite.TypeOf", "internal/reflectlite.ValueOf", "(internal/reflectlite.Value).Type", "(internal/reflectlite.Value).IsNil", "(internal/reflectlite.Value).Elem", "(internal/reflectlite.Value).Set"], unfollowed := true, recurses := true, named := ["arcade/saves.errBroken", "errors.errorType"], apart := false, laid := [("errors.errorType", laid_errors_errorType), ("arcade/saves.errBroken", laid_arcade_saves_errBroken)], narrowed := true }
def SavesStrewnUptoSaid : Prop := savesStrewnUptoRow.holds Tryz.pinned (OpenSpec.upto savesStrewnSpec)

/-- 'arcadelaw11.SavesKept', WHERE WHAT IT READS IS OF BULK AT MOST 1048576: true; the input reads as it did. -/
def savesKeptUptoRow : OpenClaim := { program := "ytmofiicjaldmiaagreatdoor", sum := "64d2b3c75d38ae92edca7eb470ea7d0fe32ba499dda9158747228e87c82864d9", func := "arcade/arcadelaw11.SavesKept", spec := "savesKept", inPlace := ["internal/reflectlite.TypeOf", "internal/reflectlite.ValueOf", "(internal/reflectlite.Value).Type", "(internal/reflectlite.Value).IsNil", "(internal/reflectlite.Value).Elem", "(internal/reflectlite.Value).Set"], unfollowed := true, recurses := true, named := ["arcade/saves.errBroken", "errors.errorType"], apart := false, laid := [("errors.errorType", laid_errors_errorType), ("arcade/saves.errBroken", laid_arcade_saves_errBroken)], narrowed := true }
def SavesKeptUptoSaid : Prop := savesKeptUptoRow.holds Tryz.pinned (OpenSpec.upto savesKeptSpec)

/-- 'arcadelaw11.SavesCrash', WHERE WHAT IT READS IS OF BULK AT MOST 1048576: true; the input reads as it did. -/
def savesCrashUptoRow : OpenClaim := { program := "ytmofiicjaldmiaagreatdoor", sum := "64d2b3c75d38ae92edca7eb470ea7d0fe32ba499dda9158747228e87c82864d9", func := "arcade/arcadelaw11.SavesCrash", spec := "savesCrash", inPlace := ["internal/reflectlite.TypeOf", "internal/reflectlite.ValueOf", "(internal/reflectlite.Value).Type", "(internal/reflectlite.Value).IsNil", "(internal/reflectlite.Value).Elem", "(internal/reflectlite.Value).Set"], unfollowed := true, recurses := true, named := ["arcade/saves.errBroken", "errors.errorType"], apart := false, laid := [("errors.errorType", laid_errors_errorType), ("arcade/saves.errBroken", laid_arcade_saves_errBroken)], narrowed := true }
def SavesCrashUptoSaid : Prop := savesCrashUptoRow.holds Tryz.pinned (OpenSpec.upto savesCrashSpec)

/-- 'arcadelaw11.SavesRuns', WHERE WHAT IT READS IS OF BULK AT MOST 1048576: true; the input reads as it did. -/
def savesRunsUptoRow : OpenClaim := { program := "ytmofiicjaldmiaagreatdoor", sum := "64d2b3c75d38ae92edca7eb470ea7d0fe32ba499dda9158747228e87c82864d9", func := "arcade/arcadelaw11.SavesRuns", spec := "savesRuns", inPlace := ["internal/reflectlite.TypeOf", "internal/reflectlite.ValueOf", "(internal/reflectlite.Value).Type", "(internal/reflectlite.Value).IsNil", "(internal/reflectlite.Value).Elem", "(internal/reflectlite.Value).Set"], unfollowed := true, recurses := true, named := ["arcade/saves.errBroken", "errors.errorType"], apart := false, laid := [("errors.errorType", laid_errors_errorType), ("arcade/saves.errBroken", laid_arcade_saves_errBroken)], narrowed := true }
def SavesRunsUptoSaid : Prop := savesRunsUptoRow.holds Tryz.pinned (OpenSpec.upto savesRunsSpec)

/-- 'arcadelaw11.SavesAll', WHERE WHAT IT READS IS OF BULK AT MOST 1048576: true; the input reads as it did. -/
def savesAllUptoRow : OpenClaim := { program := "ytmofiicjaldmiaagreatdoor", sum := "64d2b3c75d38ae92edca7eb470ea7d0fe32ba499dda9158747228e87c82864d9", func := "arcade/arcadelaw11.SavesAll", spec := "savesAll", inPlace := ["internal/reflectlite.TypeOf", "internal/reflectlite.ValueOf", "(internal/reflectlite.Value).Type", "(internal/reflectlite.Value).IsNil", "(internal/reflectlite.Value).Elem", "(internal/reflectlite.Value).Set"], unfollowed := true, recurses := true, named := ["arcade/saves.errBroken", "errors.errorType"], apart := false, laid := [("errors.errorType", laid_errors_errorType), ("arcade/saves.errBroken", laid_arcade_saves_errBroken)], narrowed := true }
def SavesAllUptoSaid : Prop := savesAllUptoRow.holds Tryz.pinned (OpenSpec.upto savesAllSpec)

/-- 'arcadelaw11.SavesOpens', WHERE WHAT IT READS IS OF BULK AT MOST 1048576: true; the input reads as it did. -/
def savesOpensUptoRow : OpenClaim := { program := "ytmofiicjaldmiaagreatdoor", sum := "64d2b3c75d38ae92edca7eb470ea7d0fe32ba499dda9158747228e87c82864d9", func := "arcade/arcadelaw11.SavesOpens", spec := "savesOpens", inPlace := ["internal/reflectlite.TypeOf", "internal/reflectlite.ValueOf", "(internal/reflectlite.Value).Type", "(internal/reflectlite.Value).IsNil", "(internal/reflectlite.Value).Elem", "(internal/reflectlite.Value).Set"], unfollowed := true, recurses := true, named := ["arcade/saves.errBroken", "errors.errorType"], apart := false, laid := [("errors.errorType", laid_errors_errorType), ("arcade/saves.errBroken", laid_arcade_saves_errBroken)], narrowed := true }
def SavesOpensUptoSaid : Prop := savesOpensUptoRow.holds Tryz.pinned (OpenSpec.upto savesOpensSpec)

end Rows
end Go.Proofs.YtmofiicjaldmiaaGreatDoor
