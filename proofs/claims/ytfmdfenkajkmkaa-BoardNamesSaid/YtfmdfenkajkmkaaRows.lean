/-
  No cell of these rows narrows 'for every input' (looked for: loops, veiled, ifaces, maps, wideKeys, modest, calm, conditions, laid).
  DERIVED. THE GIVEN ROWS OF THIS SEAT. 8 by the template 'for every input the law returns true; each argument reads behind the call as it read before'; 0 by the template 'total and deterministic' (their statements: YtfmdfenkajkmkaaTotals.lean).
  GIVEN WITH THE SEED: the statements are not yours to turn. If you find one false, say at which input.
  Laid BY PROGRAM, IN A SANDBOX (cutbox-rows.mjs): the forced cells as the released guide's own fill.sh prints them over the translation fedd0387ffbf8e91… (all of the seat's roots in one cut). By AI agents, Wed Nov 11 2026. No macro, syntax, notation, axiom, sorry.
-/
import Derived.Test.YtfmdfenkajkmkaaChecked
import GoSem.Claim
import GoSem.ClaimJoined
import GoSem.ClaimMapViews
import Derived.JoinedTies
import Derived.KernelRfl
namespace Go.Proofs.Ytfmdfenkajkmkaa
/- THE CELL 'sum', in the pinned program and in every row, IS THE sha256 OF THE DUMP (.gsa) THAT YtfmdfenkajkmkaaProg.lean LOADS. Nothing in Lean hashes anything: it is a label: what it is worth is what the hold of that sum in a sandbox is worth. -/
noncomputable def Try.pinned : Pinned := { name := "ytfmdfenkajkmkaa", sum := "fedd0387ffbf8e91499e9d1a7b7957b9faed87b8bd87e6fece90b9b287af0275", checked := Try.checked }
namespace Rows
def none {H : Type} : Left H := { results := [], args := [] }

/-- 'arcadelaw7.BoardNames': WHATEVER THE INPUT: true; the input reads as it did. -/
def boardNamesSpec : ChangeSpec := { name := "boardNames", fn := fun _ => fun
  | [] => { results := [.lit (.bool true)], args := [] }
  | _ => none }
def boardNamesRow : OpenClaim := { program := "ytfmdfenkajkmkaa", sum := "fedd0387ffbf8e91499e9d1a7b7957b9faed87b8bd87e6fece90b9b287af0275", func := "arcade/arcadelaw7.BoardNames", spec := "boardNames", apart := false }
def BoardNamesSaid : Prop := boardNamesRow.holds Try.pinned (OpenSpec.ofChange boardNamesSpec)

/-- ITS FALSE NEIGHBOUR: 'it returns false'. Refute it at one input. -/
def boardNamesWrong : ChangeSpec := { name := "boardNames", fn := fun _ => fun
  | [] => { results := [.lit (.bool false)], args := [] }
  | _ => none }
def BoardNamesWrongFalsely : Prop := boardNamesRow.holds Try.pinned (OpenSpec.ofChange boardNamesWrong)

/-- 'arcadelaw8.ConsoleNames': WHATEVER THE INPUT: true; the input reads as it did. -/
def consoleNamesSpec : ChangeSpec := { name := "consoleNames", fn := fun _ => fun
  | [] => { results := [.lit (.bool true)], args := [] }
  | _ => none }
def consoleNamesRow : OpenClaim := { program := "ytfmdfenkajkmkaa", sum := "fedd0387ffbf8e91499e9d1a7b7957b9faed87b8bd87e6fece90b9b287af0275", func := "arcade/arcadelaw8.ConsoleNames", spec := "consoleNames", apart := false }
def ConsoleNamesSaid : Prop := consoleNamesRow.holds Try.pinned (OpenSpec.ofChange consoleNamesSpec)

/-- ITS FALSE NEIGHBOUR: 'it returns false'. Refute it at one input. -/
def consoleNamesWrong : ChangeSpec := { name := "consoleNames", fn := fun _ => fun
  | [] => { results := [.lit (.bool false)], args := [] }
  | _ => none }
def ConsoleNamesWrongFalsely : Prop := consoleNamesRow.holds Try.pinned (OpenSpec.ofChange consoleNamesWrong)

/-- 'arcadelaw16.MovieNames': WHATEVER THE INPUT: true; the input reads as it did. -/
def movieNamesSpec : ChangeSpec := { name := "movieNames", fn := fun _ => fun
  | [] => { results := [.lit (.bool true)], args := [] }
  | _ => none }
def movieNamesRow : OpenClaim := { program := "ytfmdfenkajkmkaa", sum := "fedd0387ffbf8e91499e9d1a7b7957b9faed87b8bd87e6fece90b9b287af0275", func := "arcade/arcadelaw16.MovieNames", spec := "movieNames", apart := false }
def MovieNamesSaid : Prop := movieNamesRow.holds Try.pinned (OpenSpec.ofChange movieNamesSpec)

/-- ITS FALSE NEIGHBOUR: 'it returns false'. Refute it at one input. -/
def movieNamesWrong : ChangeSpec := { name := "movieNames", fn := fun _ => fun
  | [] => { results := [.lit (.bool false)], args := [] }
  | _ => none }
def MovieNamesWrongFalsely : Prop := movieNamesRow.holds Try.pinned (OpenSpec.ofChange movieNamesWrong)

/-- 'arcadelaw14.HostNames': WHATEVER THE INPUT: true; the input reads as it did. -/
def hostNamesSpec : ChangeSpec := { name := "hostNames", fn := fun _ => fun
  | [] => { results := [.lit (.bool true)], args := [] }
  | _ => none }
def hostNamesRow : OpenClaim := { program := "ytfmdfenkajkmkaa", sum := "fedd0387ffbf8e91499e9d1a7b7957b9faed87b8bd87e6fece90b9b287af0275", func := "arcade/arcadelaw14.HostNames", spec := "hostNames", apart := false }
def HostNamesSaid : Prop := hostNamesRow.holds Try.pinned (OpenSpec.ofChange hostNamesSpec)

/-- ITS FALSE NEIGHBOUR: 'it returns false'. Refute it at one input. -/
def hostNamesWrong : ChangeSpec := { name := "hostNames", fn := fun _ => fun
  | [] => { results := [.lit (.bool false)], args := [] }
  | _ => none }
def HostNamesWrongFalsely : Prop := hostNamesRow.holds Try.pinned (OpenSpec.ofChange hostNamesWrong)

/-- 'arcadelaw15.PackNames': WHATEVER THE INPUT: true; the input reads as it did. -/
def packNamesSpec : ChangeSpec := { name := "packNames", fn := fun _ => fun
  | [] => { results := [.lit (.bool true)], args := [] }
  | _ => none }
def packNamesRow : OpenClaim := { program := "ytfmdfenkajkmkaa", sum := "fedd0387ffbf8e91499e9d1a7b7957b9faed87b8bd87e6fece90b9b287af0275", func := "arcade/arcadelaw15.PackNames", spec := "packNames", apart := false }
def PackNamesSaid : Prop := packNamesRow.holds Try.pinned (OpenSpec.ofChange packNamesSpec)

/-- ITS FALSE NEIGHBOUR: 'it returns false'. Refute it at one input. -/
def packNamesWrong : ChangeSpec := { name := "packNames", fn := fun _ => fun
  | [] => { results := [.lit (.bool false)], args := [] }
  | _ => none }
def PackNamesWrongFalsely : Prop := packNamesRow.holds Try.pinned (OpenSpec.ofChange packNamesWrong)

/-- 'arcadelaw11.SavesNames': WHATEVER THE INPUT: true; the input reads as it did. -/
def savesNamesSpec : ChangeSpec := { name := "savesNames", fn := fun _ => fun
  | [] => { results := [.lit (.bool true)], args := [] }
  | _ => none }
def savesNamesRow : OpenClaim := { program := "ytfmdfenkajkmkaa", sum := "fedd0387ffbf8e91499e9d1a7b7957b9faed87b8bd87e6fece90b9b287af0275", func := "arcade/arcadelaw11.SavesNames", spec := "savesNames", apart := false }
def SavesNamesSaid : Prop := savesNamesRow.holds Try.pinned (OpenSpec.ofChange savesNamesSpec)

/-- ITS FALSE NEIGHBOUR: 'it returns false'. Refute it at one input. -/
def savesNamesWrong : ChangeSpec := { name := "savesNames", fn := fun _ => fun
  | [] => { results := [.lit (.bool false)], args := [] }
  | _ => none }
def SavesNamesWrongFalsely : Prop := savesNamesRow.holds Try.pinned (OpenSpec.ofChange savesNamesWrong)

/-- 'arcadelaw12.ProtoNames': WHATEVER THE INPUT: true; the input reads as it did. -/
def protoNamesSpec : ChangeSpec := { name := "protoNames", fn := fun _ => fun
  | [] => { results := [.lit (.bool true)], args := [] }
  | _ => none }
def protoNamesRow : OpenClaim := { program := "ytfmdfenkajkmkaa", sum := "fedd0387ffbf8e91499e9d1a7b7957b9faed87b8bd87e6fece90b9b287af0275", func := "arcade/arcadelaw12.ProtoNames", spec := "protoNames", apart := false }
def ProtoNamesSaid : Prop := protoNamesRow.holds Try.pinned (OpenSpec.ofChange protoNamesSpec)

/-- ITS FALSE NEIGHBOUR: 'it returns false'. Refute it at one input. -/
def protoNamesWrong : ChangeSpec := { name := "protoNames", fn := fun _ => fun
  | [] => { results := [.lit (.bool false)], args := [] }
  | _ => none }
def ProtoNamesWrongFalsely : Prop := protoNamesRow.holds Try.pinned (OpenSpec.ofChange protoNamesWrong)

/-- 'arcadelaw1.AluNames': WHATEVER THE INPUT: true; the input reads as it did. -/
def aluNamesSpec : ChangeSpec := { name := "aluNames", fn := fun _ => fun
  | [] => { results := [.lit (.bool true)], args := [] }
  | _ => none }
def aluNamesRow : OpenClaim := { program := "ytfmdfenkajkmkaa", sum := "fedd0387ffbf8e91499e9d1a7b7957b9faed87b8bd87e6fece90b9b287af0275", func := "arcade/arcadelaw1.AluNames", spec := "aluNames", apart := false }
def AluNamesSaid : Prop := aluNamesRow.holds Try.pinned (OpenSpec.ofChange aluNamesSpec)

/-- ITS FALSE NEIGHBOUR: 'it returns false'. Refute it at one input. -/
def aluNamesWrong : ChangeSpec := { name := "aluNames", fn := fun _ => fun
  | [] => { results := [.lit (.bool false)], args := [] }
  | _ => none }
def AluNamesWrongFalsely : Prop := aluNamesRow.holds Try.pinned (OpenSpec.ofChange aluNamesWrong)

/- THE SECOND FORM. 'bulk': how many values and letters a reading holds, each counted each time it is reached (what is shared counts as often as it is met; a slice's spare places count too). A statement '..UptoSaid' is the law's where the arguments, and the package variables that the reading takes, are together of bulk at most 1048576: NARROWER than '..Said'. Prove '..Said' where nothing that the law and all that it calls make is longer than what came in: it says more and counts as full. Else prove '..UptoSaid'. A law counts once. -/
mutual
def uptoBulk {H : Type} : DataW H → Nat
  | .lit (.string bytes) => bytes.length + 1
  | .lit _ => 1
  | .nil => 1
  | .ptr d => uptoBulk d + 1
  | .slice elems spare => uptoBulkAll elems + uptoBulkAll spare + 1
  | .agg parts => uptoBulkAll parts + 1
  | .iface _ d => uptoBulk d + 1
  | .map entries => uptoBulkEntries entries + 1
  | .held _ => 1
def uptoBulkAll {H : Type} : List (DataW H) → Nat
  | [] => 0
  | d :: r => uptoBulk d + uptoBulkAll r
def uptoBulkEntries {H : Type} : List (Lit × DataW H) → Nat
  | [] => 0
  | x :: r => uptoBulkEntry x + uptoBulkEntries r
def uptoBulkEntry {H : Type} : Lit × DataW H → Nat
  | (.string bytes, d) => bytes.length + uptoBulk d + 1
  | (_, d) => uptoBulk d + 1
 end
def uptoSmall : (H : Type) → List (DataW H) → Bool := fun _ ds => decide (uptoBulkAll ds ≤ 1048576)
def OpenSpec.upto (s : _root_.Go.ChangeSpec) : _root_.Go.OpenSpec := { _root_.Go.OpenSpec.ofChange s with cond := some uptoSmall }

/-- 'arcadelaw7.BoardNames', WHERE WHAT IT READS IS OF BULK AT MOST 1048576: true; the input reads as it did. -/
def boardNamesUptoRow : OpenClaim := { program := "ytfmdfenkajkmkaa", sum := "fedd0387ffbf8e91499e9d1a7b7957b9faed87b8bd87e6fece90b9b287af0275", func := "arcade/arcadelaw7.BoardNames", spec := "boardNames", apart := false, narrowed := true }
def BoardNamesUptoSaid : Prop := boardNamesUptoRow.holds Try.pinned (OpenSpec.upto boardNamesSpec)

/-- 'arcadelaw8.ConsoleNames', WHERE WHAT IT READS IS OF BULK AT MOST 1048576: true; the input reads as it did. -/
def consoleNamesUptoRow : OpenClaim := { program := "ytfmdfenkajkmkaa", sum := "fedd0387ffbf8e91499e9d1a7b7957b9faed87b8bd87e6fece90b9b287af0275", func := "arcade/arcadelaw8.ConsoleNames", spec := "consoleNames", apart := false, narrowed := true }
def ConsoleNamesUptoSaid : Prop := consoleNamesUptoRow.holds Try.pinned (OpenSpec.upto consoleNamesSpec)

/-- 'arcadelaw16.MovieNames', WHERE WHAT IT READS IS OF BULK AT MOST 1048576: true; the input reads as it did. -/
def movieNamesUptoRow : OpenClaim := { program := "ytfmdfenkajkmkaa", sum := "fedd0387ffbf8e91499e9d1a7b7957b9faed87b8bd87e6fece90b9b287af0275", func := "arcade/arcadelaw16.MovieNames", spec := "movieNames", apart := false, narrowed := true }
def MovieNamesUptoSaid : Prop := movieNamesUptoRow.holds Try.pinned (OpenSpec.upto movieNamesSpec)

/-- 'arcadelaw14.HostNames', WHERE WHAT IT READS IS OF BULK AT MOST 1048576: true; the input reads as it did. -/
def hostNamesUptoRow : OpenClaim := { program := "ytfmdfenkajkmkaa", sum := "fedd0387ffbf8e91499e9d1a7b7957b9faed87b8bd87e6fece90b9b287af0275", func := "arcade/arcadelaw14.HostNames", spec := "hostNames", apart := false, narrowed := true }
def HostNamesUptoSaid : Prop := hostNamesUptoRow.holds Try.pinned (OpenSpec.upto hostNamesSpec)

/-- 'arcadelaw15.PackNames', WHERE WHAT IT READS IS OF BULK AT MOST 1048576: true; the input reads as it did. -/
def packNamesUptoRow : OpenClaim := { program := "ytfmdfenkajkmkaa", sum := "fedd0387ffbf8e91499e9d1a7b7957b9faed87b8bd87e6fece90b9b287af0275", func := "arcade/arcadelaw15.PackNames", spec := "packNames", apart := false, narrowed := true }
def PackNamesUptoSaid : Prop := packNamesUptoRow.holds Try.pinned (OpenSpec.upto packNamesSpec)

/-- 'arcadelaw11.SavesNames', WHERE WHAT IT READS IS OF BULK AT MOST 1048576: true; the input reads as it did. -/
def savesNamesUptoRow : OpenClaim := { program := "ytfmdfenkajkmkaa", sum := "fedd0387ffbf8e91499e9d1a7b7957b9faed87b8bd87e6fece90b9b287af0275", func := "arcade/arcadelaw11.SavesNames", spec := "savesNames", apart := false, narrowed := true }
def SavesNamesUptoSaid : Prop := savesNamesUptoRow.holds Try.pinned (OpenSpec.upto savesNamesSpec)

/-- 'arcadelaw12.ProtoNames', WHERE WHAT IT READS IS OF BULK AT MOST 1048576: true; the input reads as it did. -/
def protoNamesUptoRow : OpenClaim := { program := "ytfmdfenkajkmkaa", sum := "fedd0387ffbf8e91499e9d1a7b7957b9faed87b8bd87e6fece90b9b287af0275", func := "arcade/arcadelaw12.ProtoNames", spec := "protoNames", apart := false, narrowed := true }
def ProtoNamesUptoSaid : Prop := protoNamesUptoRow.holds Try.pinned (OpenSpec.upto protoNamesSpec)

/-- 'arcadelaw1.AluNames', WHERE WHAT IT READS IS OF BULK AT MOST 1048576: true; the input reads as it did. -/
def aluNamesUptoRow : OpenClaim := { program := "ytfmdfenkajkmkaa", sum := "fedd0387ffbf8e91499e9d1a7b7957b9faed87b8bd87e6fece90b9b287af0275", func := "arcade/arcadelaw1.AluNames", spec := "aluNames", apart := false, narrowed := true }
def AluNamesUptoSaid : Prop := aluNamesUptoRow.holds Try.pinned (OpenSpec.upto aluNamesSpec)

end Rows
end Go.Proofs.Ytfmdfenkajkmkaa
