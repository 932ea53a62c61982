/-
  No cell of these rows narrows 'for every input' (looked for: loops, veiled, ifaces, maps, wideKeys, modest, calm, conditions, laid).
  DERIVED. THE GIVEN ROWS OF THIS SEAT. 5 by the template 'for every input the law returns true; each argument reads behind the call as it read before'; 0 by the template 'total and deterministic' (their statements: YtpflenaoplblkaaTotals.lean).
  GIVEN WITH THE SEED: the statements are not yours to turn. If you find one false, say at which input.
  Laid BY PROGRAM, IN A SANDBOX (cutbox-rows.mjs): the forced cells as the released guide's own fill.sh prints them over the translation 8d91e56c11eb6a33… (all of the seat's roots in one cut). By AI agents, Wed Nov 11 2026. No macro, syntax, notation, axiom, sorry.
-/
import Derived.Test.YtpflenaoplblkaaChecked
import GoSem.Claim
import GoSem.ClaimJoined
import GoSem.ClaimMapViews
import Derived.JoinedTies
import Derived.KernelRfl
namespace Go.Proofs.Ytpflenaoplblkaa
/- THE CELL 'sum', in the pinned program and in every row, IS THE sha256 OF THE DUMP (.gsa) THAT YtpflenaoplblkaaProg.lean LOADS. Nothing in Lean hashes anything: it is a label: what it is worth is what the hold of that sum in a sandbox is worth. -/
noncomputable def Try.pinned : Pinned := { name := "ytpflenaoplblkaa", sum := "8d91e56c11eb6a3395ec46dd8431158301aa284c6a078df9ab3e1cadc504bba2", checked := Try.checked }
namespace Rows
def none {H : Type} : Left H := { results := [], args := [] }

/-- 'arcadelaw12.ProtoCut': WHATEVER THE INPUT: true; the input reads as it did. -/
def protoCutSpec : ChangeSpec := { name := "protoCut", fn := fun _ => fun
  | [d1, d2] => { results := [.lit (.bool true)], args := [d1, d2] }
  | _ => none }
def protoCutRow : OpenClaim := { program := "ytpflenaoplblkaa", sum := "8d91e56c11eb6a3395ec46dd8431158301aa284c6a078df9ab3e1cadc504bba2", func := "arcade/arcadelaw12.ProtoCut", spec := "protoCut", unfollowed := true, recurses := true, apart := false }
def ProtoCutSaid : Prop := protoCutRow.holds Try.pinned (OpenSpec.ofChange protoCutSpec)

/-- ITS FALSE NEIGHBOUR: 'it returns false'. Refute it at one input. -/
def protoCutWrong : ChangeSpec := { name := "protoCut", fn := fun _ => fun
  | [d1, d2] => { results := [.lit (.bool false)], args := [d1, d2] }
  | _ => none }
def ProtoCutWrongFalsely : Prop := protoCutRow.holds Try.pinned (OpenSpec.ofChange protoCutWrong)

/-- 'arcadelaw12.ProtoBack': WHATEVER THE INPUT: true; the input reads as it did. -/
def protoBackSpec : ChangeSpec := { name := "protoBack", fn := fun _ => fun
  | [d1, d2] => { results := [.lit (.bool true)], args := [d1, d2] }
  | _ => none }
def protoBackRow : OpenClaim := { program := "ytpflenaoplblkaa", sum := "8d91e56c11eb6a3395ec46dd8431158301aa284c6a078df9ab3e1cadc504bba2", func := "arcade/arcadelaw12.ProtoBack", spec := "protoBack", unfollowed := true, recurses := true, apart := false }
def ProtoBackSaid : Prop := protoBackRow.holds Try.pinned (OpenSpec.ofChange protoBackSpec)

/-- ITS FALSE NEIGHBOUR: 'it returns false'. Refute it at one input. -/
def protoBackWrong : ChangeSpec := { name := "protoBack", fn := fun _ => fun
  | [d1, d2] => { results := [.lit (.bool false)], args := [d1, d2] }
  | _ => none }
def ProtoBackWrongFalsely : Prop := protoBackRow.holds Try.pinned (OpenSpec.ofChange protoBackWrong)

/-- 'arcadelaw12.ProtoSame': WHATEVER THE INPUT: true; the input reads as it did. -/
def protoSameSpec : ChangeSpec := { name := "protoSame", fn := fun _ => fun
  | [d] => { results := [.lit (.bool true)], args := [d] }
  | _ => none }
def protoSameRow : OpenClaim := { program := "ytpflenaoplblkaa", sum := "8d91e56c11eb6a3395ec46dd8431158301aa284c6a078df9ab3e1cadc504bba2", func := "arcade/arcadelaw12.ProtoSame", spec := "protoSame", unfollowed := true, recurses := true, apart := false }
def ProtoSameSaid : Prop := protoSameRow.holds Try.pinned (OpenSpec.ofChange protoSameSpec)

/-- ITS FALSE NEIGHBOUR: 'it returns false'. Refute it at one input. -/
def protoSameWrong : ChangeSpec := { name := "protoSame", fn := fun _ => fun
  | [d] => { results := [.lit (.bool false)], args := [d] }
  | _ => none }
def ProtoSameWrongFalsely : Prop := protoSameRow.holds Try.pinned (OpenSpec.ofChange protoSameWrong)

/-- 'arcadelaw12.ProtoReplies': WHATEVER THE INPUT: true; the input reads as it did. -/
def protoRepliesSpec : ChangeSpec := { name := "protoReplies", fn := fun _ => fun
  | [d1, d2, d3] => { results := [.lit (.bool true)], args := [d1, d2, d3] }
  | _ => none }
def protoRepliesRow : OpenClaim := { program := "ytpflenaoplblkaa", sum := "8d91e56c11eb6a3395ec46dd8431158301aa284c6a078df9ab3e1cadc504bba2", func := "arcade/arcadelaw12.ProtoReplies", spec := "protoReplies", unfollowed := true, recurses := true, apart := false }
def ProtoRepliesSaid : Prop := protoRepliesRow.holds Try.pinned (OpenSpec.ofChange protoRepliesSpec)

/-- ITS FALSE NEIGHBOUR: 'it returns false'. Refute it at one input. -/
def protoRepliesWrong : ChangeSpec := { name := "protoReplies", fn := fun _ => fun
  | [d1, d2, d3] => { results := [.lit (.bool false)], args := [d1, d2, d3] }
  | _ => none }
def ProtoRepliesWrongFalsely : Prop := protoRepliesRow.holds Try.pinned (OpenSpec.ofChange protoRepliesWrong)

/-- 'arcadelaw12.ProtoAll': WHATEVER THE INPUT: true; the input reads as it did. -/
def protoAllSpec : ChangeSpec := { name := "protoAll", fn := fun _ => fun
  | [d] => { results := [.lit (.bool true)], args := [d] }
  | _ => none }
def protoAllRow : OpenClaim := { program := "ytpflenaoplblkaa", sum := "8d91e56c11eb6a3395ec46dd8431158301aa284c6a078df9ab3e1cadc504bba2", func := "arcade/arcadelaw12.ProtoAll", spec := "protoAll", unfollowed := true, recurses := true, apart := false }
def ProtoAllSaid : Prop := protoAllRow.holds Try.pinned (OpenSpec.ofChange protoAllSpec)

/-- ITS FALSE NEIGHBOUR: 'it returns false'. Refute it at one input. -/
def protoAllWrong : ChangeSpec := { name := "protoAll", fn := fun _ => fun
  | [d] => { results := [.lit (.bool false)], args := [d] }
  | _ => none }
def ProtoAllWrongFalsely : Prop := protoAllRow.holds Try.pinned (OpenSpec.ofChange protoAllWrong)

/- THE SECOND FORM. 'bulk': how many values and letters a reading holds, each counted each time it is reached (what is shared counts as often as it is met; a slice's spare places count too). A statement '..UptoSaid' is the law's where the arguments, and the package variables that the reading takes, are together of bulk at most 1048576: NARROWER than '..Said'. Prove '..Said' where nothing that the law and all that it calls make is longer than what came in: it says more and counts as full. Else prove '..UptoSaid'. A law counts once. -/
mutual
def uptoBulk {H : Type} : DataW H → Nat
  | .lit (.string bytes) => bytes.length + 1
  | .lit _ => 1
  | .nil => 1
  | .ptr d => uptoBulk d + 1
  | .slice elems spare => uptoBulkAll elems + uptoBulkAll spare + 1
  | .agg parts => uptoBulkAll parts + 1
  | .iface _ d => uptoBulk d + 1
  | .map entries => uptoBulkEntries entries + 1
  | .held _ => 1
def uptoBulkAll {H : Type} : List (DataW H) → Nat
  | [] => 0
  | d :: r => uptoBulk d + uptoBulkAll r
def uptoBulkEntries {H : Type} : List (Lit × DataW H) → Nat
  | [] => 0
  | x :: r => uptoBulkEntry x + uptoBulkEntries r
def uptoBulkEntry {H : Type} : Lit × DataW H → Nat
  | (.string bytes, d) => bytes.length + uptoBulk d + 1
  | (_, d) => uptoBulk d + 1
 end
def uptoSmall : (H : Type) → List (DataW H) → Bool := fun _ ds => decide (uptoBulkAll ds ≤ 1048576)
def OpenSpec.upto (s : _root_.Go.ChangeSpec) : _root_.Go.OpenSpec := { _root_.Go.OpenSpec.ofChange s with cond := some uptoSmall }

/-- 'arcadelaw12.ProtoCut', WHERE WHAT IT READS IS OF BULK AT MOST 1048576: true; the input reads as it did. -/
def protoCutUptoRow : OpenClaim := { program := "ytpflenaoplblkaa", sum := "8d91e56c11eb6a3395ec46dd8431158301aa284c6a078df9ab3e1cadc504bba2", func := "arcade/arcadelaw12.ProtoCut", spec := "protoCut", unfollowed := true, recurses := true, apart := false, narrowed := true }
def ProtoCutUptoSaid : Prop := protoCutUptoRow.holds Try.pinned (OpenSpec.upto protoCutSpec)

/-- 'arcadelaw12.ProtoBack', WHERE WHAT IT READS IS OF BULK AT MOST 1048576: true; the input reads as it did. -/
def protoBackUptoRow : OpenClaim := { program := "ytpflenaoplblkaa", sum := "8d91e56c11eb6a3395ec46dd8431158301aa284c6a078df9ab3e1cadc504bba2", func := "arcade/arcadelaw12.ProtoBack", spec := "protoBack", unfollowed := true, recurses := true, apart := false, narrowed := true }
def ProtoBackUptoSaid : Prop := protoBackUptoRow.holds Try.pinned (OpenSpec.upto protoBackSpec)

/-- 'arcadelaw12.ProtoSame', WHERE WHAT IT READS IS OF BULK AT MOST 1048576: true; the input reads as it did. -/
def protoSameUptoRow : OpenClaim := { program := "ytpflenaoplblkaa", sum := "8d91e56c11eb6a3395ec46dd8431158301aa284c6a078df9ab3e1cadc504bba2", func := "arcade/arcadelaw12.ProtoSame", spec := "protoSame", unfollowed := true, recurses := true, apart := false, narrowed := true }
def ProtoSameUptoSaid : Prop := protoSameUptoRow.holds Try.pinned (OpenSpec.upto protoSameSpec)

/-- 'arcadelaw12.ProtoReplies', WHERE WHAT IT READS IS OF BULK AT MOST 1048576: true; the input reads as it did. -/
def protoRepliesUptoRow : OpenClaim := { program := "ytpflenaoplblkaa", sum := "8d91e56c11eb6a3395ec46dd8431158301aa284c6a078df9ab3e1cadc504bba2", func := "arcade/arcadelaw12.ProtoReplies", spec := "protoReplies", unfollowed := true, recurses := true, apart := false, narrowed := true }
def ProtoRepliesUptoSaid : Prop := protoRepliesUptoRow.holds Try.pinned (OpenSpec.upto protoRepliesSpec)

/-- 'arcadelaw12.ProtoAll', WHERE WHAT IT READS IS OF BULK AT MOST 1048576: true; the input reads as it did. -/
def protoAllUptoRow : OpenClaim := { program := "ytpflenaoplblkaa", sum := "8d91e56c11eb6a3395ec46dd8431158301aa284c6a078df9ab3e1cadc504bba2", func := "arcade/arcadelaw12.ProtoAll", spec := "protoAll", unfollowed := true, recurses := true, apart := false, narrowed := true }
def ProtoAllUptoSaid : Prop := protoAllUptoRow.holds Try.pinned (OpenSpec.upto protoAllSpec)

end Rows
end Go.Proofs.Ytpflenaoplblkaa
