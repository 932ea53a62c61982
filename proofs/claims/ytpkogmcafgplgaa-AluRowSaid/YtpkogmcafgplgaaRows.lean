/-
  No cell of these rows narrows 'for every input' (looked for: loops, veiled, ifaces, maps, wideKeys, modest, calm, conditions, laid).
  DERIVED. THE GIVEN ROWS OF THIS SEAT. 7 by the template 'for every input the law returns true; each argument reads behind the call as it read before'; 0 by the template 'total and deterministic' (their statements: YtpkogmcafgplgaaTotals.lean).
  GIVEN WITH THE SEED: the statements are not yours to turn. If you find one false, say at which input.
  Laid BY PROGRAM, IN A SANDBOX (cutbox-rows.mjs): the forced cells as the released guide's own fill.sh prints them over the translation a04bd50a4f556c17… (all of the seat's roots in one cut). By AI agents, Wed Nov 11 2026. No macro, syntax, notation, axiom, sorry.
-/
import Derived.Test.YtpkogmcafgplgaaChecked
import GoSem.Claim
import GoSem.ClaimJoined
import GoSem.ClaimMapViews
import Derived.JoinedTies
import Derived.KernelRfl
namespace Go.Proofs.Ytpkogmcafgplgaa
/- THE CELL 'sum', in the pinned program and in every row, IS THE sha256 OF THE DUMP (.gsa) THAT YtpkogmcafgplgaaProg.lean LOADS. Nothing in Lean hashes anything: it is a label: what it is worth is what the hold of that sum in a sandbox is worth. -/
noncomputable def Try.pinned : Pinned := { name := "ytpkogmcafgplgaa", sum := "a04bd50a4f556c17b09d131c3831a2b37b6e91dfd825b133285c51f68a6635f5", checked := Try.checked }
namespace Rows
def none {H : Type} : Left H := { results := [], args := [] }

/-- 'arcadelaw1.AluRow': WHATEVER THE INPUT: true; the input reads as it did. -/
def aluRowSpec : ChangeSpec := { name := "aluRow", fn := fun _ => fun
  | [d1, d2] => { results := [.lit (.bool true)], args := [d1, d2] }
  | _ => none }
def aluRowRow : OpenClaim := { program := "ytpkogmcafgplgaa", sum := "a04bd50a4f556c17b09d131c3831a2b37b6e91dfd825b133285c51f68a6635f5", func := "arcade/arcadelaw1.AluRow", spec := "aluRow", unfollowed := true, recurses := true, apart := false }
def AluRowSaid : Prop := aluRowRow.holds Try.pinned (OpenSpec.ofChange aluRowSpec)

/-- ITS FALSE NEIGHBOUR: 'it returns false'. Refute it at one input. -/
def aluRowWrong : ChangeSpec := { name := "aluRow", fn := fun _ => fun
  | [d1, d2] => { results := [.lit (.bool false)], args := [d1, d2] }
  | _ => none }
def AluRowWrongFalsely : Prop := aluRowRow.holds Try.pinned (OpenSpec.ofChange aluRowWrong)

/-- 'arcadelaw1.AluBack': WHATEVER THE INPUT: true; the input reads as it did. -/
def aluBackSpec : ChangeSpec := { name := "aluBack", fn := fun _ => fun
  | [d1, d2, d3] => { results := [.lit (.bool true)], args := [d1, d2, d3] }
  | _ => none }
def aluBackRow : OpenClaim := { program := "ytpkogmcafgplgaa", sum := "a04bd50a4f556c17b09d131c3831a2b37b6e91dfd825b133285c51f68a6635f5", func := "arcade/arcadelaw1.AluBack", spec := "aluBack", unfollowed := true, recurses := true, apart := false }
def AluBackSaid : Prop := aluBackRow.holds Try.pinned (OpenSpec.ofChange aluBackSpec)

/-- ITS FALSE NEIGHBOUR: 'it returns false'. Refute it at one input. -/
def aluBackWrong : ChangeSpec := { name := "aluBack", fn := fun _ => fun
  | [d1, d2, d3] => { results := [.lit (.bool false)], args := [d1, d2, d3] }
  | _ => none }
def AluBackWrongFalsely : Prop := aluBackRow.holds Try.pinned (OpenSpec.ofChange aluBackWrong)

/-- 'arcadelaw1.AluWords': WHATEVER THE INPUT: true; the input reads as it did. -/
def aluWordsSpec : ChangeSpec := { name := "aluWords", fn := fun _ => fun
  | [d1, d2, d3] => { results := [.lit (.bool true)], args := [d1, d2, d3] }
  | _ => none }
def aluWordsRow : OpenClaim := { program := "ytpkogmcafgplgaa", sum := "a04bd50a4f556c17b09d131c3831a2b37b6e91dfd825b133285c51f68a6635f5", func := "arcade/arcadelaw1.AluWords", spec := "aluWords", unfollowed := true, recurses := true, apart := false }
def AluWordsSaid : Prop := aluWordsRow.holds Try.pinned (OpenSpec.ofChange aluWordsSpec)

/-- ITS FALSE NEIGHBOUR: 'it returns false'. Refute it at one input. -/
def aluWordsWrong : ChangeSpec := { name := "aluWords", fn := fun _ => fun
  | [d1, d2, d3] => { results := [.lit (.bool false)], args := [d1, d2, d3] }
  | _ => none }
def AluWordsWrongFalsely : Prop := aluWordsRow.holds Try.pinned (OpenSpec.ofChange aluWordsWrong)

/-- 'arcadelaw1.AluOffset': WHATEVER THE INPUT: true; the input reads as it did. -/
def aluOffsetSpec : ChangeSpec := { name := "aluOffset", fn := fun _ => fun
  | [d1, d2] => { results := [.lit (.bool true)], args := [d1, d2] }
  | _ => none }
def aluOffsetRow : OpenClaim := { program := "ytpkogmcafgplgaa", sum := "a04bd50a4f556c17b09d131c3831a2b37b6e91dfd825b133285c51f68a6635f5", func := "arcade/arcadelaw1.AluOffset", spec := "aluOffset", unfollowed := true, recurses := true, apart := false }
def AluOffsetSaid : Prop := aluOffsetRow.holds Try.pinned (OpenSpec.ofChange aluOffsetSpec)

/-- ITS FALSE NEIGHBOUR: 'it returns false'. Refute it at one input. -/
def aluOffsetWrong : ChangeSpec := { name := "aluOffset", fn := fun _ => fun
  | [d1, d2] => { results := [.lit (.bool false)], args := [d1, d2] }
  | _ => none }
def AluOffsetWrongFalsely : Prop := aluOffsetRow.holds Try.pinned (OpenSpec.ofChange aluOffsetWrong)

/-- 'arcadelaw1.AluSteps': WHATEVER THE INPUT: true; the input reads as it did. -/
def aluStepsSpec : ChangeSpec := { name := "aluSteps", fn := fun _ => fun
  | [d1, d2] => { results := [.lit (.bool true)], args := [d1, d2] }
  | _ => none }
def aluStepsRow : OpenClaim := { program := "ytpkogmcafgplgaa", sum := "a04bd50a4f556c17b09d131c3831a2b37b6e91dfd825b133285c51f68a6635f5", func := "arcade/arcadelaw1.AluSteps", spec := "aluSteps", unfollowed := true, recurses := true, apart := false }
def AluStepsSaid : Prop := aluStepsRow.holds Try.pinned (OpenSpec.ofChange aluStepsSpec)

/-- ITS FALSE NEIGHBOUR: 'it returns false'. Refute it at one input. -/
def aluStepsWrong : ChangeSpec := { name := "aluSteps", fn := fun _ => fun
  | [d1, d2] => { results := [.lit (.bool false)], args := [d1, d2] }
  | _ => none }
def AluStepsWrongFalsely : Prop := aluStepsRow.holds Try.pinned (OpenSpec.ofChange aluStepsWrong)

/-- 'arcadelaw1.AluDecimal': WHATEVER THE INPUT: true; the input reads as it did. -/
def aluDecimalSpec : ChangeSpec := { name := "aluDecimal", fn := fun _ => fun
  | [d1, d2, d3] => { results := [.lit (.bool true)], args := [d1, d2, d3] }
  | _ => none }
def aluDecimalRow : OpenClaim := { program := "ytpkogmcafgplgaa", sum := "a04bd50a4f556c17b09d131c3831a2b37b6e91dfd825b133285c51f68a6635f5", func := "arcade/arcadelaw1.AluDecimal", spec := "aluDecimal", unfollowed := true, recurses := true, apart := false }
def AluDecimalSaid : Prop := aluDecimalRow.holds Try.pinned (OpenSpec.ofChange aluDecimalSpec)

/-- ITS FALSE NEIGHBOUR: 'it returns false'. Refute it at one input. -/
def aluDecimalWrong : ChangeSpec := { name := "aluDecimal", fn := fun _ => fun
  | [d1, d2, d3] => { results := [.lit (.bool false)], args := [d1, d2, d3] }
  | _ => none }
def AluDecimalWrongFalsely : Prop := aluDecimalRow.holds Try.pinned (OpenSpec.ofChange aluDecimalWrong)

/-- 'arcadelaw1.AluRound': WHATEVER THE INPUT: true; the input reads as it did. -/
def aluRoundSpec : ChangeSpec := { name := "aluRound", fn := fun _ => fun
  | [d1, d2] => { results := [.lit (.bool true)], args := [d1, d2] }
  | _ => none }
def aluRoundRow : OpenClaim := { program := "ytpkogmcafgplgaa", sum := "a04bd50a4f556c17b09d131c3831a2b37b6e91dfd825b133285c51f68a6635f5", func := "arcade/arcadelaw1.AluRound", spec := "aluRound", unfollowed := true, recurses := true, apart := false }
def AluRoundSaid : Prop := aluRoundRow.holds Try.pinned (OpenSpec.ofChange aluRoundSpec)

/-- ITS FALSE NEIGHBOUR: 'it returns false'. Refute it at one input. -/
def aluRoundWrong : ChangeSpec := { name := "aluRound", fn := fun _ => fun
  | [d1, d2] => { results := [.lit (.bool false)], args := [d1, d2] }
  | _ => none }
def AluRoundWrongFalsely : Prop := aluRoundRow.holds Try.pinned (OpenSpec.ofChange aluRoundWrong)

/- THE SECOND FORM. 'bulk': how many values and letters a reading holds, each counted each time it is reached (what is shared counts as often as it is met; a slice's spare places count too). A statement '..UptoSaid' is the law's where the arguments, and the package variables that the reading takes, are together of bulk at most 1048576: NARROWER than '..Said'. Prove '..Said' where nothing that the law and all that it calls make is longer than what came in: it says more and counts as full. Else prove '..UptoSaid'. A law counts once. -/
mutual
def uptoBulk {H : Type} : DataW H → Nat
  | .lit (.string bytes) => bytes.length + 1
  | .lit _ => 1
  | .nil => 1
  | .ptr d => uptoBulk d + 1
  | .slice elems spare => uptoBulkAll elems + uptoBulkAll spare + 1
  | .agg parts => uptoBulkAll parts + 1
  | .iface _ d => uptoBulk d + 1
  | .map entries => uptoBulkEntries entries + 1
  | .held _ => 1
def uptoBulkAll {H : Type} : List (DataW H) → Nat
  | [] => 0
  | d :: r => uptoBulk d + uptoBulkAll r
def uptoBulkEntries {H : Type} : List (Lit × DataW H) → Nat
  | [] => 0
  | x :: r => uptoBulkEntry x + uptoBulkEntries r
def uptoBulkEntry {H : Type} : Lit × DataW H → Nat
  | (.string bytes, d) => bytes.length + uptoBulk d + 1
  | (_, d) => uptoBulk d + 1
 end
def uptoSmall : (H : Type) → List (DataW H) → Bool := fun _ ds => decide (uptoBulkAll ds ≤ 1048576)
def OpenSpec.upto (s : _root_.Go.ChangeSpec) : _root_.Go.OpenSpec := { _root_.Go.OpenSpec.ofChange s with cond := some uptoSmall }

/-- 'arcadelaw1.AluRow', WHERE WHAT IT READS IS OF BULK AT MOST 1048576: true; the input reads as it did. -/
def aluRowUptoRow : OpenClaim := { program := "ytpkogmcafgplgaa", sum := "a04bd50a4f556c17b09d131c3831a2b37b6e91dfd825b133285c51f68a6635f5", func := "arcade/arcadelaw1.AluRow", spec := "aluRow", unfollowed := true, recurses := true, apart := false, narrowed := true }
def AluRowUptoSaid : Prop := aluRowUptoRow.holds Try.pinned (OpenSpec.upto aluRowSpec)

/-- 'arcadelaw1.AluBack', WHERE WHAT IT READS IS OF BULK AT MOST 1048576: true; the input reads as it did. -/
def aluBackUptoRow : OpenClaim := { program := "ytpkogmcafgplgaa", sum := "a04bd50a4f556c17b09d131c3831a2b37b6e91dfd825b133285c51f68a6635f5", func := "arcade/arcadelaw1.AluBack", spec := "aluBack", unfollowed := true, recurses := true, apart := false, narrowed := true }
def AluBackUptoSaid : Prop := aluBackUptoRow.holds Try.pinned (OpenSpec.upto aluBackSpec)

/-- 'arcadelaw1.AluWords', WHERE WHAT IT READS IS OF BULK AT MOST 1048576: true; the input reads as it did. -/
def aluWordsUptoRow : OpenClaim := { program := "ytpkogmcafgplgaa", sum := "a04bd50a4f556c17b09d131c3831a2b37b6e91dfd825b133285c51f68a6635f5", func := "arcade/arcadelaw1.AluWords", spec := "aluWords", unfollowed := true, recurses := true, apart := false, narrowed := true }
def AluWordsUptoSaid : Prop := aluWordsUptoRow.holds Try.pinned (OpenSpec.upto aluWordsSpec)

/-- 'arcadelaw1.AluOffset', WHERE WHAT IT READS IS OF BULK AT MOST 1048576: true; the input reads as it did. -/
def aluOffsetUptoRow : OpenClaim := { program := "ytpkogmcafgplgaa", sum := "a04bd50a4f556c17b09d131c3831a2b37b6e91dfd825b133285c51f68a6635f5", func := "arcade/arcadelaw1.AluOffset", spec := "aluOffset", unfollowed := true, recurses := true, apart := false, narrowed := true }
def AluOffsetUptoSaid : Prop := aluOffsetUptoRow.holds Try.pinned (OpenSpec.upto aluOffsetSpec)

/-- 'arcadelaw1.AluSteps', WHERE WHAT IT READS IS OF BULK AT MOST 1048576: true; the input reads as it did. -/
def aluStepsUptoRow : OpenClaim := { program := "ytpkogmcafgplgaa", sum := "a04bd50a4f556c17b09d131c3831a2b37b6e91dfd825b133285c51f68a6635f5", func := "arcade/arcadelaw1.AluSteps", spec := "aluSteps", unfollowed := true, recurses := true, apart := false, narrowed := true }
def AluStepsUptoSaid : Prop := aluStepsUptoRow.holds Try.pinned (OpenSpec.upto aluStepsSpec)

/-- 'arcadelaw1.AluDecimal', WHERE WHAT IT READS IS OF BULK AT MOST 1048576: true; the input reads as it did. -/
def aluDecimalUptoRow : OpenClaim := { program := "ytpkogmcafgplgaa", sum := "a04bd50a4f556c17b09d131c3831a2b37b6e91dfd825b133285c51f68a6635f5", func := "arcade/arcadelaw1.AluDecimal", spec := "aluDecimal", unfollowed := true, recurses := true, apart := false, narrowed := true }
def AluDecimalUptoSaid : Prop := aluDecimalUptoRow.holds Try.pinned (OpenSpec.upto aluDecimalSpec)

/-- 'arcadelaw1.AluRound', WHERE WHAT IT READS IS OF BULK AT MOST 1048576: true; the input reads as it did. -/
def aluRoundUptoRow : OpenClaim := { program := "ytpkogmcafgplgaa", sum := "a04bd50a4f556c17b09d131c3831a2b37b6e91dfd825b133285c51f68a6635f5", func := "arcade/arcadelaw1.AluRound", spec := "aluRound", unfollowed := true, recurses := true, apart := false, narrowed := true }
def AluRoundUptoSaid : Prop := aluRoundUptoRow.holds Try.pinned (OpenSpec.upto aluRoundSpec)

end Rows
end Go.Proofs.Ytpkogmcafgplgaa
