/-
  NARROWER THAN 'FOR EVERY INPUT', by the rows' own cells (each row's printed sentence says how): AluBits: laid · AluExact: laid.
  DERIVED. THE GIVEN ROWS OF THIS SEAT. 2 by the template 'for every input the law returns true; each argument reads behind the call as it read before'; 0 by the template 'total and deterministic' (their statements: YtpkogmcafgplgaaDoorTotals.lean).
  GIVEN WITH THE SEED: the statements are not yours to turn. If you find one false, say at which input.
  Laid BY PROGRAM, IN A SANDBOX (cutbox-rows.mjs): the forced cells as the released guide's own fill.sh prints them over the translation 4692120d154cd70f… (all of the seat's roots in one cut). By AI agents, Wed Nov 11 2026. No macro, syntax, notation, axiom, sorry.
-/
import Derived.Test.YtpkogmcafgplgaaDoorChecked
import GoSem.Claim
import GoSem.ClaimJoined
import GoSem.ClaimMapViews
import Derived.JoinedTies
import Derived.KernelRfl
namespace Go.Proofs.YtpkogmcafgplgaaDoor
/- THE CELL 'sum', in the pinned program and in every row, IS THE sha256 OF THE DUMP (.gsa) THAT YtpkogmcafgplgaaDoorProg.lean LOADS. Nothing in Lean hashes anything: it is a label: what it is worth is what the hold of that sum in a sandbox is worth. -/
noncomputable def Tryd.pinned : Pinned := { name := "ytpkogmcafgplgaadoor", sum := "4692120d154cd70f8d0bf1072b094f1ad084e4c834ff6913c971c41f0d905b0d", checked := Tryd.checked }
namespace Rows
def none {H : Type} : Left H := { results := [], args := [] }

/- WHAT THE LISTED PACKAGE-LEVEL VARIABLES READ AS WHEN THE CALL BEGINS. Each datum BY PROGRAM (the guide's laid-datum.mjs) off the statement by which the dump's own 'gosem.cut.vars' lays the variable. In a bare row this is a premise. The card (YtpkogmcafgplgaaDoorCards.lean) ties it to the program's text. -/
def laid_arcade_alu_masks {H : Type} : DataW H := .agg [.lit (.int .u8 1), .lit (.int .u8 2), .lit (.int .u8 4), .lit (.int .u8 8), .lit (.int .u8 16), .lit (.int .u8 32), .lit (.int .u8 64), .lit (.int .u8 128)]

/-- 'arcadelaw1.AluBits': WHATEVER THE INPUT: true; the input reads as it did. -/
def aluBitsSpec : ChangeSpec := { name := "aluBits", fn := fun _ => fun
  | [d1, d2, d3] => { results := [.lit (.bool true)], args := [d1, d2, d3] }
  | _ => none }
def aluBitsRow : OpenClaim := { program := "ytpkogmcafgplgaadoor", sum := "4692120d154cd70f8d0bf1072b094f1ad084e4c834ff6913c971c41f0d905b0d", func := "arcade/arcadelaw1.AluBits", spec := "aluBits", named := ["arcade/alu.masks"], apart := false, laid := [("arcade/alu.masks", laid_arcade_alu_masks)] }
def AluBitsSaid : Prop := aluBitsRow.holds Tryd.pinned (OpenSpec.ofChange aluBitsSpec)

/-- ITS FALSE NEIGHBOUR: 'it returns false'. Refute it at one input. -/
def aluBitsWrong : ChangeSpec := { name := "aluBits", fn := fun _ => fun
  | [d1, d2, d3] => { results := [.lit (.bool false)], args := [d1, d2, d3] }
  | _ => none }
def AluBitsWrongFalsely : Prop := aluBitsRow.holds Tryd.pinned (OpenSpec.ofChange aluBitsWrong)

/-- 'arcadelaw1.AluExact': WHATEVER THE INPUT: true; the input reads as it did. -/
def aluExactSpec : ChangeSpec := { name := "aluExact", fn := fun _ => fun
  | [d] => { results := [.lit (.bool true)], args := [d] }
  | _ => none }
def aluExactRow : OpenClaim := { program := "ytpkogmcafgplgaadoor", sum := "4692120d154cd70f8d0bf1072b094f1ad084e4c834ff6913c971c41f0d905b0d", func := "arcade/arcadelaw1.AluExact", spec := "aluExact", unfollowed := true, recurses := true, named := ["arcade/alu.masks"], apart := false, laid := [("arcade/alu.masks", laid_arcade_alu_masks)] }
def AluExactSaid : Prop := aluExactRow.holds Tryd.pinned (OpenSpec.ofChange aluExactSpec)

/-- ITS FALSE NEIGHBOUR: 'it returns false'. Refute it at one input. -/
def aluExactWrong : ChangeSpec := { name := "aluExact", fn := fun _ => fun
  | [d] => { results := [.lit (.bool false)], args := [d] }
  | _ => none }
def AluExactWrongFalsely : Prop := aluExactRow.holds Tryd.pinned (OpenSpec.ofChange aluExactWrong)

/- THE SECOND FORM. 'bulk': how many values and letters a reading holds, each counted each time it is reached (what is shared counts as often as it is met; a slice's spare places count too). A statement '..UptoSaid' is the law's where the arguments, and the package variables that the reading takes, are together of bulk at most 1048576: NARROWER than '..Said'. Prove '..Said' where nothing that the law and all that it calls make is longer than what came in: it says more and counts as full. Else prove '..UptoSaid'. A law counts once. -/
mutual
def uptoBulk {H : Type} : DataW H → Nat
  | .lit (.string bytes) => bytes.length + 1
  | .lit _ => 1
  | .nil => 1
  | .ptr d => uptoBulk d + 1
  | .slice elems spare => uptoBulkAll elems + uptoBulkAll spare + 1
  | .agg parts => uptoBulkAll parts + 1
  | .iface _ d => uptoBulk d + 1
  | .map entries => uptoBulkEntries entries + 1
  | .held _ => 1
def uptoBulkAll {H : Type} : List (DataW H) → Nat
  | [] => 0
  | d :: r => uptoBulk d + uptoBulkAll r
def uptoBulkEntries {H : Type} : List (Lit × DataW H) → Nat
  | [] => 0
  | x :: r => uptoBulkEntry x + uptoBulkEntries r
def uptoBulkEntry {H : Type} : Lit × DataW H → Nat
  | (.string bytes, d) => bytes.length + uptoBulk d + 1
  | (_, d) => uptoBulk d + 1
 end
def uptoSmall : (H : Type) → List (DataW H) → Bool := fun _ ds => decide (uptoBulkAll ds ≤ 1048576)
def OpenSpec.upto (s : _root_.Go.ChangeSpec) : _root_.Go.OpenSpec := { _root_.Go.OpenSpec.ofChange s with cond := some uptoSmall }

/-- 'arcadelaw1.AluBits', WHERE WHAT IT READS IS OF BULK AT MOST 1048576: true; the input reads as it did. -/
def aluBitsUptoRow : OpenClaim := { program := "ytpkogmcafgplgaadoor", sum := "4692120d154cd70f8d0bf1072b094f1ad084e4c834ff6913c971c41f0d905b0d", func := "arcade/arcadelaw1.AluBits", spec := "aluBits", named := ["arcade/alu.masks"], apart := false, laid := [("arcade/alu.masks", laid_arcade_alu_masks)], narrowed := true }
def AluBitsUptoSaid : Prop := aluBitsUptoRow.holds Tryd.pinned (OpenSpec.upto aluBitsSpec)

/-- 'arcadelaw1.AluExact', WHERE WHAT IT READS IS OF BULK AT MOST 1048576: true; the input reads as it did. -/
def aluExactUptoRow : OpenClaim := { program := "ytpkogmcafgplgaadoor", sum := "4692120d154cd70f8d0bf1072b094f1ad084e4c834ff6913c971c41f0d905b0d", func := "arcade/arcadelaw1.AluExact", spec := "aluExact", unfollowed := true, recurses := true, named := ["arcade/alu.masks"], apart := false, laid := [("arcade/alu.masks", laid_arcade_alu_masks)], narrowed := true }
def AluExactUptoSaid : Prop := aluExactUptoRow.holds Tryd.pinned (OpenSpec.upto aluExactSpec)

end Rows
end Go.Proofs.YtpkogmcafgplgaaDoor
