/-
  DERIVED. GIVEN WITH THE SEED: THE CARDS: each row of YtpkogmcafgplgaaDoorRows.lean that lists a variable, with what it lists TIED to the program's text (the seventh form; the later family's looks); each row that meets fmt, with fmt's text TOLD by the authors' own Lean function (tested against real Go, not proved from fmt's source: count such statements apart). THE CARD IS WHAT COUNTS. Prove the row's statement (the work); the ties are given (YtpkogmcafgplgaaDoorTie.lean); close each card by the builder's one call (the guide's Derived/Test/ToyasCard.lean, 'card_holds'). Laid BY PROGRAM, IN A SANDBOX (cutbox-door.mjs). By AI agents, Wed Nov 11 2026. No macro, syntax, notation, axiom, sorry.
-/
import Derived.Test.YtpkogmcafgplgaaDoorRows
import GoSem.ClaimSeven
namespace Go.Proofs.YtpkogmcafgplgaaDoor
namespace Rows

/-- THE TIED CARD OF 'arcadelaw1.AluBits'. -/
def aluBitsCard : Claim7 := { stood := { row := aluBitsRow, standIns := [], harness := (true, "d78badccdea163af251171cf0e7015e9771753cbdcf946f7f41c3b8175065e3b"), looks := false }, kinds := [], alts := [], laidByText := true, laidKinds := [.data], laidTests := true, laidLooks := .later }
def AluBitsCardSaid : Prop := Claim7.holds Tryd.pinned (.plain (OpenSpec.ofChange aluBitsSpec)) aluBitsCard

/-- THE TIED CARD OF 'arcadelaw1.AluExact'. -/
def aluExactCard : Claim7 := { stood := { row := aluExactRow, standIns := [], harness := (true, "d78badccdea163af251171cf0e7015e9771753cbdcf946f7f41c3b8175065e3b"), looks := false }, kinds := [], alts := [], laidByText := true, laidKinds := [.data], laidTests := true, laidLooks := .later }
def AluExactCardSaid : Prop := Claim7.holds Tryd.pinned (.plain (OpenSpec.ofChange aluExactSpec)) aluExactCard

/-- THE SECOND FORM's CARD OF 'arcadelaw1.AluBits'. -/
def aluBitsUptoCard : Claim7 := { stood := { row := aluBitsUptoRow, standIns := [], harness := (true, "d78badccdea163af251171cf0e7015e9771753cbdcf946f7f41c3b8175065e3b"), looks := false }, kinds := [], alts := [], laidByText := true, laidKinds := [.data], laidTests := true, laidLooks := .later }
def AluBitsUptoCardSaid : Prop := Claim7.holds Tryd.pinned (.plain (OpenSpec.upto aluBitsSpec)) aluBitsUptoCard

/-- THE SECOND FORM's CARD OF 'arcadelaw1.AluExact'. -/
def aluExactUptoCard : Claim7 := { stood := { row := aluExactUptoRow, standIns := [], harness := (true, "d78badccdea163af251171cf0e7015e9771753cbdcf946f7f41c3b8175065e3b"), looks := false }, kinds := [], alts := [], laidByText := true, laidKinds := [.data], laidTests := true, laidLooks := .later }
def AluExactUptoCardSaid : Prop := Claim7.holds Tryd.pinned (.plain (OpenSpec.upto aluExactSpec)) aluExactUptoCard
end Rows
end Go.Proofs.YtpkogmcafgplgaaDoor
