/-
  DERIVED. GIVEN WITH THE SEED: THE CARDS: each row of YtmofiicjaldmiaaGreatDoorRows.lean that lists a variable, with what it lists TIED to the program's text (the seventh form; the later family's looks); each row that meets fmt, with fmt's text TOLD by the authors' own Lean function (tested against real Go, not proved from fmt's source: count such statements apart). THE CARD IS WHAT COUNTS. Prove the row's statement (the work); the ties are given (YtmofiicjaldmiaaGreatDoorTie.lean); close each card by the builder's one call (the guide's Derived/Test/ToyasCard.lean, 'card_holds'). Laid BY PROGRAM, IN A SANDBOX (cutbox-door.mjs). By AI agents, Wed Nov 11 2026. No macro, syntax, notation, axiom, sorry.
-/
import Derived.Test.YtmofiicjaldmiaaGreatDoorRows
import GoSem.ClaimSeven
namespace Go.Proofs.YtmofiicjaldmiaaGreatDoor
namespace Rows

/-- THE TIED CARD OF 'arcadelaw11.SavesApart'. -/
def savesApartCard : Claim7 := { stood := { row := savesApartRow, standIns := [], harness := (true, "65c2e092c68827071e86477a9a82d7c3ac0e2199bc4de56fa6c6e52eb066ad32"), looks := true }, kinds := [], alts := [], laidByText := true, laidKinds := [.handle, .sentinel], laidTests := true, laidLooks := .later }
def SavesApartCardSaid : Prop := Claim7.holds Tryz.pinned (.plain (OpenSpec.ofChange savesApartSpec)) savesApartCard

/-- THE TIED CARD OF 'arcadelaw11.SavesAgain'. -/
def savesAgainCard : Claim7 := { stood := { row := savesAgainRow, standIns := [], harness := (true, "65c2e092c68827071e86477a9a82d7c3ac0e2199bc4de56fa6c6e52eb066ad32"), looks := true }, kinds := [], alts := [], laidByText := true, laidKinds := [.handle, .sentinel], laidTests := true, laidLooks := .later }
def SavesAgainCardSaid : Prop := Claim7.holds Tryz.pinned (.plain (OpenSpec.ofChange savesAgainSpec)) savesAgainCard

/-- THE TIED CARD OF 'arcadelaw11.SavesRoom'. -/
def savesRoomCard : Claim7 := { stood := { row := savesRoomRow, standIns := [], harness := (true, "65c2e092c68827071e86477a9a82d7c3ac0e2199bc4de56fa6c6e52eb066ad32"), looks := true }, kinds := [], alts := [], laidByText := true, laidKinds := [.handle, .sentinel], laidTests := true, laidLooks := .later }
def SavesRoomCardSaid : Prop := Claim7.holds Tryz.pinned (.plain (OpenSpec.ofChange savesRoomSpec)) savesRoomCard

/-- THE TIED CARD OF 'arcadelaw11.SavesCounted'. -/
def savesCountedCard : Claim7 := { stood := { row := savesCountedRow, standIns := [], harness := (true, "65c2e092c68827071e86477a9a82d7c3ac0e2199bc4de56fa6c6e52eb066ad32"), looks := true }, kinds := [], alts := [], laidByText := true, laidKinds := [.handle, .sentinel], laidTests := true, laidLooks := .later }
def SavesCountedCardSaid : Prop := Claim7.holds Tryz.pinned (.plain (OpenSpec.ofChange savesCountedSpec)) savesCountedCard

/-- THE TIED CARD OF 'arcadelaw11.SavesQuiet'. -/
def savesQuietCard : Claim7 := { stood := { row := savesQuietRow, standIns := [], harness := (true, "65c2e092c68827071e86477a9a82d7c3ac0e2199bc4de56fa6c6e52eb066ad32"), looks := true }, kinds := [], alts := [], laidByText := true, laidKinds := [.handle, .sentinel], laidTests := true, laidLooks := .later }
def SavesQuietCardSaid : Prop := Claim7.holds Tryz.pinned (.plain (OpenSpec.ofChange savesQuietSpec)) savesQuietCard

/-- THE TIED CARD OF 'arcadelaw11.SavesStrewn'. -/
def savesStrewnCard : Claim7 := { stood := { row := savesStrewnRow, standIns := [], harness := (true, "65c2e092c68827071e86477a9a82d7c3ac0e2199bc4de56fa6c6e52eb066ad32"), looks := true }, kinds := [], alts := [], laidByText := true, laidKinds := [.handle, .sentinel], laidTests := true, laidLooks := .later }
def SavesStrewnCardSaid : Prop := Claim7.holds Tryz.pinned (.plain (OpenSpec.ofChange savesStrewnSpec)) savesStrewnCard

/-- THE TIED CARD OF 'arcadelaw11.SavesKept'. -/
def savesKeptCard : Claim7 := { stood := { row := savesKeptRow, standIns := [], harness := (true, "65c2e092c68827071e86477a9a82d7c3ac0e2199bc4de56fa6c6e52eb066ad32"), looks := true }, kinds := [], alts := [], laidByText := true, laidKinds := [.handle, .sentinel], laidTests := true, laidLooks := .later }
def SavesKeptCardSaid : Prop := Claim7.holds Tryz.pinned (.plain (OpenSpec.ofChange savesKeptSpec)) savesKeptCard

/-- THE TIED CARD OF 'arcadelaw11.SavesCrash'. -/
def savesCrashCard : Claim7 := { stood := { row := savesCrashRow, standIns := [], harness := (true, "65c2e092c68827071e86477a9a82d7c3ac0e2199bc4de56fa6c6e52eb066ad32"), looks := true }, kinds := [], alts := [], laidByText := true, laidKinds := [.handle, .sentinel], laidTests := true, laidLooks := .later }
def SavesCrashCardSaid : Prop := Claim7.holds Tryz.pinned (.plain (OpenSpec.ofChange savesCrashSpec)) savesCrashCard

/-- THE TIED CARD OF 'arcadelaw11.SavesRuns'. -/
def savesRunsCard : Claim7 := { stood := { row := savesRunsRow, standIns := [], harness := (true, "65c2e092c68827071e86477a9a82d7c3ac0e2199bc4de56fa6c6e52eb066ad32"), looks := true }, kinds := [], alts := [], laidByText := true, laidKinds := [.handle, .sentinel], laidTests := true, laidLooks := .later }
def SavesRunsCardSaid : Prop := Claim7.holds Tryz.pinned (.plain (OpenSpec.ofChange savesRunsSpec)) savesRunsCard

/-- THE TIED CARD OF 'arcadelaw11.SavesAll'. -/
def savesAllCard : Claim7 := { stood := { row := savesAllRow, standIns := [], harness := (true, "65c2e092c68827071e86477a9a82d7c3ac0e2199bc4de56fa6c6e52eb066ad32"), looks := true }, kinds := [], alts := [], laidByText := true, laidKinds := [.handle, .sentinel], laidTests := true, laidLooks := .later }
def SavesAllCardSaid : Prop := Claim7.holds Tryz.pinned (.plain (OpenSpec.ofChange savesAllSpec)) savesAllCard

/-- THE TIED CARD OF 'arcadelaw11.SavesOpens'. -/
def savesOpensCard : Claim7 := { stood := { row := savesOpensRow, standIns := [], harness := (true, "65c2e092c68827071e86477a9a82d7c3ac0e2199bc4de56fa6c6e52eb066ad32"), looks := true }, kinds := [], alts := [], laidByText := true, laidKinds := [.handle, .sentinel], laidTests := true, laidLooks := .later }
def SavesOpensCardSaid : Prop := Claim7.holds Tryz.pinned (.plain (OpenSpec.ofChange savesOpensSpec)) savesOpensCard

/-- THE SECOND FORM's CARD OF 'arcadelaw11.SavesApart'. -/
def savesApartUptoCard : Claim7 := { stood := { row := savesApartUptoRow, standIns := [], harness := (true, "65c2e092c68827071e86477a9a82d7c3ac0e2199bc4de56fa6c6e52eb066ad32"), looks := true }, kinds := [], alts := [], laidByText := true, laidKinds := [.handle, .sentinel], laidTests := true, laidLooks := .later }
def SavesApartUptoCardSaid : Prop := Claim7.holds Tryz.pinned (.plain (OpenSpec.upto savesApartSpec)) savesApartUptoCard

/-- THE SECOND FORM's CARD OF 'arcadelaw11.SavesAgain'. -/
def savesAgainUptoCard : Claim7 := { stood := { row := savesAgainUptoRow, standIns := [], harness := (true, "65c2e092c68827071e86477a9a82d7c3ac0e2199bc4de56fa6c6e52eb066ad32"), looks := true }, kinds := [], alts := [], laidByText := true, laidKinds := [.handle, .sentinel], laidTests := true, laidLooks := .later }
def SavesAgainUptoCardSaid : Prop := Claim7.holds Tryz.pinned (.plain (OpenSpec.upto savesAgainSpec)) savesAgainUptoCard

/-- THE SECOND FORM's CARD OF 'arcadelaw11.SavesRoom'. -/
def savesRoomUptoCard : Claim7 := { stood := { row := savesRoomUptoRow, standIns := [], harness := (true, "65c2e092c68827071e86477a9a82d7c3ac0e2199bc4de56fa6c6e52eb066ad32"), looks := true }, kinds := [], alts := [], laidByText := true, laidKinds := [.handle, .sentinel], laidTests := true, laidLooks := .later }
def SavesRoomUptoCardSaid : Prop := Claim7.holds Tryz.pinned (.plain (OpenSpec.upto savesRoomSpec)) savesRoomUptoCard

/-- THE SECOND FORM's CARD OF 'arcadelaw11.SavesCounted'. -/
def savesCountedUptoCard : Claim7 := { stood := { row := savesCountedUptoRow, standIns := [], harness := (true, "65c2e092c68827071e86477a9a82d7c3ac0e2199bc4de56fa6c6e52eb066ad32"), looks := true }, kinds := [], alts := [], laidByText := true, laidKinds := [.handle, .sentinel], laidTests := true, laidLooks := .later }
def SavesCountedUptoCardSaid : Prop := Claim7.holds Tryz.pinned (.plain (OpenSpec.upto savesCountedSpec)) savesCountedUptoCard

/-- THE SECOND FORM's CARD OF 'arcadelaw11.SavesQuiet'. -/
def savesQuietUptoCard : Claim7 := { stood := { row := savesQuietUptoRow, standIns := [], harness := (true, "65c2e092c68827071e86477a9a82d7c3ac0e2199bc4de56fa6c6e52eb066ad32"), looks := true }, kinds := [], alts := [], laidByText := true, laidKinds := [.handle, .sentinel], laidTests := true, laidLooks := .later }
def SavesQuietUptoCardSaid : Prop := Claim7.holds Tryz.pinned (.plain (OpenSpec.upto savesQuietSpec)) savesQuietUptoCard

/-- THE SECOND FORM's CARD OF 'arcadelaw11.SavesStrewn'. -/
def savesStrewnUptoCard : Claim7 := { stood := { row := savesStrewnUptoRow, standIns := [], harness := (true, "65c2e092c68827071e86477a9a82d7c3ac0e2199bc4de56fa6c6e52eb066ad32"), looks := true }, kinds := [], alts := [], laidByText := true, laidKinds := [.handle, .sentinel], laidTests := true, laidLooks := .later }
def SavesStrewnUptoCardSaid : Prop := Claim7.holds Tryz.pinned (.plain (OpenSpec.upto savesStrewnSpec)) savesStrewnUptoCard

/-- THE SECOND FORM's CARD OF 'arcadelaw11.SavesKept'. -/
def savesKeptUptoCard : Claim7 := { stood := { row := savesKeptUptoRow, standIns := [], harness := (true, "65c2e092c68827071e86477a9a82d7c3ac0e2199bc4de56fa6c6e52eb066ad32"), looks := true }, kinds := [], alts := [], laidByText := true, laidKinds := [.handle, .sentinel], laidTests := true, laidLooks := .later }
def SavesKeptUptoCardSaid : Prop := Claim7.holds Tryz.pinned (.plain (OpenSpec.upto savesKeptSpec)) savesKeptUptoCard

/-- THE SECOND FORM's CARD OF 'arcadelaw11.SavesCrash'. -/
def savesCrashUptoCard : Claim7 := { stood := { row := savesCrashUptoRow, standIns := [], harness := (true, "65c2e092c68827071e86477a9a82d7c3ac0e2199bc4de56fa6c6e52eb066ad32"), looks := true }, kinds := [], alts := [], laidByText := true, laidKinds := [.handle, .sentinel], laidTests := true, laidLooks := .later }
def SavesCrashUptoCardSaid : Prop := Claim7.holds Tryz.pinned (.plain (OpenSpec.upto savesCrashSpec)) savesCrashUptoCard

/-- THE SECOND FORM's CARD OF 'arcadelaw11.SavesRuns'. -/
def savesRunsUptoCard : Claim7 := { stood := { row := savesRunsUptoRow, standIns := [], harness := (true, "65c2e092c68827071e86477a9a82d7c3ac0e2199bc4de56fa6c6e52eb066ad32"), looks := true }, kinds := [], alts := [], laidByText := true, laidKinds := [.handle, .sentinel], laidTests := true, laidLooks := .later }
def SavesRunsUptoCardSaid : Prop := Claim7.holds Tryz.pinned (.plain (OpenSpec.upto savesRunsSpec)) savesRunsUptoCard

/-- THE SECOND FORM's CARD OF 'arcadelaw11.SavesAll'. -/
def savesAllUptoCard : Claim7 := { stood := { row := savesAllUptoRow, standIns := [], harness := (true, "65c2e092c68827071e86477a9a82d7c3ac0e2199bc4de56fa6c6e52eb066ad32"), looks := true }, kinds := [], alts := [], laidByText := true, laidKinds := [.handle, .sentinel], laidTests := true, laidLooks := .later }
def SavesAllUptoCardSaid : Prop := Claim7.holds Tryz.pinned (.plain (OpenSpec.upto savesAllSpec)) savesAllUptoCard

/-- THE SECOND FORM's CARD OF 'arcadelaw11.SavesOpens'. -/
def savesOpensUptoCard : Claim7 := { stood := { row := savesOpensUptoRow, standIns := [], harness := (true, "65c2e092c68827071e86477a9a82d7c3ac0e2199bc4de56fa6c6e52eb066ad32"), looks := true }, kinds := [], alts := [], laidByText := true, laidKinds := [.handle, .sentinel], laidTests := true, laidLooks := .later }
def SavesOpensUptoCardSaid : Prop := Claim7.holds Tryz.pinned (.plain (OpenSpec.upto savesOpensSpec)) savesOpensUptoCard
end Rows
end Go.Proofs.YtmofiicjaldmiaaGreatDoor
