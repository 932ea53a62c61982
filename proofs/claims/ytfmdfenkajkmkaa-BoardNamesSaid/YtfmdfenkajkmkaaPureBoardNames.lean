/-
  Proved: the Go function BoardNames, which holds the layer's constants against their numbers, returns true. No condition.
-/
import Derived.Test.YtfmdfenkajkmkaaPBoardNamesx1
namespace Go.Proofs.Ytfmdfenkajkmkaa.Pure
open Go.RowKit Go.Proofs.Ytfmdfenkajkmkaa.PBoardNames Go.Proofs.YtfmdfenkajkmkaaW.PrintWords Go.Proofs.YtfmdfenkajkmkaaW.PrintLast

/-- YOURS: ∃ k, arcadelaw7_BoardNames.f k  = some true
What it reaches (each with k first where it has rounds; `.mono`: more rounds tell the same; `.l0`, ..: its loops, with `.mono_l`): arcadelaw7_num.f, arcadelaw7_BoardNames.f -/
theorem BoardNames : arcadelaw7_BoardNames.Pure := by
  exact ⟨40, by decide +kernel⟩

end Go.Proofs.Ytfmdfenkajkmkaa.Pure
