/-
  Proved: the Go function MovieNames, which holds the layer's constants against their numbers, returns true. No condition.
-/
import Derived.Test.YtfmdfenkajkmkaaPMovieNamesx1
namespace Go.Proofs.Ytfmdfenkajkmkaa.Pure
open Go.RowKit Go.Proofs.Ytfmdfenkajkmkaa.PMovieNames Go.Proofs.YtfmdfenkajkmkaaW.PrintWords Go.Proofs.YtfmdfenkajkmkaaW.PrintLast

/-- YOURS: ∃ k, arcadelaw16_MovieNames.f k  = some true
What it reaches (each with k first where it has rounds; `.mono`: more rounds tell the same; `.l0`, ..: its loops, with `.mono_l`): arcadelaw16_num.f, arcadelaw16_MovieNames.f -/
theorem MovieNames : arcadelaw16_MovieNames.Pure := by
  exact ⟨40, by decide +kernel⟩

end Go.Proofs.Ytfmdfenkajkmkaa.Pure
