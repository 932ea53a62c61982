/-
  Proved: the Go function ConsoleNames, which holds the layer's constants against their numbers, returns true. No condition.
-/
import Derived.Test.YtfmdfenkajkmkaaPConsoleNamesx1
namespace Go.Proofs.Ytfmdfenkajkmkaa.Pure
open Go.RowKit Go.Proofs.Ytfmdfenkajkmkaa.PConsoleNames Go.Proofs.YtfmdfenkajkmkaaW.PrintWords Go.Proofs.YtfmdfenkajkmkaaW.PrintLast

/-- YOURS: ∃ k, arcadelaw8_ConsoleNames.f k  = some true
What it reaches (each with k first where it has rounds; `.mono`: more rounds tell the same; `.l0`, ..: its loops, with `.mono_l`): arcadelaw8_num.f, arcadelaw8_ConsoleNames.f -/
theorem ConsoleNames : arcadelaw8_ConsoleNames.Pure := by
  exact ⟨40, by decide +kernel⟩

end Go.Proofs.Ytfmdfenkajkmkaa.Pure
