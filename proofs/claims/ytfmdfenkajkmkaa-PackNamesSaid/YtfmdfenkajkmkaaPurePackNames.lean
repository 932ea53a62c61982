/-
  Proved: the Go function PackNames, which holds the layer's constants against their numbers, returns true. No condition.
-/
import Derived.Test.YtfmdfenkajkmkaaPPackNamesx1
namespace Go.Proofs.Ytfmdfenkajkmkaa.Pure
open Go.RowKit Go.Proofs.Ytfmdfenkajkmkaa.PPackNames Go.Proofs.YtfmdfenkajkmkaaW.PrintWords Go.Proofs.YtfmdfenkajkmkaaW.PrintLast

/-- YOURS: ∃ k, arcadelaw15_PackNames.f k  = some true
What it reaches (each with k first where it has rounds; `.mono`: more rounds tell the same; `.l0`, ..: its loops, with `.mono_l`): arcadelaw15_num.f, arcadelaw15_PackNames.f -/
theorem PackNames : arcadelaw15_PackNames.Pure := by
  exact ⟨40, by decide +kernel⟩

end Go.Proofs.Ytfmdfenkajkmkaa.Pure
