/-
  Proved: the Go function HostNames, which holds the layer's constants against their numbers, returns true. No condition.
-/
import Derived.Test.YtfmdfenkajkmkaaPHostNamesx1
namespace Go.Proofs.Ytfmdfenkajkmkaa.Pure
open Go.RowKit Go.Proofs.Ytfmdfenkajkmkaa.PHostNames Go.Proofs.YtfmdfenkajkmkaaW.PrintWords Go.Proofs.YtfmdfenkajkmkaaW.PrintLast

/-- YOURS: ∃ k, arcadelaw14_HostNames.f k  = some true
What it reaches (each with k first where it has rounds; `.mono`: more rounds tell the same; `.l0`, ..: its loops, with `.mono_l`): arcadelaw14_num.f, arcadelaw14_HostNames.f -/
theorem HostNames : arcadelaw14_HostNames.Pure := by
  exact ⟨40, by decide +kernel⟩

end Go.Proofs.Ytfmdfenkajkmkaa.Pure
