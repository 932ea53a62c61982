/-
  Proved: the Go function AluNames, which holds the layer's constants against their numbers, returns true. No condition.
-/
import Derived.Test.YtfmdfenkajkmkaaPAluNamesx1
namespace Go.Proofs.Ytfmdfenkajkmkaa.Pure
open Go.RowKit Go.Proofs.Ytfmdfenkajkmkaa.PAluNames Go.Proofs.YtfmdfenkajkmkaaW.PrintWords Go.Proofs.YtfmdfenkajkmkaaW.PrintLast

/-- YOURS: arcadelaw1_AluNames.f  = some true
What it reaches (each with k first where it has rounds; `.mono`: more rounds tell the same; `.l0`, ..: its loops, with `.mono_l`): arcadelaw1_AluNames.f -/
theorem AluNames : arcadelaw1_AluNames.Pure := by
  rfl

end Go.Proofs.Ytfmdfenkajkmkaa.Pure
