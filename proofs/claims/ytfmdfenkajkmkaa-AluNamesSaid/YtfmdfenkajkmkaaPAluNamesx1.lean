-- PRINTED BY print.sh 35421559b90ae4d0a3588c463048766b98c2df88dd9212a6774a882060cdf62d: not written by this session
import Derived.Test.YtfmdfenkajkmkaaPAluNamesx0
namespace Go.Proofs.Ytfmdfenkajkmkaa.PAluNames
open Go.RowKit Go.Proofs.YtfmdfenkajkmkaaW.PrintWords Go.Proofs.YtfmdfenkajkmkaaW.PrintLast Go.Proofs.YtfmdfenkajkmkaaW.PrintMore
attribute [local go_sem] max2_int min2_int max_two min_two max_three min_three max_four min_four   -- for this text's walks alone
set_option linter.unusedVariables false
set_option linter.unusedSimpArgs false

/-! ### arcadelaw1_AluNames: function 10 -/
def arcadelaw1_AluNames.f  : Option (Bool) := some true
set_option maxHeartbeats 8000000 in
set_option maxRecDepth 100000 in
theorem arcadelaw1_AluNames.calls  (r : Bool) (w : World) (h : arcadelaw1_AluNames.f  = some r) :
    Calls Try.prog 10 #[] w fun e w' => e = .returned (.bool r) ∧ Drawn0 w w' := by
  have H : (some true) = some r := h
  clear h
  obtain rfl := Option.some.inj H
  go_enter Try.func10, Try.ntmps10
  go_wp2
  go_ret
  exact ⟨by first | rfl | (simp; done) | (simp [*]; done), by repeat (first | exact Drawn0.refl _ | apply Drawn0.step)⟩

/-- THE ONE PURE STATEMENT of arcadelaw1_AluNames: yours. -/
def arcadelaw1_AluNames.Pure : Prop := arcadelaw1_AluNames.f  = some true
theorem arcadelaw1_AluNames.walk (P : arcadelaw1_AluNames.Pure)  (w : World)  :
    Calls Try.prog 10 #[] w fun e w' => e = .returned (.bool true) ∧ Below w.heap.size w w' := by
  have h := P  
  refine (arcadelaw1_AluNames.calls  true w h).mono ?_
  rintro e w' ⟨rfl, hd⟩
  exact ⟨rfl, hd.below⟩

end Go.Proofs.Ytfmdfenkajkmkaa.PAluNames
