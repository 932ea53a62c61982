import Derived.Test.YtpflenaoplblkaaProCd
import Derived.Test.YtpflenaoplblkaaProCb
namespace Go.Proofs.Ytpflenaoplblkaa.ProCf
open Go.RowKit Go.Proofs.YtpflenaoplblkaaW.PrintWords Go.Proofs.Ytpflenaoplblkaa.ProO Go.Proofs.Ytpflenaoplblkaa.ProCd
set_option linter.unusedVariables false
theorem mem_sum {M : S44} {xs : List S44} (h : M ∈ xs) : M.f3.length ≤ (xs.map (fun M => M.f3.length)).sum := by
  induction xs with
  | nil => cases h
  | cons x r ih =>
    rw [List.map_cons, List.sum_cons]
    rcases List.mem_cons.1 h with rfl | h
    · omega
    · have := ih h
      omega
theorem tot_eq (xs : List S44) : totR xs = 3 * (xs.map (fun M => M.f3.length)).sum + 68 * xs.length := by
  unfold totR
  induction xs with
  | nil => rfl
  | cons x r ih =>
    rw [List.map_cons, List.sum_cons, List.map_cons, List.sum_cons, List.length_cons, ih]
    omega
end Go.Proofs.Ytpflenaoplblkaa.ProCf
