import Derived.Test.YtpkogmcafgplgaaDoorAluP
namespace Go.Proofs.YtpkogmcafgplgaaDoor.AluK
open Go.RowKit Go.Proofs.YtpkogmcafgplgaaDoor.AluP
set_option linter.unusedVariables false
theorem ret_true {b : Bool} (h : b = true) : Ending.returned (.bool b) = .returned (.bool true) := by rw [h]
theorem pick_any (c n : Int) (w : World) (wc : (Lit.int .i64 c).wf = true) (n0 : 0 < n) (n1 : n ≤ 9223372036854775807) :
    Calls Tryd.prog 5 #[.int .i64 c, .int .i64 n] w fun e w' => e = .returned (.int .i64 (pickV c n)) ∧ (0 ≤ pickV c n ∧ pickV c n < n) ∧ w = w' := by
  have hb := bounds_i64 wc
  have HP := Lib.hid (pick_bd c n n0)
  have hz : (n == 0) = false := by rw [beq_eq_false_iff_ne]; omega
  have hn : ¬ n = 0 := by omega
  have hu : pickV c n = if c < 0 then (-(c + 1)) % n else c % n := rfl
  have HU := Lib.hid hu
  clear hu
  by_cases h : c < 0
  · go_enter Tryd.func5, Tryd.ntmps5
    go_wp2
    go_ret
    exact ⟨by rw [HU.out, if_pos (by omega), ← Int.tmod_eq_emod_of_nonneg (by omega), Int.neg_tmod]; rfl, HP.out, rfl⟩
  · go_enter Tryd.func5, Tryd.ntmps5
    go_wp2
    go_ret
    exact ⟨by rw [HU.out, if_neg (by omega)]; rfl, HP.out, rfl⟩
end Go.Proofs.YtpkogmcafgplgaaDoor.AluK
