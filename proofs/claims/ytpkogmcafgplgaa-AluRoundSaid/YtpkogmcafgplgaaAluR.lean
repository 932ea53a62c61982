import Derived.Test.YtpkogmcafgplgaaAluQ
namespace Go.Proofs.Ytpkogmcafgplgaa.AluR
open Go.RowKit Go.Proofs.Ytpkogmcafgplgaa.AluA Go.Proofs.Ytpkogmcafgplgaa.AluB Go.Proofs.Ytpkogmcafgplgaa.AluC Go.Proofs.Ytpkogmcafgplgaa.AluP Go.Proofs.Ytpkogmcafgplgaa.AluQ
set_option linter.unusedVariables false

theorem offset5 (a y : Int) (h0 : 0 ≤ y) (h1 : y < 128) : ((a + y) % 65536 + -y % 256 - -y % 256 / 128 * 256) % 65536 = a % 65536 := by
  rcases (show (y = 0 ∧ -y % 256 = 0) ∨ (0 < y ∧ -y % 256 = 256 - y) by omega) with ⟨h, e⟩ | ⟨h, e⟩ <;> rw [e] <;> omega
def uV (k : Nat) (x : Int) : Int := itU (min k 8) x
def vV (k : Nat) (x : Int) : Int := itV (min k 8) x
theorem uV_s (k : Nat) (x : Int) (h : k < 8) : shiftV 0 (uV k x) 0 = uV (k + 1) x := by
  unfold uV
  rw [show min k 8 = k by omega, show min (k + 1) 8 = k + 1 by omega]
  rfl
theorem vV_s (k : Nat) (x : Int) (h : k < 8) : shiftV 1 (vV k x) 240 = vV (k + 1) x := by
  unfold vV
  rw [show min k 8 = k by omega, show min (k + 1) 8 = k + 1 by omega]
  rfl
theorem uV_e (x : Int) : uV 8 x = uV 9 x := rfl
theorem vV_e (x : Int) : vV 8 x = vV 9 x := rfl
theorem uV_9 (x : Int) (h0 : 0 ≤ x) (h1 : x ≤ 255) : uV 9 x = x := itU_8 x h0 h1
theorem vV_9 (x : Int) (h0 : 0 ≤ x) (h1 : x ≤ 255) : vV 9 x = x := itV_8 x h0 h1
theorem itU_bd (k : Nat) (x : Int) (h0 : 0 ≤ x) (h1 : x ≤ 255) : 0 ≤ itU k x ∧ itU k x ≤ 255 := by
  induction k with
  | zero => exact ⟨h0, h1⟩
  | succ k ih => have := shift_bd 0 (itU k x) 0 ih.1 ih.2 (by omega) (by omega); exact ⟨this.1, this.2.1⟩
theorem itV_bd (k : Nat) (x : Int) (h0 : 0 ≤ x) (h1 : x ≤ 255) : 0 ≤ itV k x ∧ itV k x ≤ 255 := by
  induction k with
  | zero => exact ⟨h0, h1⟩
  | succ k ih => have := shift_bd 1 (itV k x) 240 ih.1 ih.2 (by omega) (by omega); exact ⟨this.1, this.2.1⟩
theorem uV_bd (k : Nat) (x : Int) (h0 : 0 ≤ x) (h1 : x ≤ 255) : 0 ≤ uV k x ∧ uV k x ≤ 255 := itU_bd _ x h0 h1
theorem vV_bd (k : Nat) (x : Int) (h0 : 0 ≤ x) (h1 : x ≤ 255) : 0 ≤ vV k x ∧ vV k x ≤ 255 := itV_bd _ x h0 h1
theorem itW_bd (k : Nat) (x c : Int) (h0 : 0 ≤ x) (h1 : x ≤ 255) (c0 : 0 ≤ c) (c1 : c ≤ 255) : 0 ≤ (itW k x c).1 ∧ (itW k x c).1 ≤ 255 ∧ 0 ≤ (itW k x c).2 ∧ (itW k x c).2 ≤ 255 := by
  induction k with
  | zero => exact ⟨h0, h1, c0, c1⟩
  | succ k ih => exact shift_bd 2 _ _ ih.1 ih.2.1 ih.2.2.1 ih.2.2.2
theorem w9 (x c : Int) (h : wOk x c = true) : (itW 9 x c).1 = x ∧ bits .and .u8 (itW 9 x c).2 16 = bits .and .u8 c 16 := by
  rw [itW_eq]
  simpa only [wOk, Bool.and_eq_true, beq_iff_eq] using h
theorem bi_ne (b : Bool) (n : Int) (h : n ≠ 0) : (bi b n != 0) = b := by cases b <;> simp [bi, h]
theorem ret_true {b : Bool} (h : b = true) : Ending.returned (.bool b) = .returned (.bool true) := by rw [h]
theorem pick_any (c n : Int) (w : World) (wc : (Lit.int .i64 c).wf = true) (n0 : 0 < n) (n1 : n ≤ 9223372036854775807) :
    Calls Try.prog 15 #[.int .i64 c, .int .i64 n] w fun e w' => e = .returned (.int .i64 (pickV c n)) ∧ (0 ≤ pickV c n ∧ pickV c n < n) ∧ w = w' := by
  have hb := bounds_i64 wc
  have HP := Lib.hid (pick_bd c n n0)
  have hz : (n == 0) = false := by rw [beq_eq_false_iff_ne]; omega
  have hn : ¬ n = 0 := by omega
  have hu : pickV c n = if c < 0 then (-(c + 1)) % n else c % n := rfl
  have HU := Lib.hid hu
  clear hu
  by_cases h : c < 0
  · go_enter Try.func15, Try.ntmps15
    go_wp2
    go_ret
    exact ⟨by rw [HU.out, if_pos (by omega), ← Int.tmod_eq_emod_of_nonneg (by omega), Int.neg_tmod]; rfl, HP.out, rfl⟩
  · go_enter Try.func15, Try.ntmps15
    go_wp2
    go_ret
    exact ⟨by rw [HU.out, if_neg (by omega)]; rfl, HP.out, rfl⟩
theorem ten_any (n : Int) (w : World) (n0 : 0 ≤ n) (n1 : n < 100) :
    Calls Try.prog 16 #[.int .i64 n] w fun e w' => e = .returned (.int .u8 (tenV n)) ∧ (0 ≤ tenV n ∧ tenV n ≤ 255) ∧ w = w' := by
  go_enter Try.func16, Try.ntmps16
  go_wp2
  go_ret
  exact ⟨rfl, by unfold tenV; omega, rfl⟩
end Go.Proofs.Ytpkogmcafgplgaa.AluR
