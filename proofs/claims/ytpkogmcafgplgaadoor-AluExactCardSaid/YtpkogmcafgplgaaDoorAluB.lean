import Derived.Test.YtpkogmcafgplgaaDoorAluA
namespace Go.Proofs.YtpkogmcafgplgaaDoor.AluB
open Go.RowKit Go.Proofs.YtpkogmcafgplgaaDoor.AluA
set_option linter.unusedVariables false
attribute [local go_sem] idxA_0 idxA_1 idxA_2 idxA_3 idxA_4 idxA_5 idxA_6 idxA_7 idxS_0 idxS_1 idxS_2 idxS_3 idxS_4 idxS_5 idxS_6 idxS_7 idxT_0 idxT_1 idxT_2 idxT_3
theorem arithT_0 (w : World) : Calls Tryd.prog 28 #[.int .i64 0] w fun e w' => e = .returned (.func (Fn.func 40) #[] #[]) ∧ w = w' := by
  go_enter Tryd.func28, Tryd.ntmps28
  go_wp2
  go_ret
  exact ⟨rfl, rfl⟩
theorem arithT_1 (w : World) : Calls Tryd.prog 28 #[.int .i64 1] w fun e w' => e = .returned (.func (Fn.func 42) #[] #[]) ∧ w = w' := by
  go_enter Tryd.func28, Tryd.ntmps28
  go_wp2
  go_ret
  exact ⟨rfl, rfl⟩
theorem arithT_2 (w : World) : Calls Tryd.prog 28 #[.int .i64 2] w fun e w' => e = .returned (.func (Fn.func 43) #[] #[]) ∧ w = w' := by
  go_enter Tryd.func28, Tryd.ntmps28
  go_wp2
  go_ret
  exact ⟨rfl, rfl⟩
theorem arithT_3 (w : World) : Calls Tryd.prog 28 #[.int .i64 3] w fun e w' => e = .returned (.func (Fn.func 45) #[] #[]) ∧ w = w' := by
  go_enter Tryd.func28, Tryd.ntmps28
  go_wp2
  go_ret
  exact ⟨rfl, rfl⟩
theorem arithT_4 (w : World) : Calls Tryd.prog 28 #[.int .i64 4] w fun e w' => e = .returned (.func (Fn.func 46) #[] #[]) ∧ w = w' := by
  go_enter Tryd.func28, Tryd.ntmps28
  go_wp2
  go_ret
  exact ⟨rfl, rfl⟩
theorem arithT_5 (w : World) : Calls Tryd.prog 28 #[.int .i64 5] w fun e w' => e = .returned (.func (Fn.func 48) #[] #[]) ∧ w = w' := by
  go_enter Tryd.func28, Tryd.ntmps28
  go_wp2
  go_ret
  exact ⟨rfl, rfl⟩
theorem arithT_6 (w : World) : Calls Tryd.prog 28 #[.int .i64 6] w fun e w' => e = .returned (.func (Fn.func 49) #[] #[]) ∧ w = w' := by
  go_enter Tryd.func28, Tryd.ntmps28
  go_wp2
  go_ret
  exact ⟨rfl, rfl⟩
theorem arithT_7 (w : World) : Calls Tryd.prog 28 #[.int .i64 7] w fun e w' => e = .returned (.func (Fn.func 50) #[] #[]) ∧ w = w' := by
  go_enter Tryd.func28, Tryd.ntmps28
  go_wp2
  go_ret
  exact ⟨rfl, rfl⟩
theorem shiftT_0 (w : World) : Calls Tryd.prog 36 #[.int .i64 0] w fun e w' => e = .returned (.func (Fn.func 51) #[] #[]) ∧ w = w' := by
  go_enter Tryd.func36, Tryd.ntmps36
  go_wp2
  go_ret
  exact ⟨rfl, rfl⟩
theorem shiftT_1 (w : World) : Calls Tryd.prog 36 #[.int .i64 1] w fun e w' => e = .returned (.func (Fn.func 52) #[] #[]) ∧ w = w' := by
  go_enter Tryd.func36, Tryd.ntmps36
  go_wp2
  go_ret
  exact ⟨rfl, rfl⟩
theorem shiftT_2 (w : World) : Calls Tryd.prog 36 #[.int .i64 2] w fun e w' => e = .returned (.func (Fn.func 53) #[] #[]) ∧ w = w' := by
  go_enter Tryd.func36, Tryd.ntmps36
  go_wp2
  go_ret
  exact ⟨rfl, rfl⟩
theorem shiftT_3 (w : World) : Calls Tryd.prog 36 #[.int .i64 3] w fun e w' => e = .returned (.func (Fn.func 54) #[] #[]) ∧ w = w' := by
  go_enter Tryd.func36, Tryd.ntmps36
  go_wp2
  go_ret
  exact ⟨rfl, rfl⟩
theorem shiftT_4 (w : World) : Calls Tryd.prog 36 #[.int .i64 4] w fun e w' => e = .returned (.func (Fn.func 55) #[] #[]) ∧ w = w' := by
  go_enter Tryd.func36, Tryd.ntmps36
  go_wp2
  go_ret
  exact ⟨rfl, rfl⟩
theorem shiftT_5 (w : World) : Calls Tryd.prog 36 #[.int .i64 5] w fun e w' => e = .returned (.func (Fn.func 56) #[] #[]) ∧ w = w' := by
  go_enter Tryd.func36, Tryd.ntmps36
  go_wp2
  go_ret
  exact ⟨rfl, rfl⟩
theorem shiftT_6 (w : World) : Calls Tryd.prog 36 #[.int .i64 6] w fun e w' => e = .returned (.func (Fn.func 57) #[] #[]) ∧ w = w' := by
  go_enter Tryd.func36, Tryd.ntmps36
  go_wp2
  go_ret
  exact ⟨rfl, rfl⟩
theorem shiftT_7 (w : World) : Calls Tryd.prog 36 #[.int .i64 7] w fun e w' => e = .returned (.func (Fn.func 58) #[] #[]) ∧ w = w' := by
  go_enter Tryd.func36, Tryd.ntmps36
  go_wp2
  go_ret
  exact ⟨rfl, rfl⟩
theorem turnT_0 (w : World) : Calls Tryd.prog 38 #[.int .i64 0] w fun e w' => e = .returned (.func (Fn.func 59) #[] #[]) ∧ w = w' := by
  go_enter Tryd.func38, Tryd.ntmps38
  go_wp2
  go_ret
  exact ⟨rfl, rfl⟩
theorem turnT_1 (w : World) : Calls Tryd.prog 38 #[.int .i64 1] w fun e w' => e = .returned (.func (Fn.func 60) #[] #[]) ∧ w = w' := by
  go_enter Tryd.func38, Tryd.ntmps38
  go_wp2
  go_ret
  exact ⟨rfl, rfl⟩
theorem turnT_2 (w : World) : Calls Tryd.prog 38 #[.int .i64 2] w fun e w' => e = .returned (.func (Fn.func 61) #[] #[]) ∧ w = w' := by
  go_enter Tryd.func38, Tryd.ntmps38
  go_wp2
  go_ret
  exact ⟨rfl, rfl⟩
theorem turnT_3 (w : World) : Calls Tryd.prog 38 #[.int .i64 3] w fun e w' => e = .returned (.func (Fn.func 62) #[] #[]) ∧ w = w' := by
  go_enter Tryd.func38, Tryd.ntmps38
  go_wp2
  go_ret
  exact ⟨rfl, rfl⟩

theorem arithC_0 (a b f : Int) (w : World) (a0 : 0 ≤ a) (a1 : a ≤ 255) (b0 : 0 ≤ b) (b1 : b ≤ 255) (f0 : 0 ≤ f) (f1 : f ≤ 255) :
    Calls Tryd.prog 40 #[.int .u8 a, .int .u8 b, .int .u8 f] w fun e w' => e = .returned (.tuple #[.int .u8 (sumV a b 0), .int .u8 (sumF a b 0)]) ∧ w = w' := by
  go_enter Tryd.func40, Tryd.ntmps40
  go_wp2_with (first | ((with_reducible refine (carry_any _ _ (by omega) (by omega)).mono ?_); rintro e w' ⟨rfl, rfl⟩) | ((with_reducible refine (sum_any _ _ _ _ (by omega) (by omega) (by omega) (by omega) (by omega) (by omega)).mono ?_); rintro e w' ⟨rfl, rfl⟩) | ((with_reducible refine (dif_any _ _ _ _ (by omega) (by omega) (by omega) (by omega) (by omega) (by omega)).mono ?_); rintro e w' ⟨rfl, rfl⟩) | ((with_reducible refine (bits_any _ _ _).mono ?_); rintro e w' ⟨rfl, rfl⟩))
  go_ret2
  exact ⟨rfl, rfl⟩
theorem arith_0 (a b f : Int) (w : World) (a0 : 0 ≤ a) (a1 : a ≤ 255) (b0 : 0 ≤ b) (b1 : b ≤ 255) (f0 : 0 ≤ f) (f1 : f ≤ 255) :
    Calls Tryd.prog 13 #[.int .i64 0, .int .u8 a, .int .u8 b, .int .u8 f] w fun e w' => e = .returned (.tuple #[.int .u8 (sumV a b 0), .int .u8 (sumF a b 0)]) ∧ w = w' := by
  go_enter Tryd.func13, Tryd.ntmps13
  go_wp2_with (first | ((with_reducible refine (arithT_0 _).mono ?_); rintro e w' ⟨rfl, rfl⟩) | ((with_reducible refine (arithC_0 _ _ _ _ (by omega) (by omega) (by omega) (by omega) (by omega) (by omega)).mono ?_); rintro e w' ⟨rfl, rfl⟩))
  go_ret2
  exact ⟨rfl, rfl⟩

theorem arithC_1 (a b f : Int) (w : World) (a0 : 0 ≤ a) (a1 : a ≤ 255) (b0 : 0 ≤ b) (b1 : b ≤ 255) (f0 : 0 ≤ f) (f1 : f ≤ 255) :
    Calls Tryd.prog 42 #[.int .u8 a, .int .u8 b, .int .u8 f] w fun e w' => e = .returned (.tuple #[.int .u8 (sumV a b (f / 16 % 2)), .int .u8 (sumF a b (f / 16 % 2))]) ∧ w = w' := by
  go_enter Tryd.func42, Tryd.ntmps42
  go_wp2_with (first | ((with_reducible refine (carry_any _ _ (by omega) (by omega)).mono ?_); rintro e w' ⟨rfl, rfl⟩) | ((with_reducible refine (sum_any _ _ _ _ (by omega) (by omega) (by omega) (by omega) (by omega) (by omega)).mono ?_); rintro e w' ⟨rfl, rfl⟩) | ((with_reducible refine (dif_any _ _ _ _ (by omega) (by omega) (by omega) (by omega) (by omega) (by omega)).mono ?_); rintro e w' ⟨rfl, rfl⟩) | ((with_reducible refine (bits_any _ _ _).mono ?_); rintro e w' ⟨rfl, rfl⟩))
  go_ret2
  exact ⟨rfl, rfl⟩
theorem arith_1 (a b f : Int) (w : World) (a0 : 0 ≤ a) (a1 : a ≤ 255) (b0 : 0 ≤ b) (b1 : b ≤ 255) (f0 : 0 ≤ f) (f1 : f ≤ 255) :
    Calls Tryd.prog 13 #[.int .i64 1, .int .u8 a, .int .u8 b, .int .u8 f] w fun e w' => e = .returned (.tuple #[.int .u8 (sumV a b (f / 16 % 2)), .int .u8 (sumF a b (f / 16 % 2))]) ∧ w = w' := by
  go_enter Tryd.func13, Tryd.ntmps13
  go_wp2_with (first | ((with_reducible refine (arithT_1 _).mono ?_); rintro e w' ⟨rfl, rfl⟩) | ((with_reducible refine (arithC_1 _ _ _ _ (by omega) (by omega) (by omega) (by omega) (by omega) (by omega)).mono ?_); rintro e w' ⟨rfl, rfl⟩))
  go_ret2
  exact ⟨rfl, rfl⟩

theorem arithC_2 (a b f : Int) (w : World) (a0 : 0 ≤ a) (a1 : a ≤ 255) (b0 : 0 ≤ b) (b1 : b ≤ 255) (f0 : 0 ≤ f) (f1 : f ≤ 255) :
    Calls Tryd.prog 43 #[.int .u8 a, .int .u8 b, .int .u8 f] w fun e w' => e = .returned (.tuple #[.int .u8 (difV a b 0), .int .u8 (difF a b 0)]) ∧ w = w' := by
  go_enter Tryd.func43, Tryd.ntmps43
  go_wp2_with (first | ((with_reducible refine (carry_any _ _ (by omega) (by omega)).mono ?_); rintro e w' ⟨rfl, rfl⟩) | ((with_reducible refine (sum_any _ _ _ _ (by omega) (by omega) (by omega) (by omega) (by omega) (by omega)).mono ?_); rintro e w' ⟨rfl, rfl⟩) | ((with_reducible refine (dif_any _ _ _ _ (by omega) (by omega) (by omega) (by omega) (by omega) (by omega)).mono ?_); rintro e w' ⟨rfl, rfl⟩) | ((with_reducible refine (bits_any _ _ _).mono ?_); rintro e w' ⟨rfl, rfl⟩))
  go_ret2
  exact ⟨rfl, rfl⟩
theorem arith_2 (a b f : Int) (w : World) (a0 : 0 ≤ a) (a1 : a ≤ 255) (b0 : 0 ≤ b) (b1 : b ≤ 255) (f0 : 0 ≤ f) (f1 : f ≤ 255) :
    Calls Tryd.prog 13 #[.int .i64 2, .int .u8 a, .int .u8 b, .int .u8 f] w fun e w' => e = .returned (.tuple #[.int .u8 (difV a b 0), .int .u8 (difF a b 0)]) ∧ w = w' := by
  go_enter Tryd.func13, Tryd.ntmps13
  go_wp2_with (first | ((with_reducible refine (arithT_2 _).mono ?_); rintro e w' ⟨rfl, rfl⟩) | ((with_reducible refine (arithC_2 _ _ _ _ (by omega) (by omega) (by omega) (by omega) (by omega) (by omega)).mono ?_); rintro e w' ⟨rfl, rfl⟩))
  go_ret2
  exact ⟨rfl, rfl⟩

theorem arithC_3 (a b f : Int) (w : World) (a0 : 0 ≤ a) (a1 : a ≤ 255) (b0 : 0 ≤ b) (b1 : b ≤ 255) (f0 : 0 ≤ f) (f1 : f ≤ 255) :
    Calls Tryd.prog 45 #[.int .u8 a, .int .u8 b, .int .u8 f] w fun e w' => e = .returned (.tuple #[.int .u8 (difV a b (f / 16 % 2)), .int .u8 (difF a b (f / 16 % 2))]) ∧ w = w' := by
  go_enter Tryd.func45, Tryd.ntmps45
  go_wp2_with (first | ((with_reducible refine (carry_any _ _ (by omega) (by omega)).mono ?_); rintro e w' ⟨rfl, rfl⟩) | ((with_reducible refine (sum_any _ _ _ _ (by omega) (by omega) (by omega) (by omega) (by omega) (by omega)).mono ?_); rintro e w' ⟨rfl, rfl⟩) | ((with_reducible refine (dif_any _ _ _ _ (by omega) (by omega) (by omega) (by omega) (by omega) (by omega)).mono ?_); rintro e w' ⟨rfl, rfl⟩) | ((with_reducible refine (bits_any _ _ _).mono ?_); rintro e w' ⟨rfl, rfl⟩))
  go_ret2
  exact ⟨rfl, rfl⟩
theorem arith_3 (a b f : Int) (w : World) (a0 : 0 ≤ a) (a1 : a ≤ 255) (b0 : 0 ≤ b) (b1 : b ≤ 255) (f0 : 0 ≤ f) (f1 : f ≤ 255) :
    Calls Tryd.prog 13 #[.int .i64 3, .int .u8 a, .int .u8 b, .int .u8 f] w fun e w' => e = .returned (.tuple #[.int .u8 (difV a b (f / 16 % 2)), .int .u8 (difF a b (f / 16 % 2))]) ∧ w = w' := by
  go_enter Tryd.func13, Tryd.ntmps13
  go_wp2_with (first | ((with_reducible refine (arithT_3 _).mono ?_); rintro e w' ⟨rfl, rfl⟩) | ((with_reducible refine (arithC_3 _ _ _ _ (by omega) (by omega) (by omega) (by omega) (by omega) (by omega)).mono ?_); rintro e w' ⟨rfl, rfl⟩))
  go_ret2
  exact ⟨rfl, rfl⟩

theorem arithC_4 (a b f : Int) (w : World) (a0 : 0 ≤ a) (a1 : a ≤ 255) (b0 : 0 ≤ b) (b1 : b ≤ 255) (f0 : 0 ≤ f) (f1 : f ≤ 255) :
    Calls Tryd.prog 46 #[.int .u8 a, .int .u8 b, .int .u8 f] w fun e w' => e = .returned (.tuple #[.int .u8 (bits .and .u8 a b), .int .u8 (flagsV (bits .and .u8 a b == 0) false true false)]) ∧ w = w' := by
  go_enter Tryd.func46, Tryd.ntmps46
  go_wp2_with (first | ((with_reducible refine (carry_any _ _ (by omega) (by omega)).mono ?_); rintro e w' ⟨rfl, rfl⟩) | ((with_reducible refine (sum_any _ _ _ _ (by omega) (by omega) (by omega) (by omega) (by omega) (by omega)).mono ?_); rintro e w' ⟨rfl, rfl⟩) | ((with_reducible refine (dif_any _ _ _ _ (by omega) (by omega) (by omega) (by omega) (by omega) (by omega)).mono ?_); rintro e w' ⟨rfl, rfl⟩) | ((with_reducible refine (bits_any _ _ _).mono ?_); rintro e w' ⟨rfl, rfl⟩))
  go_ret2
  exact ⟨rfl, rfl⟩
theorem arith_4 (a b f : Int) (w : World) (a0 : 0 ≤ a) (a1 : a ≤ 255) (b0 : 0 ≤ b) (b1 : b ≤ 255) (f0 : 0 ≤ f) (f1 : f ≤ 255) :
    Calls Tryd.prog 13 #[.int .i64 4, .int .u8 a, .int .u8 b, .int .u8 f] w fun e w' => e = .returned (.tuple #[.int .u8 (bits .and .u8 a b), .int .u8 (flagsV (bits .and .u8 a b == 0) false true false)]) ∧ w = w' := by
  go_enter Tryd.func13, Tryd.ntmps13
  go_wp2_with (first | ((with_reducible refine (arithT_4 _).mono ?_); rintro e w' ⟨rfl, rfl⟩) | ((with_reducible refine (arithC_4 _ _ _ _ (by omega) (by omega) (by omega) (by omega) (by omega) (by omega)).mono ?_); rintro e w' ⟨rfl, rfl⟩))
  go_ret2
  exact ⟨rfl, rfl⟩

theorem arithC_5 (a b f : Int) (w : World) (a0 : 0 ≤ a) (a1 : a ≤ 255) (b0 : 0 ≤ b) (b1 : b ≤ 255) (f0 : 0 ≤ f) (f1 : f ≤ 255) :
    Calls Tryd.prog 48 #[.int .u8 a, .int .u8 b, .int .u8 f] w fun e w' => e = .returned (.tuple #[.int .u8 (bits .xor .u8 a b), .int .u8 (flagsV (bits .xor .u8 a b == 0) false false false)]) ∧ w = w' := by
  go_enter Tryd.func48, Tryd.ntmps48
  go_wp2_with (first | ((with_reducible refine (carry_any _ _ (by omega) (by omega)).mono ?_); rintro e w' ⟨rfl, rfl⟩) | ((with_reducible refine (sum_any _ _ _ _ (by omega) (by omega) (by omega) (by omega) (by omega) (by omega)).mono ?_); rintro e w' ⟨rfl, rfl⟩) | ((with_reducible refine (dif_any _ _ _ _ (by omega) (by omega) (by omega) (by omega) (by omega) (by omega)).mono ?_); rintro e w' ⟨rfl, rfl⟩) | ((with_reducible refine (bits_any _ _ _).mono ?_); rintro e w' ⟨rfl, rfl⟩))
  go_ret2
  exact ⟨rfl, rfl⟩
theorem arith_5 (a b f : Int) (w : World) (a0 : 0 ≤ a) (a1 : a ≤ 255) (b0 : 0 ≤ b) (b1 : b ≤ 255) (f0 : 0 ≤ f) (f1 : f ≤ 255) :
    Calls Tryd.prog 13 #[.int .i64 5, .int .u8 a, .int .u8 b, .int .u8 f] w fun e w' => e = .returned (.tuple #[.int .u8 (bits .xor .u8 a b), .int .u8 (flagsV (bits .xor .u8 a b == 0) false false false)]) ∧ w = w' := by
  go_enter Tryd.func13, Tryd.ntmps13
  go_wp2_with (first | ((with_reducible refine (arithT_5 _).mono ?_); rintro e w' ⟨rfl, rfl⟩) | ((with_reducible refine (arithC_5 _ _ _ _ (by omega) (by omega) (by omega) (by omega) (by omega) (by omega)).mono ?_); rintro e w' ⟨rfl, rfl⟩))
  go_ret2
  exact ⟨rfl, rfl⟩

theorem arithC_6 (a b f : Int) (w : World) (a0 : 0 ≤ a) (a1 : a ≤ 255) (b0 : 0 ≤ b) (b1 : b ≤ 255) (f0 : 0 ≤ f) (f1 : f ≤ 255) :
    Calls Tryd.prog 49 #[.int .u8 a, .int .u8 b, .int .u8 f] w fun e w' => e = .returned (.tuple #[.int .u8 (bits .or .u8 a b), .int .u8 (flagsV (bits .or .u8 a b == 0) false false false)]) ∧ w = w' := by
  go_enter Tryd.func49, Tryd.ntmps49
  go_wp2_with (first | ((with_reducible refine (carry_any _ _ (by omega) (by omega)).mono ?_); rintro e w' ⟨rfl, rfl⟩) | ((with_reducible refine (sum_any _ _ _ _ (by omega) (by omega) (by omega) (by omega) (by omega) (by omega)).mono ?_); rintro e w' ⟨rfl, rfl⟩) | ((with_reducible refine (dif_any _ _ _ _ (by omega) (by omega) (by omega) (by omega) (by omega) (by omega)).mono ?_); rintro e w' ⟨rfl, rfl⟩) | ((with_reducible refine (bits_any _ _ _).mono ?_); rintro e w' ⟨rfl, rfl⟩))
  go_ret2
  exact ⟨rfl, rfl⟩
theorem arith_6 (a b f : Int) (w : World) (a0 : 0 ≤ a) (a1 : a ≤ 255) (b0 : 0 ≤ b) (b1 : b ≤ 255) (f0 : 0 ≤ f) (f1 : f ≤ 255) :
    Calls Tryd.prog 13 #[.int .i64 6, .int .u8 a, .int .u8 b, .int .u8 f] w fun e w' => e = .returned (.tuple #[.int .u8 (bits .or .u8 a b), .int .u8 (flagsV (bits .or .u8 a b == 0) false false false)]) ∧ w = w' := by
  go_enter Tryd.func13, Tryd.ntmps13
  go_wp2_with (first | ((with_reducible refine (arithT_6 _).mono ?_); rintro e w' ⟨rfl, rfl⟩) | ((with_reducible refine (arithC_6 _ _ _ _ (by omega) (by omega) (by omega) (by omega) (by omega) (by omega)).mono ?_); rintro e w' ⟨rfl, rfl⟩))
  go_ret2
  exact ⟨rfl, rfl⟩

theorem arithC_7 (a b f : Int) (w : World) (a0 : 0 ≤ a) (a1 : a ≤ 255) (b0 : 0 ≤ b) (b1 : b ≤ 255) (f0 : 0 ≤ f) (f1 : f ≤ 255) :
    Calls Tryd.prog 50 #[.int .u8 a, .int .u8 b, .int .u8 f] w fun e w' => e = .returned (.tuple #[.int .u8 (a), .int .u8 (difF a b 0)]) ∧ w = w' := by
  go_enter Tryd.func50, Tryd.ntmps50
  go_wp2_with (first | ((with_reducible refine (carry_any _ _ (by omega) (by omega)).mono ?_); rintro e w' ⟨rfl, rfl⟩) | ((with_reducible refine (sum_any _ _ _ _ (by omega) (by omega) (by omega) (by omega) (by omega) (by omega)).mono ?_); rintro e w' ⟨rfl, rfl⟩) | ((with_reducible refine (dif_any _ _ _ _ (by omega) (by omega) (by omega) (by omega) (by omega) (by omega)).mono ?_); rintro e w' ⟨rfl, rfl⟩) | ((with_reducible refine (bits_any _ _ _).mono ?_); rintro e w' ⟨rfl, rfl⟩))
  go_ret2
  exact ⟨rfl, rfl⟩
theorem arith_7 (a b f : Int) (w : World) (a0 : 0 ≤ a) (a1 : a ≤ 255) (b0 : 0 ≤ b) (b1 : b ≤ 255) (f0 : 0 ≤ f) (f1 : f ≤ 255) :
    Calls Tryd.prog 13 #[.int .i64 7, .int .u8 a, .int .u8 b, .int .u8 f] w fun e w' => e = .returned (.tuple #[.int .u8 (a), .int .u8 (difF a b 0)]) ∧ w = w' := by
  go_enter Tryd.func13, Tryd.ntmps13
  go_wp2_with (first | ((with_reducible refine (arithT_7 _).mono ?_); rintro e w' ⟨rfl, rfl⟩) | ((with_reducible refine (arithC_7 _ _ _ _ (by omega) (by omega) (by omega) (by omega) (by omega) (by omega)).mono ?_); rintro e w' ⟨rfl, rfl⟩))
  go_ret2
  exact ⟨rfl, rfl⟩

theorem arith_no (op a b f : Int) (w : World) (h : op < 0 ∨ 8 ≤ op) (a0 : 0 ≤ a) (a1 : a ≤ 255) (b0 : 0 ≤ b) (b1 : b ≤ 255) (f0 : 0 ≤ f) (f1 : f ≤ 255) :
    Calls Tryd.prog 13 #[.int .i64 op, .int .u8 a, .int .u8 b, .int .u8 f] w fun e w' => e = .returned (.tuple #[.int .u8 (a), .int .u8 (f / 16 * 16)]) ∧ w = w' := by
  rcases h with h | h
  · go_enter Tryd.func13, Tryd.ntmps13
    go_wp2_with ((with_reducible refine (clean_any _ _ (by omega) (by omega)).mono ?_); rintro e w' ⟨rfl, rfl⟩)
    go_ret2
    exact ⟨rfl, rfl⟩
  · have hn : ¬ op < 0 := by omega
    go_enter Tryd.func13, Tryd.ntmps13
    go_wp2_with ((with_reducible refine (clean_any _ _ (by omega) (by omega)).mono ?_); rintro e w' ⟨rfl, rfl⟩)
    go_ret2
    exact ⟨rfl, rfl⟩

theorem and64 : ∀ f : Int, 0 ≤ f → f ≤ 255 → bits .and .u8 f 64 = f / 64 % 2 * 64 := of_fin (by decide +kernel)
theorem and32 : ∀ f : Int, 0 ≤ f → f ≤ 255 → bits .and .u8 f 32 = f / 32 % 2 * 32 := of_fin (by decide +kernel)
theorem and1u : ∀ f : Int, 0 ≤ f → f ≤ 255 → bits .and .u8 f 1 = f % 2 := of_fin (by decide +kernel)
theorem or_0 : ∀ a : Int, 0 ≤ a → a ≤ 255 → bits .or .u8 (a * 2 % 256) (a / 128) = a * 2 % 256 + a / 128 := of_fin (by decide +kernel)
theorem or_1 : ∀ a : Int, 0 ≤ a → a ≤ 255 → bits .or .u8 (a / 2) (a * 128 % 256) = a / 2 + a % 2 * 128 := of_fin (by decide +kernel)
theorem or_20 : ∀ a : Int, 0 ≤ a → a ≤ 255 → bits .or .u8 (a * 2 % 256) 0 = a * 2 % 256 + 0 := of_fin (by decide +kernel)
theorem or_21 : ∀ a : Int, 0 ≤ a → a ≤ 255 → bits .or .u8 (a * 2 % 256) 1 = a * 2 % 256 + 1 := of_fin (by decide +kernel)
theorem or_2 (a c : Int) (h0 : 0 ≤ a) (h1 : a ≤ 255) (c0 : 0 ≤ c) (c1 : c ≤ 1) : bits .or .u8 (a * 2 % 256) c = a * 2 % 256 + c := by
  rcases (show c = 0 ∨ c = 1 by omega) with rfl | rfl
  · exact or_20 a h0 h1
  · exact or_21 a h0 h1
theorem or_30 : ∀ a : Int, 0 ≤ a → a ≤ 255 → bits .or .u8 (a / 2) (0 * 128) = a / 2 + 0 * 128 := of_fin (by decide +kernel)
theorem or_31 : ∀ a : Int, 0 ≤ a → a ≤ 255 → bits .or .u8 (a / 2) (1 * 128) = a / 2 + 1 * 128 := of_fin (by decide +kernel)
theorem or_3 (a c : Int) (h0 : 0 ≤ a) (h1 : a ≤ 255) (c0 : 0 ≤ c) (c1 : c ≤ 1) : bits .or .u8 (a / 2) (c * 128) = a / 2 + c * 128 := by
  rcases (show c = 0 ∨ c = 1 by omega) with rfl | rfl
  · exact or_30 a h0 h1
  · exact or_31 a h0 h1
theorem or_5 : ∀ a : Int, 0 ≤ a → a ≤ 255 → IntKind.i8.wrap a / 2 % 256 = a / 2 + a / 128 * 128 := of_fin (by decide +kernel)
theorem or_6 : ∀ a : Int, 0 ≤ a → a ≤ 255 → bits .or .u8 (a * 16 % 256) (a / 16) = a % 16 * 16 + a / 16 := of_fin (by decide +kernel)
theorem cf_16 : ∀ f : Int, 0 ≤ f → f ≤ 255 → (bits .and .u8 f 16 != 0) = (f / 16 % 2 == 1) := of_fin (by decide +kernel)
theorem zf_128 : ∀ f : Int, 0 ≤ f → f ≤ 255 → (bits .and .u8 f 128 != 0) = (f / 128 == 1) := of_fin (by decide +kernel)
theorem ret2 {k l : IntKind} {a b c d : Int} (h : a = b) (g : c = d) : Ending.returned (.tuple #[.int k a, .int l c]) = .returned (.tuple #[.int k b, .int l d]) := by rw [h, g]

theorem step_0 (a f : Int) (w : World) (a0 : 0 ≤ a) (a1 : a ≤ 255) (f0 : 0 ≤ f) (f1 : f ≤ 255) :
    Calls Tryd.prog 15 #[.int .i64 0, .int .u8 a, .int .u8 f] w fun e w' => e = .returned (.tuple #[.int .u8 ((a + 1) % 256), .int .u8 (flagsV ((a + 1) % 256 == 0) false ((a + 1) % 16 == 0) (f / 16 % 2 == 1))]) ∧ w = w' := by
  go_enter Tryd.func15, Tryd.ntmps15
  go_wp2_with ((with_reducible refine (flags_any _ _ _ _ _).mono ?_); rintro e w' ⟨rfl, rfl⟩)
  go_ret2
  exact ⟨by rw [← cf_16 f f0 f1]; rfl, rfl⟩

theorem step_1 (a f : Int) (w : World) (a0 : 0 ≤ a) (a1 : a ≤ 255) (f0 : 0 ≤ f) (f1 : f ≤ 255) :
    Calls Tryd.prog 15 #[.int .i64 1, .int .u8 a, .int .u8 f] w fun e w' => e = .returned (.tuple #[.int .u8 ((a - 1) % 256), .int .u8 (flagsV ((a - 1) % 256 == 0) true ((a - 1) % 16 == 15) (f / 16 % 2 == 1))]) ∧ w = w' := by
  go_enter Tryd.func15, Tryd.ntmps15
  go_wp2_with ((with_reducible refine (flags_any _ _ _ _ _).mono ?_); rintro e w' ⟨rfl, rfl⟩)
  go_ret2
  exact ⟨by rw [← cf_16 f f0 f1]; rfl, rfl⟩

theorem step_no (op a f : Int) (w : World) (h : op < 0 ∨ 2 ≤ op) (a0 : 0 ≤ a) (a1 : a ≤ 255) (f0 : 0 ≤ f) (f1 : f ≤ 255) :
    Calls Tryd.prog 15 #[.int .i64 op, .int .u8 a, .int .u8 f] w fun e w' => e = .returned (.tuple #[.int .u8 (a), .int .u8 (f / 16 * 16)]) ∧ w = w' := by
  have h2 : (op == 0) = false := by rw [beq_eq_false_iff_ne]; omega
  have h3 : (op == 1) = false := by rw [beq_eq_false_iff_ne]; omega
  go_enter Tryd.func15, Tryd.ntmps15
  go_wp2_with ((with_reducible refine (clean_any _ _ (by omega) (by omega)).mono ?_); rintro e w' ⟨rfl, rfl⟩)
  go_ret2
  exact ⟨rfl, rfl⟩

theorem shiftC_0 (a c : Int) (w : World) (a0 : 0 ≤ a) (a1 : a ≤ 255) (c0 : 0 ≤ c) (c1 : c ≤ 1) :
    Calls Tryd.prog 51 #[.int .u8 a, .int .u8 c] w fun e w' => e = .returned (.tuple #[.int .u8 (a * 2 % 256 + a / 128), .int .u8 (a / 128)]) ∧ w = w' := by
  go_enter Tryd.func51, Tryd.ntmps51
  go_wp2
  go_ret2
  exact ⟨by rw [← or_0 a a0 a1]; rfl, rfl⟩

theorem shift_0 (a f : Int) (w : World) (a0 : 0 ≤ a) (a1 : a ≤ 255) (f0 : 0 ≤ f) (f1 : f ≤ 255) :
    Calls Tryd.prog 17 #[.int .i64 0, .int .u8 a, .int .u8 f] w fun e w' => e = .returned (.tuple #[.int .u8 (a * 2 % 256 + a / 128), .int .u8 (flagsV (a * 2 % 256 + a / 128 == 0) false false (a / 128 != 0))]) ∧ w = w' := by
  go_enter Tryd.func17, Tryd.ntmps17
  go_wp2_with (first | ((with_reducible refine (shiftT_0 _).mono ?_); rintro e w' ⟨rfl, rfl⟩) | ((with_reducible refine (carry_any _ _ (by omega) (by omega)).mono ?_); rintro e w' ⟨rfl, rfl⟩) | ((with_reducible refine (shiftC_0 _ _ _ (by omega) (by omega) (by omega) (by omega)).mono ?_); rintro e w' ⟨rfl, rfl⟩) | ((with_reducible refine (flags_any _ _ _ _ _).mono ?_); rintro e w' ⟨rfl, rfl⟩))
  go_ret2
  exact ⟨rfl, rfl⟩

theorem shiftC_1 (a c : Int) (w : World) (a0 : 0 ≤ a) (a1 : a ≤ 255) (c0 : 0 ≤ c) (c1 : c ≤ 1) :
    Calls Tryd.prog 52 #[.int .u8 a, .int .u8 c] w fun e w' => e = .returned (.tuple #[.int .u8 (a / 2 + a % 2 * 128), .int .u8 (a % 2)]) ∧ w = w' := by
  go_enter Tryd.func52, Tryd.ntmps52
  go_wp2
  go_ret2
  exact ⟨by rw [← or_1 a a0 a1, ← and1u a a0 a1]; rfl, rfl⟩

theorem shift_1 (a f : Int) (w : World) (a0 : 0 ≤ a) (a1 : a ≤ 255) (f0 : 0 ≤ f) (f1 : f ≤ 255) :
    Calls Tryd.prog 17 #[.int .i64 1, .int .u8 a, .int .u8 f] w fun e w' => e = .returned (.tuple #[.int .u8 (a / 2 + a % 2 * 128), .int .u8 (flagsV (a / 2 + a % 2 * 128 == 0) false false (a % 2 != 0))]) ∧ w = w' := by
  go_enter Tryd.func17, Tryd.ntmps17
  go_wp2_with (first | ((with_reducible refine (shiftT_1 _).mono ?_); rintro e w' ⟨rfl, rfl⟩) | ((with_reducible refine (carry_any _ _ (by omega) (by omega)).mono ?_); rintro e w' ⟨rfl, rfl⟩) | ((with_reducible refine (shiftC_1 _ _ _ (by omega) (by omega) (by omega) (by omega)).mono ?_); rintro e w' ⟨rfl, rfl⟩) | ((with_reducible refine (flags_any _ _ _ _ _).mono ?_); rintro e w' ⟨rfl, rfl⟩))
  go_ret2
  exact ⟨rfl, rfl⟩

theorem shiftC_2 (a c : Int) (w : World) (a0 : 0 ≤ a) (a1 : a ≤ 255) (c0 : 0 ≤ c) (c1 : c ≤ 1) :
    Calls Tryd.prog 53 #[.int .u8 a, .int .u8 c] w fun e w' => e = .returned (.tuple #[.int .u8 (a * 2 % 256 + c), .int .u8 (a / 128)]) ∧ w = w' := by
  go_enter Tryd.func53, Tryd.ntmps53
  go_wp2
  go_ret2
  exact ⟨by rw [← or_2 a c a0 a1 c0 c1]; rfl, rfl⟩

theorem shift_2 (a f : Int) (w : World) (a0 : 0 ≤ a) (a1 : a ≤ 255) (f0 : 0 ≤ f) (f1 : f ≤ 255) :
    Calls Tryd.prog 17 #[.int .i64 2, .int .u8 a, .int .u8 f] w fun e w' => e = .returned (.tuple #[.int .u8 (a * 2 % 256 + f / 16 % 2), .int .u8 (flagsV (a * 2 % 256 + f / 16 % 2 == 0) false false (a / 128 != 0))]) ∧ w = w' := by
  go_enter Tryd.func17, Tryd.ntmps17
  go_wp2_with (first | ((with_reducible refine (shiftT_2 _).mono ?_); rintro e w' ⟨rfl, rfl⟩) | ((with_reducible refine (carry_any _ _ (by omega) (by omega)).mono ?_); rintro e w' ⟨rfl, rfl⟩) | ((with_reducible refine (shiftC_2 _ _ _ (by omega) (by omega) (by omega) (by omega)).mono ?_); rintro e w' ⟨rfl, rfl⟩) | ((with_reducible refine (flags_any _ _ _ _ _).mono ?_); rintro e w' ⟨rfl, rfl⟩))
  go_ret2
  exact ⟨rfl, rfl⟩

theorem shiftC_3 (a c : Int) (w : World) (a0 : 0 ≤ a) (a1 : a ≤ 255) (c0 : 0 ≤ c) (c1 : c ≤ 1) :
    Calls Tryd.prog 54 #[.int .u8 a, .int .u8 c] w fun e w' => e = .returned (.tuple #[.int .u8 (a / 2 + c * 128), .int .u8 (a % 2)]) ∧ w = w' := by
  go_enter Tryd.func54, Tryd.ntmps54
  go_wp2
  go_ret2
  exact ⟨by rw [← or_3 a c a0 a1 c0 c1, ← and1u a a0 a1]; rfl, rfl⟩

theorem shift_3 (a f : Int) (w : World) (a0 : 0 ≤ a) (a1 : a ≤ 255) (f0 : 0 ≤ f) (f1 : f ≤ 255) :
    Calls Tryd.prog 17 #[.int .i64 3, .int .u8 a, .int .u8 f] w fun e w' => e = .returned (.tuple #[.int .u8 (a / 2 + f / 16 % 2 * 128), .int .u8 (flagsV (a / 2 + f / 16 % 2 * 128 == 0) false false (a % 2 != 0))]) ∧ w = w' := by
  go_enter Tryd.func17, Tryd.ntmps17
  go_wp2_with (first | ((with_reducible refine (shiftT_3 _).mono ?_); rintro e w' ⟨rfl, rfl⟩) | ((with_reducible refine (carry_any _ _ (by omega) (by omega)).mono ?_); rintro e w' ⟨rfl, rfl⟩) | ((with_reducible refine (shiftC_3 _ _ _ (by omega) (by omega) (by omega) (by omega)).mono ?_); rintro e w' ⟨rfl, rfl⟩) | ((with_reducible refine (flags_any _ _ _ _ _).mono ?_); rintro e w' ⟨rfl, rfl⟩))
  go_ret2
  exact ⟨rfl, rfl⟩

theorem shiftC_4 (a c : Int) (w : World) (a0 : 0 ≤ a) (a1 : a ≤ 255) (c0 : 0 ≤ c) (c1 : c ≤ 1) :
    Calls Tryd.prog 55 #[.int .u8 a, .int .u8 c] w fun e w' => e = .returned (.tuple #[.int .u8 (a * 2 % 256), .int .u8 (a / 128)]) ∧ w = w' := by
  go_enter Tryd.func55, Tryd.ntmps55
  go_wp2
  go_ret2
  exact ⟨by rfl, rfl⟩

theorem shift_4 (a f : Int) (w : World) (a0 : 0 ≤ a) (a1 : a ≤ 255) (f0 : 0 ≤ f) (f1 : f ≤ 255) :
    Calls Tryd.prog 17 #[.int .i64 4, .int .u8 a, .int .u8 f] w fun e w' => e = .returned (.tuple #[.int .u8 (a * 2 % 256), .int .u8 (flagsV (a * 2 % 256 == 0) false false (a / 128 != 0))]) ∧ w = w' := by
  go_enter Tryd.func17, Tryd.ntmps17
  go_wp2_with (first | ((with_reducible refine (shiftT_4 _).mono ?_); rintro e w' ⟨rfl, rfl⟩) | ((with_reducible refine (carry_any _ _ (by omega) (by omega)).mono ?_); rintro e w' ⟨rfl, rfl⟩) | ((with_reducible refine (shiftC_4 _ _ _ (by omega) (by omega) (by omega) (by omega)).mono ?_); rintro e w' ⟨rfl, rfl⟩) | ((with_reducible refine (flags_any _ _ _ _ _).mono ?_); rintro e w' ⟨rfl, rfl⟩))
  go_ret2
  exact ⟨rfl, rfl⟩

theorem shiftC_5 (a c : Int) (w : World) (a0 : 0 ≤ a) (a1 : a ≤ 255) (c0 : 0 ≤ c) (c1 : c ≤ 1) :
    Calls Tryd.prog 56 #[.int .u8 a, .int .u8 c] w fun e w' => e = .returned (.tuple #[.int .u8 (a / 2 + a / 128 * 128), .int .u8 (a % 2)]) ∧ w = w' := by
  go_enter Tryd.func56, Tryd.ntmps56
  go_wp2
  go_ret2
  exact ⟨by rw [← or_5 a a0 a1, ← and1u a a0 a1]; rfl, rfl⟩

theorem shift_5 (a f : Int) (w : World) (a0 : 0 ≤ a) (a1 : a ≤ 255) (f0 : 0 ≤ f) (f1 : f ≤ 255) :
    Calls Tryd.prog 17 #[.int .i64 5, .int .u8 a, .int .u8 f] w fun e w' => e = .returned (.tuple #[.int .u8 (a / 2 + a / 128 * 128), .int .u8 (flagsV (a / 2 + a / 128 * 128 == 0) false false (a % 2 != 0))]) ∧ w = w' := by
  go_enter Tryd.func17, Tryd.ntmps17
  go_wp2_with (first | ((with_reducible refine (shiftT_5 _).mono ?_); rintro e w' ⟨rfl, rfl⟩) | ((with_reducible refine (carry_any _ _ (by omega) (by omega)).mono ?_); rintro e w' ⟨rfl, rfl⟩) | ((with_reducible refine (shiftC_5 _ _ _ (by omega) (by omega) (by omega) (by omega)).mono ?_); rintro e w' ⟨rfl, rfl⟩) | ((with_reducible refine (flags_any _ _ _ _ _).mono ?_); rintro e w' ⟨rfl, rfl⟩))
  go_ret2
  exact ⟨rfl, rfl⟩

theorem shiftC_6 (a c : Int) (w : World) (a0 : 0 ≤ a) (a1 : a ≤ 255) (c0 : 0 ≤ c) (c1 : c ≤ 1) :
    Calls Tryd.prog 57 #[.int .u8 a, .int .u8 c] w fun e w' => e = .returned (.tuple #[.int .u8 (a % 16 * 16 + a / 16), .int .u8 (0)]) ∧ w = w' := by
  go_enter Tryd.func57, Tryd.ntmps57
  go_wp2
  go_ret2
  exact ⟨by rw [← or_6 a a0 a1]; rfl, rfl⟩

theorem shift_6 (a f : Int) (w : World) (a0 : 0 ≤ a) (a1 : a ≤ 255) (f0 : 0 ≤ f) (f1 : f ≤ 255) :
    Calls Tryd.prog 17 #[.int .i64 6, .int .u8 a, .int .u8 f] w fun e w' => e = .returned (.tuple #[.int .u8 (a % 16 * 16 + a / 16), .int .u8 (flagsV (a % 16 * 16 + a / 16 == 0) false false (0 != 0))]) ∧ w = w' := by
  go_enter Tryd.func17, Tryd.ntmps17
  go_wp2_with (first | ((with_reducible refine (shiftT_6 _).mono ?_); rintro e w' ⟨rfl, rfl⟩) | ((with_reducible refine (carry_any _ _ (by omega) (by omega)).mono ?_); rintro e w' ⟨rfl, rfl⟩) | ((with_reducible refine (shiftC_6 _ _ _ (by omega) (by omega) (by omega) (by omega)).mono ?_); rintro e w' ⟨rfl, rfl⟩) | ((with_reducible refine (flags_any _ _ _ _ _).mono ?_); rintro e w' ⟨rfl, rfl⟩))
  go_ret2
  exact ⟨rfl, rfl⟩

theorem shiftC_7 (a c : Int) (w : World) (a0 : 0 ≤ a) (a1 : a ≤ 255) (c0 : 0 ≤ c) (c1 : c ≤ 1) :
    Calls Tryd.prog 58 #[.int .u8 a, .int .u8 c] w fun e w' => e = .returned (.tuple #[.int .u8 (a / 2), .int .u8 (a % 2)]) ∧ w = w' := by
  go_enter Tryd.func58, Tryd.ntmps58
  go_wp2
  go_ret2
  exact ⟨by rw [← and1u a a0 a1]; rfl, rfl⟩

theorem shift_7 (a f : Int) (w : World) (a0 : 0 ≤ a) (a1 : a ≤ 255) (f0 : 0 ≤ f) (f1 : f ≤ 255) :
    Calls Tryd.prog 17 #[.int .i64 7, .int .u8 a, .int .u8 f] w fun e w' => e = .returned (.tuple #[.int .u8 (a / 2), .int .u8 (flagsV (a / 2 == 0) false false (a % 2 != 0))]) ∧ w = w' := by
  go_enter Tryd.func17, Tryd.ntmps17
  go_wp2_with (first | ((with_reducible refine (shiftT_7 _).mono ?_); rintro e w' ⟨rfl, rfl⟩) | ((with_reducible refine (carry_any _ _ (by omega) (by omega)).mono ?_); rintro e w' ⟨rfl, rfl⟩) | ((with_reducible refine (shiftC_7 _ _ _ (by omega) (by omega) (by omega) (by omega)).mono ?_); rintro e w' ⟨rfl, rfl⟩) | ((with_reducible refine (flags_any _ _ _ _ _).mono ?_); rintro e w' ⟨rfl, rfl⟩))
  go_ret2
  exact ⟨rfl, rfl⟩

theorem shift_no (op a f : Int) (w : World) (h : op < 0 ∨ 8 ≤ op) (a0 : 0 ≤ a) (a1 : a ≤ 255) (f0 : 0 ≤ f) (f1 : f ≤ 255) :
    Calls Tryd.prog 17 #[.int .i64 op, .int .u8 a, .int .u8 f] w fun e w' => e = .returned (.tuple #[.int .u8 (a), .int .u8 (f / 16 * 16)]) ∧ w = w' := by
  rcases h with h | h
  · go_enter Tryd.func17, Tryd.ntmps17
    go_wp2_with ((with_reducible refine (clean_any _ _ (by omega) (by omega)).mono ?_); rintro e w' ⟨rfl, rfl⟩)
    go_ret2
    exact ⟨rfl, rfl⟩
  · have hn : ¬ op < 0 := by omega
    go_enter Tryd.func17, Tryd.ntmps17
    go_wp2_with ((with_reducible refine (clean_any _ _ (by omega) (by omega)).mono ?_); rintro e w' ⟨rfl, rfl⟩)
    go_ret2
    exact ⟨rfl, rfl⟩

def decBy (a f : Int) : Int := (if f / 16 % 2 = 1 ∨ (f / 64 % 2 = 0 ∧ 153 < a) then 96 else 0) + (if f / 32 % 2 = 1 ∨ (f / 64 % 2 = 0 ∧ 9 < a % 16) then 6 else 0)
def decV (a f : Int) : Int := if f / 64 % 2 = 1 then (a - decBy a f) % 256 else (a + decBy a f) % 256
def decC (a f : Int) : Bool := decide (f / 16 % 2 = 1 ∨ (f / 64 % 2 = 0 ∧ 153 < a))
def decF (a f : Int) : Int := flagsV (decV a f == 0) (decide (f / 64 % 2 = 1)) false (decC a f)
theorem dec_close (a f X : Int) (N C : Bool) (hx : decV a f = X) (hn : decide (f / 64 % 2 = 1) = N) (hc : decC a f = C) :
    Ending.returned (.tuple #[.int .u8 X, .int .u8 (flagsV (X == 0) N false C)]) = .returned (.tuple #[.int .u8 (decV a f), .int .u8 (decF a f)]) := by
  subst hx hn hc
  rfl
theorem decimal_any (a f : Int) (w : World) (a0 : 0 ≤ a) (a1 : a ≤ 255) (f0 : 0 ≤ f) (f1 : f ≤ 255) :
    Calls Tryd.prog 59 #[.int .u8 a, .int .u8 f] w fun e w' => e = .returned (.tuple #[.int .u8 (decV a f), .int .u8 (decF a f)]) ∧ w = w' := by
  have e64 := and64 f f0 f1
  have e32 := and32 f f0 f1
  have e16 := and16 f f0 f1
  rcases (show f / 64 % 2 = 0 ∨ f / 64 % 2 = 1 by omega) with n | n <;> rcases (show f / 32 % 2 = 0 ∨ f / 32 % 2 = 1 by omega) with h | h <;> rcases (show f / 16 % 2 = 0 ∨ f / 16 % 2 = 1 by omega) with c | c
  all_goals
    rw [n] at e64
    rw [h] at e32
    rw [c] at e16
    simp only [Int.zero_mul, Int.one_mul] at e64 e32 e16
    have n' := Lib.hid n
    have h' := Lib.hid h
    have c' := Lib.hid c
    clear n h c
    go_enter Tryd.func59, Tryd.ntmps59
    go_wp2_with (first | ((with_reducible refine (flags_any _ _ _ _ _).mono ?_); rintro e w' ⟨rfl, rfl⟩))
    all_goals
      go_ret2
      have n := n'.out
      have h := h'.out
      have c := c'.out
      refine ⟨dec_close a f _ _ _ ?_ ?_ ?_, rfl⟩
      · unfold decV decBy
        split <;> split <;> split <;> omega
      · simp [n]
      · unfold decC
        simp [n, c]
        try omega
end Go.Proofs.YtpkogmcafgplgaaDoor.AluB

