import Derived.Test.YtpkogmcafgplgaaDoorAluB
namespace Go.Proofs.YtpkogmcafgplgaaDoor.AluC
open Go.RowKit Go.Proofs.YtpkogmcafgplgaaDoor.AluA Go.Proofs.YtpkogmcafgplgaaDoor.AluB
set_option linter.unusedVariables false

theorem andn_128 : ∀ f : Int, 0 ≤ f → f ≤ 255 → bits .andNot .u8 f 128 = f % 128 := of_fin (by decide +kernel)
theorem flagsV_bd (z n h c : Bool) : 0 ≤ flagsV z n h c ∧ flagsV z n h c ≤ 255 := by cases z <;> cases n <;> cases h <;> cases c <;> decide
theorem wraps_u16 (n : Int) (h₀ : 0 ≤ n) (h₁ : n < 2 ^ 16) : IntKind.u16.wrap n = n := by rw [IntKind.wrap_u16]; omega
theorem and4095 (x : Int) (h₀ : 0 ≤ x) (h₁ : x ≤ 65535) : bits .and .u16 x 4095 = x % 4096 := bits_mask .u16 16 (by decide) wraps_u16 12 (by decide) x h₀ (by omega)
theorem half4095 (a b : Int) (h0 : 0 ≤ a) (h1 : a ≤ 65535) (g0 : 0 ≤ b) (g1 : b ≤ 65535) : IntKind.u16.wrap (bits .and .u16 a 4095 + bits .and .u16 b 4095) = a % 4096 + b % 4096 := by
  rw [and4095 a h0 h1, and4095 b g0 g1, IntKind.wrap_u16]
  omega
theorem addword_any (a b f : Int) (w : World) (h0 : 0 ≤ a) (h1 : a ≤ 65535) (g0 : 0 ≤ b) (g1 : b ≤ 65535) (k0 : 0 ≤ f) (k1 : f ≤ 255) :
    Calls Tryd.prog 24 #[.int .u16 a, .int .u16 b, .int .u8 f] w fun e w' => e = .returned (.tuple #[.int .u16 ((a + b) % 65536), .int .u8 (flagsV (f / 128 == 1) false (decide (4095 < a % 4096 + b % 4096)) (decide (65535 < a + b)))]) ∧ w = w' := by
  go_enter Tryd.func24, Tryd.ntmps24
  go_wp2_with (first |  ((with_reducible refine (flags_any _ _ _ _ _).mono ?_); rintro e w' ⟨rfl, rfl⟩))
  go_ret2
  exact ⟨ret2 (IntKind.wrap_u16 _) (by rw [zf_128 f k0 k1, half4095 a b h0 h1 g0 g1]), rfl⟩
theorem sign8 : ∀ b : Int, 0 ≤ b → b ≤ 255 → IntKind.u16.wrap (IntKind.i8.wrap b) = b + b / 128 * 65280 := of_fin (by decide +kernel)
theorem addoff_any (a b : Int) (w : World) (h0 : 0 ≤ a) (h1 : a ≤ 65535) (g0 : 0 ≤ b) (g1 : b ≤ 255) :
    Calls Tryd.prog 26 #[.int .u16 a, .int .u8 b] w fun e w' => e = .returned (.tuple #[.int .u16 ((a + b - b / 128 * 256) % 65536), .int .u8 (flagsV false false (decide (15 < a % 16 + b % 16)) (decide (255 < a % 256 + b)))]) ∧ w = w' := by
  go_enter Tryd.func26, Tryd.ntmps26
  go_wp2_with (first |  ((with_reducible refine (flags_any _ _ _ _ _).mono ?_); rintro e w' ⟨rfl, rfl⟩))
  go_ret2
  exact ⟨ret2 (by rw [sign8 b g0 g1, IntKind.wrap_u16]; omega) rfl, rfl⟩

theorem not_u8 : ∀ a : Int, 0 ≤ a → a ≤ 255 → bits .xor .u8 IntKind.u8.max a = 255 - a := of_fin (by decide +kernel)
theorem cpl_f : ∀ f : Int, 0 ≤ f → f ≤ 255 → bits .or .u8 (bits .or .u8 (bits .and .u8 f 144) 64) 32 = f / 128 * 128 + f / 16 % 2 * 16 + 96 := of_fin (by decide +kernel)
theorem scf_f : ∀ f : Int, 0 ≤ f → f ≤ 255 → bits .or .u8 (bits .and .u8 f 128) 16 = f / 128 * 128 + 16 := of_fin (by decide +kernel)
theorem ccf_f : ∀ f : Int, 0 ≤ f → f ≤ 255 → bits .xor .u8 (bits .and .u8 f 144) 16 = f / 128 * 128 + (1 - f / 16 % 2) * 16 := of_fin (by decide +kernel)

theorem turnC_1 (a f : Int) (w : World) (a0 : 0 ≤ a) (a1 : a ≤ 255) (f0 : 0 ≤ f) (f1 : f ≤ 255) :
    Calls Tryd.prog 60 #[.int .u8 a, .int .u8 f] w fun e w' => e = .returned (.tuple #[.int .u8 (255 - a), .int .u8 (f / 128 * 128 + f / 16 % 2 * 16 + 96)]) ∧ w = w' := by
  go_enter Tryd.func60, Tryd.ntmps60
  go_wp2
  go_ret2
  exact ⟨ret2 (not_u8 a a0 a1) (cpl_f f f0 f1), rfl⟩

theorem turnC_2 (a f : Int) (w : World) (a0 : 0 ≤ a) (a1 : a ≤ 255) (f0 : 0 ≤ f) (f1 : f ≤ 255) :
    Calls Tryd.prog 61 #[.int .u8 a, .int .u8 f] w fun e w' => e = .returned (.tuple #[.int .u8 (a), .int .u8 (f / 128 * 128 + 16)]) ∧ w = w' := by
  go_enter Tryd.func61, Tryd.ntmps61
  go_wp2
  go_ret2
  exact ⟨ret2 rfl (scf_f f f0 f1), rfl⟩

theorem turnC_3 (a f : Int) (w : World) (a0 : 0 ≤ a) (a1 : a ≤ 255) (f0 : 0 ≤ f) (f1 : f ≤ 255) :
    Calls Tryd.prog 62 #[.int .u8 a, .int .u8 f] w fun e w' => e = .returned (.tuple #[.int .u8 (a), .int .u8 (f / 128 * 128 + (1 - f / 16 % 2) * 16)]) ∧ w = w' := by
  go_enter Tryd.func62, Tryd.ntmps62
  go_wp2
  go_ret2
  exact ⟨ret2 rfl (ccf_f f f0 f1), rfl⟩

theorem turn_0 (a f : Int) (w : World) (a0 : 0 ≤ a) (a1 : a ≤ 255) (f0 : 0 ≤ f) (f1 : f ≤ 255) :
    Calls Tryd.prog 19 #[.int .i64 0, .int .u8 a, .int .u8 f] w fun e w' => e = .returned (.tuple #[.int .u8 (a * 2 % 256 + a / 128), .int .u8 ((flagsV (a * 2 % 256 + a / 128 == 0) false false (a / 128 != 0)) % 128)]) ∧ w = w' := by
  go_enter Tryd.func19, Tryd.ntmps19
  go_wp2_with (first | ((with_reducible refine (shift_0 _ _ _ (by omega) (by omega) (by omega) (by omega)).mono ?_); rintro e w' ⟨rfl, rfl⟩))
  go_ret2
  exact ⟨ret2 rfl (andn_128 _ (flagsV_bd _ _ _ _).1 (flagsV_bd _ _ _ _).2), rfl⟩

theorem turn_1 (a f : Int) (w : World) (a0 : 0 ≤ a) (a1 : a ≤ 255) (f0 : 0 ≤ f) (f1 : f ≤ 255) :
    Calls Tryd.prog 19 #[.int .i64 1, .int .u8 a, .int .u8 f] w fun e w' => e = .returned (.tuple #[.int .u8 (a / 2 + a % 2 * 128), .int .u8 ((flagsV (a / 2 + a % 2 * 128 == 0) false false (a % 2 != 0)) % 128)]) ∧ w = w' := by
  go_enter Tryd.func19, Tryd.ntmps19
  go_wp2_with (first | ((with_reducible refine (shift_1 _ _ _ (by omega) (by omega) (by omega) (by omega)).mono ?_); rintro e w' ⟨rfl, rfl⟩))
  go_ret2
  exact ⟨ret2 rfl (andn_128 _ (flagsV_bd _ _ _ _).1 (flagsV_bd _ _ _ _).2), rfl⟩

theorem turn_2 (a f : Int) (w : World) (a0 : 0 ≤ a) (a1 : a ≤ 255) (f0 : 0 ≤ f) (f1 : f ≤ 255) :
    Calls Tryd.prog 19 #[.int .i64 2, .int .u8 a, .int .u8 f] w fun e w' => e = .returned (.tuple #[.int .u8 (a * 2 % 256 + f / 16 % 2), .int .u8 ((flagsV (a * 2 % 256 + f / 16 % 2 == 0) false false (a / 128 != 0)) % 128)]) ∧ w = w' := by
  go_enter Tryd.func19, Tryd.ntmps19
  go_wp2_with (first | ((with_reducible refine (shift_2 _ _ _ (by omega) (by omega) (by omega) (by omega)).mono ?_); rintro e w' ⟨rfl, rfl⟩))
  go_ret2
  exact ⟨ret2 rfl (andn_128 _ (flagsV_bd _ _ _ _).1 (flagsV_bd _ _ _ _).2), rfl⟩

theorem turn_3 (a f : Int) (w : World) (a0 : 0 ≤ a) (a1 : a ≤ 255) (f0 : 0 ≤ f) (f1 : f ≤ 255) :
    Calls Tryd.prog 19 #[.int .i64 3, .int .u8 a, .int .u8 f] w fun e w' => e = .returned (.tuple #[.int .u8 (a / 2 + f / 16 % 2 * 128), .int .u8 ((flagsV (a / 2 + f / 16 % 2 * 128 == 0) false false (a % 2 != 0)) % 128)]) ∧ w = w' := by
  go_enter Tryd.func19, Tryd.ntmps19
  go_wp2_with (first | ((with_reducible refine (shift_3 _ _ _ (by omega) (by omega) (by omega) (by omega)).mono ?_); rintro e w' ⟨rfl, rfl⟩))
  go_ret2
  exact ⟨ret2 rfl (andn_128 _ (flagsV_bd _ _ _ _).1 (flagsV_bd _ _ _ _).2), rfl⟩

theorem turn_4 (a f : Int) (w : World) (a0 : 0 ≤ a) (a1 : a ≤ 255) (f0 : 0 ≤ f) (f1 : f ≤ 255) :
    Calls Tryd.prog 19 #[.int .i64 4, .int .u8 a, .int .u8 f] w fun e w' => e = .returned (.tuple #[.int .u8 (decV a f), .int .u8 (decF a f)]) ∧ w = w' := by
  go_enter Tryd.func19, Tryd.ntmps19
  go_wp2_with (first | ((with_reducible refine (turnT_0 _).mono ?_); rintro e w' ⟨rfl, rfl⟩) | ((with_reducible refine (decimal_any _ _ _ (by omega) (by omega) (by omega) (by omega)).mono ?_); rintro e w' ⟨rfl, rfl⟩))
  go_ret2
  exact ⟨rfl, rfl⟩

theorem turn_5 (a f : Int) (w : World) (a0 : 0 ≤ a) (a1 : a ≤ 255) (f0 : 0 ≤ f) (f1 : f ≤ 255) :
    Calls Tryd.prog 19 #[.int .i64 5, .int .u8 a, .int .u8 f] w fun e w' => e = .returned (.tuple #[.int .u8 (255 - a), .int .u8 (f / 128 * 128 + f / 16 % 2 * 16 + 96)]) ∧ w = w' := by
  go_enter Tryd.func19, Tryd.ntmps19
  go_wp2_with (first | ((with_reducible refine (turnT_1 _).mono ?_); rintro e w' ⟨rfl, rfl⟩) | ((with_reducible refine (turnC_1 _ _ _ (by omega) (by omega) (by omega) (by omega)).mono ?_); rintro e w' ⟨rfl, rfl⟩))
  go_ret2
  exact ⟨rfl, rfl⟩

theorem turn_6 (a f : Int) (w : World) (a0 : 0 ≤ a) (a1 : a ≤ 255) (f0 : 0 ≤ f) (f1 : f ≤ 255) :
    Calls Tryd.prog 19 #[.int .i64 6, .int .u8 a, .int .u8 f] w fun e w' => e = .returned (.tuple #[.int .u8 (a), .int .u8 (f / 128 * 128 + 16)]) ∧ w = w' := by
  go_enter Tryd.func19, Tryd.ntmps19
  go_wp2_with (first | ((with_reducible refine (turnT_2 _).mono ?_); rintro e w' ⟨rfl, rfl⟩) | ((with_reducible refine (turnC_2 _ _ _ (by omega) (by omega) (by omega) (by omega)).mono ?_); rintro e w' ⟨rfl, rfl⟩))
  go_ret2
  exact ⟨rfl, rfl⟩

theorem turn_7 (a f : Int) (w : World) (a0 : 0 ≤ a) (a1 : a ≤ 255) (f0 : 0 ≤ f) (f1 : f ≤ 255) :
    Calls Tryd.prog 19 #[.int .i64 7, .int .u8 a, .int .u8 f] w fun e w' => e = .returned (.tuple #[.int .u8 (a), .int .u8 (f / 128 * 128 + (1 - f / 16 % 2) * 16)]) ∧ w = w' := by
  go_enter Tryd.func19, Tryd.ntmps19
  go_wp2_with (first | ((with_reducible refine (turnT_3 _).mono ?_); rintro e w' ⟨rfl, rfl⟩) | ((with_reducible refine (turnC_3 _ _ _ (by omega) (by omega) (by omega) (by omega)).mono ?_); rintro e w' ⟨rfl, rfl⟩))
  go_ret2
  exact ⟨rfl, rfl⟩

theorem turn_no (op a f : Int) (w : World) (h : op < 0 ∨ 8 ≤ op) (a0 : 0 ≤ a) (a1 : a ≤ 255) (f0 : 0 ≤ f) (f1 : f ≤ 255) :
    Calls Tryd.prog 19 #[.int .i64 op, .int .u8 a, .int .u8 f] w fun e w' => e = .returned (.tuple #[.int .u8 (a), .int .u8 (f / 16 * 16)]) ∧ w = w' := by
  rcases h with h | h
  · go_enter Tryd.func19, Tryd.ntmps19
    go_wp2_with ((with_reducible refine (clean_any _ _ (by omega) (by omega)).mono ?_); rintro e w' ⟨rfl, rfl⟩)
    go_ret2
    exact ⟨rfl, rfl⟩
  · have hn : ¬ op < 0 := by omega
    have hm : ¬ op < 4 := by omega
    have hk : 0 ≤ op := by omega
    have hl : 4 ≤ op := by omega
    go_enter Tryd.func19, Tryd.ntmps19
    go_wp2_with ((with_reducible refine (clean_any _ _ (by omega) (by omega)).mono ?_); rintro e w' ⟨rfl, rfl⟩)
    go_ret2
    exact ⟨rfl, rfl⟩

def arithV (op a b f : Int) : Int := if op = 0 then sumV a b 0 else if op = 1 then sumV a b (f / 16 % 2) else if op = 2 then difV a b 0 else if op = 3 then difV a b (f / 16 % 2) else if op = 4 then bits .and .u8 a b else if op = 5 then bits .xor .u8 a b else if op = 6 then bits .or .u8 a b else if op = 7 then a else a
def arithF (op a b f : Int) : Int := if op = 0 then sumF a b 0 else if op = 1 then sumF a b (f / 16 % 2) else if op = 2 then difF a b 0 else if op = 3 then difF a b (f / 16 % 2) else if op = 4 then flagsV (bits .and .u8 a b == 0) false true false else if op = 5 then flagsV (bits .xor .u8 a b == 0) false false false else if op = 6 then flagsV (bits .or .u8 a b == 0) false false false else if op = 7 then difF a b 0 else f / 16 * 16
theorem arith_any (op a b f : Int) (w : World) (a0 : 0 ≤ a) (a1 : a ≤ 255) (b0 : 0 ≤ b) (b1 : b ≤ 255) (f0 : 0 ≤ f) (f1 : f ≤ 255) :
    Calls Tryd.prog 13 #[.int .i64 op, .int .u8 a, .int .u8 b, .int .u8 f] w fun e w' => e = .returned (.tuple #[.int .u8 (arithV op a b f), .int .u8 (arithF op a b f)]) ∧ w = w' := by
  by_cases h : op < 0 ∨ 8 ≤ op
  · refine (arith_no op a b f w h a0 a1 b0 b1 f0 f1).mono ?_
    rintro e w' ⟨rfl, rfl⟩
    refine ⟨ret2 ?_ ?_, rfl⟩
    · unfold arithV; repeat rw [if_neg (by omega)]
    · unfold arithF; repeat rw [if_neg (by omega)]
  · rcases (show op = 0 ∨ op = 1 ∨ op = 2 ∨ op = 3 ∨ op = 4 ∨ op = 5 ∨ op = 6 ∨ op = 7 by omega) with rfl | rfl | rfl | rfl | rfl | rfl | rfl | rfl
    · exact arith_0 a b f w a0 a1 b0 b1 f0 f1
    · exact arith_1 a b f w a0 a1 b0 b1 f0 f1
    · exact arith_2 a b f w a0 a1 b0 b1 f0 f1
    · exact arith_3 a b f w a0 a1 b0 b1 f0 f1
    · exact arith_4 a b f w a0 a1 b0 b1 f0 f1
    · exact arith_5 a b f w a0 a1 b0 b1 f0 f1
    · exact arith_6 a b f w a0 a1 b0 b1 f0 f1
    · exact arith_7 a b f w a0 a1 b0 b1 f0 f1

def stepV (op a f : Int) : Int := if op = 0 then (a + 1) % 256 else if op = 1 then (a - 1) % 256 else a
def stepF (op a f : Int) : Int := if op = 0 then flagsV ((a + 1) % 256 == 0) false ((a + 1) % 16 == 0) (f / 16 % 2 == 1) else if op = 1 then flagsV ((a - 1) % 256 == 0) true ((a - 1) % 16 == 15) (f / 16 % 2 == 1) else f / 16 * 16
theorem step_any (op a f : Int) (w : World) (a0 : 0 ≤ a) (a1 : a ≤ 255) (f0 : 0 ≤ f) (f1 : f ≤ 255) :
    Calls Tryd.prog 15 #[.int .i64 op, .int .u8 a, .int .u8 f] w fun e w' => e = .returned (.tuple #[.int .u8 (stepV op a f), .int .u8 (stepF op a f)]) ∧ w = w' := by
  by_cases h : op < 0 ∨ 2 ≤ op
  · refine (step_no op a f w h a0 a1 f0 f1).mono ?_
    rintro e w' ⟨rfl, rfl⟩
    refine ⟨ret2 ?_ ?_, rfl⟩
    · unfold stepV; repeat rw [if_neg (by omega)]
    · unfold stepF; repeat rw [if_neg (by omega)]
  · rcases (show op = 0 ∨ op = 1 by omega) with rfl | rfl
    · exact step_0 a f w a0 a1 f0 f1
    · exact step_1 a f w a0 a1 f0 f1

def shiftV (op a f : Int) : Int := if op = 0 then a * 2 % 256 + a / 128 else if op = 1 then a / 2 + a % 2 * 128 else if op = 2 then a * 2 % 256 + f / 16 % 2 else if op = 3 then a / 2 + f / 16 % 2 * 128 else if op = 4 then a * 2 % 256 else if op = 5 then a / 2 + a / 128 * 128 else if op = 6 then a % 16 * 16 + a / 16 else if op = 7 then a / 2 else a
def shiftF (op a f : Int) : Int := if op = 0 then flagsV (a * 2 % 256 + a / 128 == 0) false false (a / 128 != 0) else if op = 1 then flagsV (a / 2 + a % 2 * 128 == 0) false false (a % 2 != 0) else if op = 2 then flagsV (a * 2 % 256 + f / 16 % 2 == 0) false false (a / 128 != 0) else if op = 3 then flagsV (a / 2 + f / 16 % 2 * 128 == 0) false false (a % 2 != 0) else if op = 4 then flagsV (a * 2 % 256 == 0) false false (a / 128 != 0) else if op = 5 then flagsV (a / 2 + a / 128 * 128 == 0) false false (a % 2 != 0) else if op = 6 then flagsV (a % 16 * 16 + a / 16 == 0) false false (0 != 0) else if op = 7 then flagsV (a / 2 == 0) false false (a % 2 != 0) else f / 16 * 16
theorem shift_any (op a f : Int) (w : World) (a0 : 0 ≤ a) (a1 : a ≤ 255) (f0 : 0 ≤ f) (f1 : f ≤ 255) :
    Calls Tryd.prog 17 #[.int .i64 op, .int .u8 a, .int .u8 f] w fun e w' => e = .returned (.tuple #[.int .u8 (shiftV op a f), .int .u8 (shiftF op a f)]) ∧ w = w' := by
  by_cases h : op < 0 ∨ 8 ≤ op
  · refine (shift_no op a f w h a0 a1 f0 f1).mono ?_
    rintro e w' ⟨rfl, rfl⟩
    refine ⟨ret2 ?_ ?_, rfl⟩
    · unfold shiftV; repeat rw [if_neg (by omega)]
    · unfold shiftF; repeat rw [if_neg (by omega)]
  · rcases (show op = 0 ∨ op = 1 ∨ op = 2 ∨ op = 3 ∨ op = 4 ∨ op = 5 ∨ op = 6 ∨ op = 7 by omega) with rfl | rfl | rfl | rfl | rfl | rfl | rfl | rfl
    · exact shift_0 a f w a0 a1 f0 f1
    · exact shift_1 a f w a0 a1 f0 f1
    · exact shift_2 a f w a0 a1 f0 f1
    · exact shift_3 a f w a0 a1 f0 f1
    · exact shift_4 a f w a0 a1 f0 f1
    · exact shift_5 a f w a0 a1 f0 f1
    · exact shift_6 a f w a0 a1 f0 f1
    · exact shift_7 a f w a0 a1 f0 f1

def turnV (op a f : Int) : Int := if op = 0 then a * 2 % 256 + a / 128 else if op = 1 then a / 2 + a % 2 * 128 else if op = 2 then a * 2 % 256 + f / 16 % 2 else if op = 3 then a / 2 + f / 16 % 2 * 128 else if op = 4 then decV a f else if op = 5 then 255 - a else if op = 6 then a else if op = 7 then a else a
def turnF (op a f : Int) : Int := if op = 0 then (flagsV (a * 2 % 256 + a / 128 == 0) false false (a / 128 != 0)) % 128 else if op = 1 then (flagsV (a / 2 + a % 2 * 128 == 0) false false (a % 2 != 0)) % 128 else if op = 2 then (flagsV (a * 2 % 256 + f / 16 % 2 == 0) false false (a / 128 != 0)) % 128 else if op = 3 then (flagsV (a / 2 + f / 16 % 2 * 128 == 0) false false (a % 2 != 0)) % 128 else if op = 4 then decF a f else if op = 5 then f / 128 * 128 + f / 16 % 2 * 16 + 96 else if op = 6 then f / 128 * 128 + 16 else if op = 7 then f / 128 * 128 + (1 - f / 16 % 2) * 16 else f / 16 * 16
theorem turn_any (op a f : Int) (w : World) (a0 : 0 ≤ a) (a1 : a ≤ 255) (f0 : 0 ≤ f) (f1 : f ≤ 255) :
    Calls Tryd.prog 19 #[.int .i64 op, .int .u8 a, .int .u8 f] w fun e w' => e = .returned (.tuple #[.int .u8 (turnV op a f), .int .u8 (turnF op a f)]) ∧ w = w' := by
  by_cases h : op < 0 ∨ 8 ≤ op
  · refine (turn_no op a f w h a0 a1 f0 f1).mono ?_
    rintro e w' ⟨rfl, rfl⟩
    refine ⟨ret2 ?_ ?_, rfl⟩
    · unfold turnV; repeat rw [if_neg (by omega)]
    · unfold turnF; repeat rw [if_neg (by omega)]
  · rcases (show op = 0 ∨ op = 1 ∨ op = 2 ∨ op = 3 ∨ op = 4 ∨ op = 5 ∨ op = 6 ∨ op = 7 by omega) with rfl | rfl | rfl | rfl | rfl | rfl | rfl | rfl
    · exact turn_0 a f w a0 a1 f0 f1
    · exact turn_1 a f w a0 a1 f0 f1
    · exact turn_2 a f w a0 a1 f0 f1
    · exact turn_3 a f w a0 a1 f0 f1
    · exact turn_4 a f w a0 a1 f0 f1
    · exact turn_5 a f w a0 a1 f0 f1
    · exact turn_6 a f w a0 a1 f0 f1
    · exact turn_7 a f w a0 a1 f0 f1

theorem bits_bd (o : BinOp) (a b : Int) : 0 ≤ bits o .u8 a b ∧ bits o .u8 a b ≤ 255 := by
  cases o <;> simp only [bits, IntKind.wrap_u8] <;> omega
theorem cfl_bd (f : Int) : 0 ≤ f / 16 % 2 ∧ f / 16 % 2 ≤ 1 := by omega
theorem arith_bd (op a b f : Int) (a0 : 0 ≤ a) (a1 : a ≤ 255) (b0 : 0 ≤ b) (b1 : b ≤ 255) (f0 : 0 ≤ f) (f1 : f ≤ 255) : 0 ≤ arithV op a b f ∧ arithV op a b f ≤ 255 ∧ 0 ≤ arithF op a b f ∧ arithF op a b f ≤ 255 := by
  have hV : 0 ≤ arithV op a b f ∧ arithV op a b f ≤ 255 := by
    have := bits_bd .and a b
    have := bits_bd .or a b
    have := bits_bd .xor a b
    unfold arithV sumV difV
    repeat' split
    all_goals omega
  have hF : 0 ≤ arithF op a b f ∧ arithF op a b f ≤ 255 := by
    unfold arithF sumF difF
    repeat' split
    all_goals first | exact flagsV_bd _ _ _ _ | omega
  exact ⟨hV.1, hV.2, hF.1, hF.2⟩
theorem arith_all (op a b f : Int) (w : World) (a0 : 0 ≤ a) (a1 : a ≤ 255) (b0 : 0 ≤ b) (b1 : b ≤ 255) (f0 : 0 ≤ f) (f1 : f ≤ 255) :
    Calls Tryd.prog 13 #[.int .i64 op, .int .u8 a, .int .u8 b, .int .u8 f] w fun e w' => e = .returned (.tuple #[.int .u8 (arithV op a b f), .int .u8 (arithF op a b f)]) ∧ (0 ≤ arithV op a b f ∧ arithV op a b f ≤ 255 ∧ 0 ≤ arithF op a b f ∧ arithF op a b f ≤ 255) ∧ w = w' :=
  (arith_any op a b f w a0 a1 b0 b1 f0 f1).mono fun _ _ ⟨h, g⟩ => ⟨h, arith_bd op a b f a0 a1 b0 b1 f0 f1, g⟩

theorem step_bd (op a f : Int) (a0 : 0 ≤ a) (a1 : a ≤ 255) (f0 : 0 ≤ f) (f1 : f ≤ 255) : 0 ≤ stepV op a f ∧ stepV op a f ≤ 255 ∧ 0 ≤ stepF op a f ∧ stepF op a f ≤ 255 := by
  have hV : 0 ≤ stepV op a f ∧ stepV op a f ≤ 255 := by
    unfold stepV 
    repeat' split
    all_goals omega
  have hF : 0 ≤ stepF op a f ∧ stepF op a f ≤ 255 := by
    unfold stepF 
    repeat' split
    all_goals first | exact flagsV_bd _ _ _ _ | omega
  exact ⟨hV.1, hV.2, hF.1, hF.2⟩
theorem step_all (op a f : Int) (w : World) (a0 : 0 ≤ a) (a1 : a ≤ 255) (f0 : 0 ≤ f) (f1 : f ≤ 255) :
    Calls Tryd.prog 15 #[.int .i64 op, .int .u8 a, .int .u8 f] w fun e w' => e = .returned (.tuple #[.int .u8 (stepV op a f), .int .u8 (stepF op a f)]) ∧ (0 ≤ stepV op a f ∧ stepV op a f ≤ 255 ∧ 0 ≤ stepF op a f ∧ stepF op a f ≤ 255) ∧ w = w' :=
  (step_any op a f w a0 a1 f0 f1).mono fun _ _ ⟨h, g⟩ => ⟨h, step_bd op a f a0 a1 f0 f1, g⟩

theorem shift_bd (op a f : Int) (a0 : 0 ≤ a) (a1 : a ≤ 255) (f0 : 0 ≤ f) (f1 : f ≤ 255) : 0 ≤ shiftV op a f ∧ shiftV op a f ≤ 255 ∧ 0 ≤ shiftF op a f ∧ shiftF op a f ≤ 255 := by
  have hV : 0 ≤ shiftV op a f ∧ shiftV op a f ≤ 255 := by
    unfold shiftV 
    repeat' split
    all_goals omega
  have hF : 0 ≤ shiftF op a f ∧ shiftF op a f ≤ 255 := by
    unfold shiftF 
    repeat' split
    all_goals first | exact flagsV_bd _ _ _ _ | omega
  exact ⟨hV.1, hV.2, hF.1, hF.2⟩
theorem shift_all (op a f : Int) (w : World) (a0 : 0 ≤ a) (a1 : a ≤ 255) (f0 : 0 ≤ f) (f1 : f ≤ 255) :
    Calls Tryd.prog 17 #[.int .i64 op, .int .u8 a, .int .u8 f] w fun e w' => e = .returned (.tuple #[.int .u8 (shiftV op a f), .int .u8 (shiftF op a f)]) ∧ (0 ≤ shiftV op a f ∧ shiftV op a f ≤ 255 ∧ 0 ≤ shiftF op a f ∧ shiftF op a f ≤ 255) ∧ w = w' :=
  (shift_any op a f w a0 a1 f0 f1).mono fun _ _ ⟨h, g⟩ => ⟨h, shift_bd op a f a0 a1 f0 f1, g⟩

theorem turn_bd (op a f : Int) (a0 : 0 ≤ a) (a1 : a ≤ 255) (f0 : 0 ≤ f) (f1 : f ≤ 255) : 0 ≤ turnV op a f ∧ turnV op a f ≤ 255 ∧ 0 ≤ turnF op a f ∧ turnF op a f ≤ 255 := by
  have hV : 0 ≤ turnV op a f ∧ turnV op a f ≤ 255 := by
    unfold turnV decV
    repeat' split
    all_goals omega
  have hF : 0 ≤ turnF op a f ∧ turnF op a f ≤ 255 := by
    unfold turnF decF
    repeat' split
    all_goals first | exact flagsV_bd _ _ _ _ | omega
  exact ⟨hV.1, hV.2, hF.1, hF.2⟩
theorem turn_all (op a f : Int) (w : World) (a0 : 0 ≤ a) (a1 : a ≤ 255) (f0 : 0 ≤ f) (f1 : f ≤ 255) :
    Calls Tryd.prog 19 #[.int .i64 op, .int .u8 a, .int .u8 f] w fun e w' => e = .returned (.tuple #[.int .u8 (turnV op a f), .int .u8 (turnF op a f)]) ∧ (0 ≤ turnV op a f ∧ turnV op a f ≤ 255 ∧ 0 ≤ turnF op a f ∧ turnF op a f ≤ 255) ∧ w = w' :=
  (turn_any op a f w a0 a1 f0 f1).mono fun _ _ ⟨h, g⟩ => ⟨h, turn_bd op a f a0 a1 f0 f1, g⟩
end Go.Proofs.YtpkogmcafgplgaaDoor.AluC

