import Derived.Test.YtpkogmcafgplgaaDoorProg
import Derived.WalkKit
import Derived.ProofKit
import Derived.OpenShut
import Derived.Outline
import Derived.Handy
import Derived.WalkLawsBesides
import Derived.Laws.BitsLemmas
import Derived.Lib.Hide
namespace Go.Proofs.YtpkogmcafgplgaaDoor.AluA
open Go.RowKit

theorem idx4_0 (z n h c : Bool) (w : World) : (Instr.index 42 (.agg #[.bool z, .bool n, .bool h, .bool c]) (.int .i64 0)).run Tryd.prog w = .ok (.bool z) w := by kernel_rfl
theorem idx4_1 (z n h c : Bool) (w : World) : (Instr.index 42 (.agg #[.bool z, .bool n, .bool h, .bool c]) (.int .i64 1)).run Tryd.prog w = .ok (.bool n) w := by kernel_rfl
theorem idx4_2 (z n h c : Bool) (w : World) : (Instr.index 42 (.agg #[.bool z, .bool n, .bool h, .bool c]) (.int .i64 2)).run Tryd.prog w = .ok (.bool h) w := by kernel_rfl
theorem idx4_3 (z n h c : Bool) (w : World) : (Instr.index 42 (.agg #[.bool z, .bool n, .bool h, .bool c]) (.int .i64 3)).run Tryd.prog w = .ok (.bool c) w := by kernel_rfl
theorem idxA_0 (w : World) : (Instr.index 58 (.agg #[.func (Fn.func 40) #[] #[], .func (Fn.func 42) #[] #[], .func (Fn.func 43) #[] #[], .func (Fn.func 45) #[] #[], .func (Fn.func 46) #[] #[], .func (Fn.func 48) #[] #[], .func (Fn.func 49) #[] #[], .func (Fn.func 50) #[] #[]]) (.int .i64 0)).run Tryd.prog w = .ok (.func (Fn.func 40) #[] #[]) w := by kernel_rfl
theorem idxA_1 (w : World) : (Instr.index 58 (.agg #[.func (Fn.func 40) #[] #[], .func (Fn.func 42) #[] #[], .func (Fn.func 43) #[] #[], .func (Fn.func 45) #[] #[], .func (Fn.func 46) #[] #[], .func (Fn.func 48) #[] #[], .func (Fn.func 49) #[] #[], .func (Fn.func 50) #[] #[]]) (.int .i64 1)).run Tryd.prog w = .ok (.func (Fn.func 42) #[] #[]) w := by kernel_rfl
theorem idxA_2 (w : World) : (Instr.index 58 (.agg #[.func (Fn.func 40) #[] #[], .func (Fn.func 42) #[] #[], .func (Fn.func 43) #[] #[], .func (Fn.func 45) #[] #[], .func (Fn.func 46) #[] #[], .func (Fn.func 48) #[] #[], .func (Fn.func 49) #[] #[], .func (Fn.func 50) #[] #[]]) (.int .i64 2)).run Tryd.prog w = .ok (.func (Fn.func 43) #[] #[]) w := by kernel_rfl
theorem idxA_3 (w : World) : (Instr.index 58 (.agg #[.func (Fn.func 40) #[] #[], .func (Fn.func 42) #[] #[], .func (Fn.func 43) #[] #[], .func (Fn.func 45) #[] #[], .func (Fn.func 46) #[] #[], .func (Fn.func 48) #[] #[], .func (Fn.func 49) #[] #[], .func (Fn.func 50) #[] #[]]) (.int .i64 3)).run Tryd.prog w = .ok (.func (Fn.func 45) #[] #[]) w := by kernel_rfl
theorem idxA_4 (w : World) : (Instr.index 58 (.agg #[.func (Fn.func 40) #[] #[], .func (Fn.func 42) #[] #[], .func (Fn.func 43) #[] #[], .func (Fn.func 45) #[] #[], .func (Fn.func 46) #[] #[], .func (Fn.func 48) #[] #[], .func (Fn.func 49) #[] #[], .func (Fn.func 50) #[] #[]]) (.int .i64 4)).run Tryd.prog w = .ok (.func (Fn.func 46) #[] #[]) w := by kernel_rfl
theorem idxA_5 (w : World) : (Instr.index 58 (.agg #[.func (Fn.func 40) #[] #[], .func (Fn.func 42) #[] #[], .func (Fn.func 43) #[] #[], .func (Fn.func 45) #[] #[], .func (Fn.func 46) #[] #[], .func (Fn.func 48) #[] #[], .func (Fn.func 49) #[] #[], .func (Fn.func 50) #[] #[]]) (.int .i64 5)).run Tryd.prog w = .ok (.func (Fn.func 48) #[] #[]) w := by kernel_rfl
theorem idxA_6 (w : World) : (Instr.index 58 (.agg #[.func (Fn.func 40) #[] #[], .func (Fn.func 42) #[] #[], .func (Fn.func 43) #[] #[], .func (Fn.func 45) #[] #[], .func (Fn.func 46) #[] #[], .func (Fn.func 48) #[] #[], .func (Fn.func 49) #[] #[], .func (Fn.func 50) #[] #[]]) (.int .i64 6)).run Tryd.prog w = .ok (.func (Fn.func 49) #[] #[]) w := by kernel_rfl
theorem idxA_7 (w : World) : (Instr.index 58 (.agg #[.func (Fn.func 40) #[] #[], .func (Fn.func 42) #[] #[], .func (Fn.func 43) #[] #[], .func (Fn.func 45) #[] #[], .func (Fn.func 46) #[] #[], .func (Fn.func 48) #[] #[], .func (Fn.func 49) #[] #[], .func (Fn.func 50) #[] #[]]) (.int .i64 7)).run Tryd.prog w = .ok (.func (Fn.func 50) #[] #[]) w := by kernel_rfl
theorem idxS_0 (w : World) : (Instr.index 60 (.agg #[.func (Fn.func 51) #[] #[], .func (Fn.func 52) #[] #[], .func (Fn.func 53) #[] #[], .func (Fn.func 54) #[] #[], .func (Fn.func 55) #[] #[], .func (Fn.func 56) #[] #[], .func (Fn.func 57) #[] #[], .func (Fn.func 58) #[] #[]]) (.int .i64 0)).run Tryd.prog w = .ok (.func (Fn.func 51) #[] #[]) w := by kernel_rfl
theorem idxS_1 (w : World) : (Instr.index 60 (.agg #[.func (Fn.func 51) #[] #[], .func (Fn.func 52) #[] #[], .func (Fn.func 53) #[] #[], .func (Fn.func 54) #[] #[], .func (Fn.func 55) #[] #[], .func (Fn.func 56) #[] #[], .func (Fn.func 57) #[] #[], .func (Fn.func 58) #[] #[]]) (.int .i64 1)).run Tryd.prog w = .ok (.func (Fn.func 52) #[] #[]) w := by kernel_rfl
theorem idxS_2 (w : World) : (Instr.index 60 (.agg #[.func (Fn.func 51) #[] #[], .func (Fn.func 52) #[] #[], .func (Fn.func 53) #[] #[], .func (Fn.func 54) #[] #[], .func (Fn.func 55) #[] #[], .func (Fn.func 56) #[] #[], .func (Fn.func 57) #[] #[], .func (Fn.func 58) #[] #[]]) (.int .i64 2)).run Tryd.prog w = .ok (.func (Fn.func 53) #[] #[]) w := by kernel_rfl
theorem idxS_3 (w : World) : (Instr.index 60 (.agg #[.func (Fn.func 51) #[] #[], .func (Fn.func 52) #[] #[], .func (Fn.func 53) #[] #[], .func (Fn.func 54) #[] #[], .func (Fn.func 55) #[] #[], .func (Fn.func 56) #[] #[], .func (Fn.func 57) #[] #[], .func (Fn.func 58) #[] #[]]) (.int .i64 3)).run Tryd.prog w = .ok (.func (Fn.func 54) #[] #[]) w := by kernel_rfl
theorem idxS_4 (w : World) : (Instr.index 60 (.agg #[.func (Fn.func 51) #[] #[], .func (Fn.func 52) #[] #[], .func (Fn.func 53) #[] #[], .func (Fn.func 54) #[] #[], .func (Fn.func 55) #[] #[], .func (Fn.func 56) #[] #[], .func (Fn.func 57) #[] #[], .func (Fn.func 58) #[] #[]]) (.int .i64 4)).run Tryd.prog w = .ok (.func (Fn.func 55) #[] #[]) w := by kernel_rfl
theorem idxS_5 (w : World) : (Instr.index 60 (.agg #[.func (Fn.func 51) #[] #[], .func (Fn.func 52) #[] #[], .func (Fn.func 53) #[] #[], .func (Fn.func 54) #[] #[], .func (Fn.func 55) #[] #[], .func (Fn.func 56) #[] #[], .func (Fn.func 57) #[] #[], .func (Fn.func 58) #[] #[]]) (.int .i64 5)).run Tryd.prog w = .ok (.func (Fn.func 56) #[] #[]) w := by kernel_rfl
theorem idxS_6 (w : World) : (Instr.index 60 (.agg #[.func (Fn.func 51) #[] #[], .func (Fn.func 52) #[] #[], .func (Fn.func 53) #[] #[], .func (Fn.func 54) #[] #[], .func (Fn.func 55) #[] #[], .func (Fn.func 56) #[] #[], .func (Fn.func 57) #[] #[], .func (Fn.func 58) #[] #[]]) (.int .i64 6)).run Tryd.prog w = .ok (.func (Fn.func 57) #[] #[]) w := by kernel_rfl
theorem idxS_7 (w : World) : (Instr.index 60 (.agg #[.func (Fn.func 51) #[] #[], .func (Fn.func 52) #[] #[], .func (Fn.func 53) #[] #[], .func (Fn.func 54) #[] #[], .func (Fn.func 55) #[] #[], .func (Fn.func 56) #[] #[], .func (Fn.func 57) #[] #[], .func (Fn.func 58) #[] #[]]) (.int .i64 7)).run Tryd.prog w = .ok (.func (Fn.func 58) #[] #[]) w := by kernel_rfl
theorem idxT_0 (w : World) : (Instr.index 61 (.agg #[.func (Fn.func 59) #[] #[], .func (Fn.func 60) #[] #[], .func (Fn.func 61) #[] #[], .func (Fn.func 62) #[] #[]]) (.int .i64 0)).run Tryd.prog w = .ok (.func (Fn.func 59) #[] #[]) w := by kernel_rfl
theorem idxT_1 (w : World) : (Instr.index 61 (.agg #[.func (Fn.func 59) #[] #[], .func (Fn.func 60) #[] #[], .func (Fn.func 61) #[] #[], .func (Fn.func 62) #[] #[]]) (.int .i64 1)).run Tryd.prog w = .ok (.func (Fn.func 60) #[] #[]) w := by kernel_rfl
theorem idxT_2 (w : World) : (Instr.index 61 (.agg #[.func (Fn.func 59) #[] #[], .func (Fn.func 60) #[] #[], .func (Fn.func 61) #[] #[], .func (Fn.func 62) #[] #[]]) (.int .i64 2)).run Tryd.prog w = .ok (.func (Fn.func 61) #[] #[]) w := by kernel_rfl
theorem idxT_3 (w : World) : (Instr.index 61 (.agg #[.func (Fn.func 59) #[] #[], .func (Fn.func 60) #[] #[], .func (Fn.func 61) #[] #[], .func (Fn.func 62) #[] #[]]) (.int .i64 3)).run Tryd.prog w = .ok (.func (Fn.func 62) #[] #[]) w := by kernel_rfl

attribute [local go_sem] idx4_0 idx4_1 idx4_2 idx4_3

theorem of_fin {p : Int → Prop} (h : ∀ n : Fin 256, p (n.val : Int)) (x : Int) (h0 : 0 ≤ x) (h1 : x ≤ 255) : p x := by
  obtain ⟨n, rfl⟩ := Int.eq_ofNat_of_zero_le h0
  exact h ⟨n, by omega⟩
theorem and1 : ∀ f : Int, 0 ≤ f → f ≤ 255 → bits .and .i64 (f / 16) 1 = f / 16 % 2 := of_fin (by decide +kernel)
theorem and240 : ∀ f : Int, 0 ≤ f → f ≤ 255 → bits .and .u8 f 240 = f / 16 * 16 := of_fin (by decide +kernel)
theorem and16 : ∀ f : Int, 0 ≤ f → f ≤ 255 → bits .and .u8 f 16 = f / 16 % 2 * 16 := of_fin (by decide +kernel)
theorem and128 : ∀ f : Int, 0 ≤ f → f ≤ 255 → bits .and .u8 f 128 = f / 128 * 128 := of_fin (by decide +kernel)
theorem and144 : ∀ f : Int, 0 ≤ f → f ≤ 255 → bits .and .u8 f 144 = f / 128 * 128 + f / 16 % 2 * 16 := of_fin (by decide +kernel)

def flagsV (z n h c : Bool) : Int := (if z then 128 else 0) + (if n then 64 else 0) + (if h then 32 else 0) + (if c then 16 else 0)

set_option maxHeartbeats 8000000 in
theorem flags_any (z n h c : Bool) (w : World) :
    Calls Tryd.prog 12 #[.bool z, .bool n, .bool h, .bool c] w fun e w' => e = .returned (.int .u8 (flagsV z n h c)) ∧ w = w' := by
  cases z <;> cases n <;> cases h <;> cases c
  all_goals
    go_enter Tryd.func12, Tryd.ntmps12
    go_wp2
    go_rounds 5
    go_ret
    exact ⟨rfl, rfl⟩

theorem carry_any (f : Int) (w : World) (h0 : 0 ≤ f) (h1 : f ≤ 255) :
    Calls Tryd.prog 37 #[.int .u8 f] w fun e w' => e = .returned (.int .i64 (f / 16 % 2)) ∧ w = w' := by
  go_enter Tryd.func37, Tryd.ntmps37
  go_wp2
  go_ret
  exact ⟨by rw [← and1 f h0 h1]; rfl, rfl⟩

theorem clean_any (f : Int) (w : World) (h0 : 0 ≤ f) (h1 : f ≤ 255) :
    Calls Tryd.prog 11 #[.int .u8 f] w fun e w' => e = .returned (.int .u8 (f / 16 * 16)) ∧ w = w' := by
  go_enter Tryd.func11, Tryd.ntmps11
  go_wp2
  go_ret
  exact ⟨by rw [← and240 f h0 h1]; rfl, rfl⟩

def sumV (a b c : Int) : Int := (a + b + c) % 256
def sumF (a b c : Int) : Int := flagsV ((a + b + c) % 256 == 0) false (decide (15 < a % 16 + b % 16 + c)) (decide (255 < a + b + c))
def difV (a b c : Int) : Int := (a - b - c) % 256
def difF (a b c : Int) : Int := flagsV ((a - b - c) % 256 == 0) true (decide (a % 16 < b % 16 + c)) (decide (a - b - c < 0))

theorem sum_any (a b c : Int) (w : World) (h0 : 0 ≤ a) (h1 : a ≤ 255) (g0 : 0 ≤ b) (g1 : b ≤ 255) (k0 : 0 ≤ c) (k1 : c ≤ 1) :
    Calls Tryd.prog 41 #[.int .u8 a, .int .u8 b, .int .i64 c] w fun e w' => e = .returned (.tuple #[.int .u8 (sumV a b c), .int .u8 (sumF a b c)]) ∧ w = w' := by
  go_enter Tryd.func41, Tryd.ntmps41
  go_wp2_with ((with_reducible refine (flags_any _ _ _ _ _).mono ?_); rintro e w' ⟨rfl, rfl⟩)
  go_ret2
  exact ⟨rfl, rfl⟩

theorem dif_any (a b c : Int) (w : World) (h0 : 0 ≤ a) (h1 : a ≤ 255) (g0 : 0 ≤ b) (g1 : b ≤ 255) (k0 : 0 ≤ c) (k1 : c ≤ 1) :
    Calls Tryd.prog 44 #[.int .u8 a, .int .u8 b, .int .i64 c] w fun e w' => e = .returned (.tuple #[.int .u8 (difV a b c), .int .u8 (difF a b c)]) ∧ w = w' := by
  go_enter Tryd.func44, Tryd.ntmps44
  go_wp2_with ((with_reducible refine (flags_any _ _ _ _ _).mono ?_); rintro e w' ⟨rfl, rfl⟩)
  go_ret2
  exact ⟨rfl, rfl⟩

theorem bits_any (r : Int) (h : Bool) (w : World) :
    Calls Tryd.prog 47 #[.int .u8 r, .bool h] w fun e w' => e = .returned (.tuple #[.int .u8 r, .int .u8 (flagsV (r == 0) false h false)]) ∧ w = w' := by
  go_enter Tryd.func47, Tryd.ntmps47
  go_wp2_with ((with_reducible refine (flags_any _ _ _ _ _).mono ?_); rintro e w' ⟨rfl, rfl⟩)
  go_ret2
  exact ⟨rfl, rfl⟩
end Go.Proofs.YtpkogmcafgplgaaDoor.AluA
