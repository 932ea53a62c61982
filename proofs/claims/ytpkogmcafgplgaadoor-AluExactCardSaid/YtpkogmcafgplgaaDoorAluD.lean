import Derived.Test.YtpkogmcafgplgaaDoorAluC
namespace Go.Proofs.YtpkogmcafgplgaaDoor.AluD
open Go.RowKit Go.Proofs.YtpkogmcafgplgaaDoor.AluA Go.Proofs.YtpkogmcafgplgaaDoor.AluB Go.Proofs.YtpkogmcafgplgaaDoor.AluC
set_option linter.unusedVariables false
/-! the table of masks, and the calls that read it -/
structure Masks (w : World) : Prop where
  m0 : w.cell? ⟨0, 0, none⟩ = some (.int .u8 1)
  m1 : w.cell? ⟨0, 1, none⟩ = some (.int .u8 2)
  m2 : w.cell? ⟨0, 2, none⟩ = some (.int .u8 4)
  m3 : w.cell? ⟨0, 3, none⟩ = some (.int .u8 8)
  m4 : w.cell? ⟨0, 4, none⟩ = some (.int .u8 16)
  m5 : w.cell? ⟨0, 5, none⟩ = some (.int .u8 32)
  m6 : w.cell? ⟨0, 6, none⟩ = some (.int .u8 64)
  m7 : w.cell? ⟨0, 7, none⟩ = some (.int .u8 128)
def maskV (n : Int) : Int := if n = 0 then 1 else if n = 1 then 2 else if n = 2 then 4 else if n = 3 then 8 else if n = 4 then 16 else if n = 5 then 32 else if n = 6 then 64 else if n = 7 then 128 else 0
theorem maskV_bd (n : Int) : 0 ≤ maskV n ∧ maskV n ≤ 255 := by
  unfold maskV
  repeat' split
  all_goals omega
theorem maskV_no (n : Int) (h : n < 0 ∨ 7 < n) : maskV n = 0 := by unfold maskV; repeat rw [if_neg (by omega)]
theorem maskV_ne (n : Int) (h : 0 ≤ n) (h' : n ≤ 7) : (maskV n == 0) = false := by
  rcases (show n = 0 ∨ n = 1 ∨ n = 2 ∨ n = 3 ∨ n = 4 ∨ n = 5 ∨ n = 6 ∨ n = 7 by omega) with rfl | rfl | rfl | rfl | rfl | rfl | rfl | rfl <;> rfl
theorem ret1 {k : IntKind} {a b : Int} (h : a = b) : Ending.returned (.int k a) = .returned (.int k b) := by rw [h]
theorem mask_any (n : Int) (w : World) (hm : Masks w) :
    Calls Tryd.prog 10 #[.int .i64 n] w fun e w' => e = .returned (.int .u8 (maskV n)) ∧ w = w' := by
  obtain ⟨m0, m1, m2, m3, m4, m5, m6, m7⟩ := hm
  by_cases h : n < 0
  · go_enter Tryd.func10, Tryd.ntmps10
    go_wp2
    go_ret
    exact ⟨ret1 (maskV_no n (.inl h)).symm, rfl⟩
  · by_cases h' : 7 < n
    · go_enter Tryd.func10, Tryd.ntmps10
      go_wp2
      go_ret
      exact ⟨ret1 (maskV_no n (.inr h')).symm, rfl⟩
    · rcases (show n = 0 ∨ n = 1 ∨ n = 2 ∨ n = 3 ∨ n = 4 ∨ n = 5 ∨ n = 6 ∨ n = 7 by omega) with rfl | rfl | rfl | rfl | rfl | rfl | rfl | rfl
      all_goals
        clear h h'
        go_enter Tryd.func10, Tryd.ntmps10
        go_wp2
        go_ret
        exact ⟨rfl, rfl⟩
def bitV (n a f : Int) : Int := if 0 ≤ n ∧ n ≤ 7 then flagsV (bits .and .u8 a (maskV n) == 0) false true (f / 16 % 2 == 1) else f / 16 * 16
theorem bit_any (n a f : Int) (w : World) (hm : Masks w) (a0 : 0 ≤ a) (a1 : a ≤ 255) (f0 : 0 ≤ f) (f1 : f ≤ 255) :
    Calls Tryd.prog 8 #[.int .i64 n, .int .u8 a, .int .u8 f] w fun e w' => e = .returned (.int .u8 (bitV n a f)) ∧ w = w' := by
  have hb := maskV_bd n
  by_cases h : 0 ≤ n ∧ n ≤ 7
  · have hn := maskV_ne n h.1 h.2
    go_enter Tryd.func8, Tryd.ntmps8
    go_wp2_with (first | ((with_reducible refine (mask_any _ _ (by assumption)).mono ?_); rintro e w' ⟨rfl, rfl⟩) | ((with_reducible refine (flags_any _ _ _ _ _).mono ?_); rintro e w' ⟨rfl, rfl⟩))
    go_ret
    exact ⟨ret1 (by unfold bitV; rw [if_pos h, cf_16 f f0 f1]), rfl⟩
  · have hz : maskV n = 0 := maskV_no n (by omega)
    go_enter Tryd.func8, Tryd.ntmps8
    go_wp2_with (first | ((with_reducible refine (mask_any _ _ (by assumption)).mono ?_); rintro e w' ⟨rfl, rfl⟩) | ((with_reducible refine (clean_any _ _ (by omega) (by omega)).mono ?_); rintro e w' ⟨rfl, rfl⟩))
    go_ret
    exact ⟨ret1 (by unfold bitV; rw [if_neg h]), rfl⟩
theorem res_any (n a : Int) (w : World) (hm : Masks w) (a0 : 0 ≤ a) (a1 : a ≤ 255) :
    Calls Tryd.prog 7 #[.int .i64 n, .int .u8 a] w fun e w' => e = .returned (.int .u8 (bits .andNot .u8 a (maskV n))) ∧ w = w' := by
  have hb := maskV_bd n
  go_enter Tryd.func7, Tryd.ntmps7
  go_wp2_with (first | ((with_reducible refine (mask_any _ _ (by assumption)).mono ?_); rintro e w' ⟨rfl, rfl⟩))
  go_ret
  exact ⟨rfl, rfl⟩
theorem set_any (n a : Int) (w : World) (hm : Masks w) (a0 : 0 ≤ a) (a1 : a ≤ 255) :
    Calls Tryd.prog 6 #[.int .i64 n, .int .u8 a] w fun e w' => e = .returned (.int .u8 (bits .or .u8 a (maskV n))) ∧ w = w' := by
  have hb := maskV_bd n
  go_enter Tryd.func6, Tryd.ntmps6
  go_wp2_with (first | ((with_reducible refine (mask_any _ _ (by assumption)).mono ?_); rintro e w' ⟨rfl, rfl⟩))
  go_ret
  exact ⟨rfl, rfl⟩
/-! bits: what is set is seen, what is taken is not -/
theorem on_fin : ∀ k : Fin 8, ∀ x : Fin 256, (bits .and .u8 (bits .or .u8 (x.val : Int) (maskV (k.val : Int))) (maskV (k.val : Int)) == 0) = false := by decide +kernel
theorem off_fin : ∀ k : Fin 8, ∀ x : Fin 256, (bits .and .u8 (bits .andNot .u8 (x.val : Int) (maskV (k.val : Int))) (maskV (k.val : Int)) == 0) = true := by decide +kernel
theorem on_bit (k x : Int) (k0 : 0 ≤ k) (k1 : k < 8) (x0 : 0 ≤ x) (x1 : x ≤ 255) : (bits .and .u8 (bits .or .u8 x (maskV k)) (maskV k) == 0) = false := by
  obtain ⟨n, rfl⟩ := Int.eq_ofNat_of_zero_le k0
  obtain ⟨m, rfl⟩ := Int.eq_ofNat_of_zero_le x0
  exact on_fin ⟨n, by omega⟩ ⟨m, by omega⟩
theorem off_bit (k x : Int) (k0 : 0 ≤ k) (k1 : k < 8) (x0 : 0 ≤ x) (x1 : x ≤ 255) : (bits .and .u8 (bits .andNot .u8 x (maskV k)) (maskV k) == 0) = true := by
  obtain ⟨n, rfl⟩ := Int.eq_ofNat_of_zero_le k0
  obtain ⟨m, rfl⟩ := Int.eq_ofNat_of_zero_le x0
  exact off_fin ⟨n, by omega⟩ ⟨m, by omega⟩
theorem or_32 : ∀ f : Int, 0 ≤ f → f ≤ 255 → bits .or .u8 32 (bits .and .u8 f 16) = flagsV false false true (f / 16 % 2 == 1) := of_fin (by decide +kernel)
theorem or_160 : ∀ f : Int, 0 ≤ f → f ≤ 255 → bits .or .u8 160 (bits .and .u8 f 16) = flagsV true false true (f / 16 % 2 == 1) := of_fin (by decide +kernel)
theorem or_none : ∀ x : Int, 0 ≤ x → x ≤ 255 → bits .or .u8 x 0 = x := of_fin (by decide +kernel)
theorem andn_none : ∀ x : Int, 0 ≤ x → x ≤ 255 → bits .andNot .u8 x 0 = x := of_fin (by decide +kernel)
end Go.Proofs.YtpkogmcafgplgaaDoor.AluD
