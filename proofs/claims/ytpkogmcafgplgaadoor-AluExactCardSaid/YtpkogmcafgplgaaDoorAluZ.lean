import Derived.Test.YtpkogmcafgplgaaDoorAluY
namespace Go.Proofs.YtpkogmcafgplgaaDoor.AluZ
open Go.RowKit Go.Proofs.YtpkogmcafgplgaaDoor.AluA Go.Proofs.YtpkogmcafgplgaaDoor.AluC Go.Proofs.YtpkogmcafgplgaaDoor.AluP Go.Proofs.YtpkogmcafgplgaaDoor.AluT Go.Proofs.YtpkogmcafgplgaaDoor.AluU Go.Proofs.YtpkogmcafgplgaaDoorW.PrintWords Go.Proofs.YtpkogmcafgplgaaDoor.PAluExact
set_option linter.unusedVariables false
set_option linter.unusedSimpArgs false
set_option linter.unusedSectionVars false
/-! words and offsets -/
section
variable (a b : Int) (a0 : 0 ≤ a) (a1 : a ≤ 65535) (b0 : 0 ≤ b) (b1 : b ≤ 65535)
include a0 a1 b0 b1
theorem sum16 : numL (addL (bitsL 16 a) (bitsL 16 b) false).1 = (a + b) % 65536 := by
  rw [num_addL _ _ _ (by rw [len_bitsL, len_bitsL]), len_bitsL, num_bitsL 16 a a0, num_bitsL 16 b b0, bi_f]
  simp only [show (2 : Int) ^ 16 = 65536 from rfl]
  omega
theorem car16_11 : (addL (bitsL 16 a) (bitsL 16 b) false).2.getD 11 false = decide (4095 < a % 4096 + b % 4096) := by
  rw [carry_addL _ _ _ 11 (by rw [len_bitsL, len_bitsL]) (by rw [len_bitsL]; omega), take_bitsL 16 12 a (by omega), take_bitsL 16 12 b (by omega), num_bitsL 12 a a0, num_bitsL 12 b b0, bi_f]
  exact dec_iff (by simp only [show (2 : Int) ^ (11 + 1) = 4096 from rfl, show (2 : Int) ^ 12 = 4096 from rfl]; omega)
theorem car16_15 : (addL (bitsL 16 a) (bitsL 16 b) false).2.getD 15 false = decide (65535 < a + b) := by
  rw [carry_addL _ _ _ 15 (by rw [len_bitsL, len_bitsL]) (by rw [len_bitsL]; omega), take_bitsL 16 16 a (by omega), take_bitsL 16 16 b (by omega), num_bitsL 16 a a0, num_bitsL 16 b b0, bi_f]
  exact dec_iff (by simp only [show (2 : Int) ^ (15 + 1) = 65536 from rfl, show (2 : Int) ^ 16 = 65536 from rfl]; omega)
theorem raddword_f (f : Int) (f0 : 0 ≤ f) (f1 : f ≤ 255) : arcaderef1_AddWord.f 60 a b f = some ((a + b) % 65536, flagsV (f / 128 == 1) false (decide (4095 < a % 4096 + b % 4096)) (decide (65535 < a + b))) := by
  have ha : arcaderef1_bits.f 60 (wrap64 a) 16 = some (bitsL 16 a) := by rw [w64 a (by omega) (by omega)]; exact bits_f16 60 a a0 a1 (by omega)
  have hb : arcaderef1_bits.f 60 (wrap64 b) 16 = some (bitsL 16 b) := by rw [w64 b (by omega) (by omega)]; exact bits_f16 60 b b0 b1 (by omega)
  have hs := both_f 60 (bitsL 16 a) (bitsL 16 b) false (by rw [len_bitsL, len_bitsL]) (by rw [len_bitsL]; omega) (by omega)
  have hl := len_addL (bitsL 16 a) (bitsL 16 b) false (by rw [len_bitsL, len_bitsL])
  rw [len_bitsL] at hl
  unfold arcaderef1_AddWord.f
  rw [ha, hb]
  simp only [Option.bind_some]
  rw [hs]
  simp only [Option.bind_some]
  rw [has_128 f f0 f1]
  simp only [Option.bind_some]
  rw [number_f 60 _ (by omega) (by omega)]
  simp only [Option.bind_some]
  rw [if_pos (by omega), if_pos (by omega), flags_f 60 _ _ _ _ (by omega)]
  simp only [Option.bind_some]
  rw [show rdOf false (addL (bitsL 16 a) (bitsL 16 b) false).2 11 = (addL (bitsL 16 a) (bitsL 16 b) false).2.getD 11 false from rfl, show rdOf false (addL (bitsL 16 a) (bitsL 16 b) false).2 15 = (addL (bitsL 16 a) (bitsL 16 b) false).2.getD 15 false from rfl]
  rw [sum16 a b a0 a1 b0 b1, car16_11 a b a0 a1 b0 b1, car16_15 a b a0 a1 b0 b1, IntKind.wrap_u16, Int.emod_emod_of_dvd _ (by decide)]
end
theorem off_l (a : Int) (x lo ca : List Bool) (r : Int × Int) (hx : x.length = 8)
    (hfin : ∀ k, 40 ≤ k → ((arcaderef1_bits.f k (wrap64 (Int.tdiv (wrap64 a) 256)) 8).bind fun t552 => (if 7 < (ca.length : Int) then ((arcaderef1_both.f k t552 (List.replicate 8 (rdOf false x 7)) (rdOf false ca 7)).bind fun bt556 => ((arcaderef1_number.f k lo).bind fun t562 => ((arcaderef1_number.f k bt556.1).bind fun t563 => (if 3 < (ca.length : Int) then ((arcaderef1_flags.f k false false (rdOf false ca 3) (rdOf false ca 7)).bind fun t566 => (some (IntKind.u16.wrap (wrap64 (t562 + (wrap64 (256 * t563)))), t566))) else (none))))) else (none))) = some r) (d : Nat) :
    ∀ (k i : Nat) (y : List Bool), i + d = 8 → y.length = 8 → y.take i = List.replicate i (rdOf false x 7) → 41 + d ≤ k → arcaderef1_AddOffset.l0 k a x lo ca y (i : Int) = some r := by
  induction d with
  | zero =>
    intro k i y hi hy ht hk
    obtain ⟨k, rfl⟩ : ∃ m, k = m + 1 := ⟨k - 1, by omega⟩
    obtain rfl : i = 8 := by omega
    have hy' : y = List.replicate 8 (rdOf false x 7) := by rw [← ht, List.take_of_length_le (by omega)]
    simp only [arcaderef1_AddOffset.l0]
    rw [if_neg (by omega), hy']
    exact hfin k (by omega)
  | succ d ih =>
    intro k i y hi hy ht hk
    obtain ⟨k, rfl⟩ : ∃ m, k = m + 1 := ⟨k - 1, by omega⟩
    simp only [arcaderef1_AddOffset.l0]
    rw [if_pos (by omega), if_pos (by omega), if_pos (by omega), if_pos (by omega)]
    have hw : wrap64 ((i : Int) + 1) = ((i + 1 : Nat) : Int) := by rw [w64 _ (by omega) (by omega)]; rfl
    rw [hw, Int.toNat_natCast]
    refine ih k (i + 1) _ (by omega) (by rw [List.length_set]; exact hy) ?_ (by omega)
    rw [List.take_succ_eq_append_getElem (by rw [List.length_set]; omega), List.take_set_of_le (Nat.le_refl i), ht, List.getElem_set_self]
    rw [List.replicate_succ']
theorem sign_num : ∀ e : Fin 256, numL (List.replicate 8 (rdOf false (bitsL 8 (e.val : Int)) 7)) = (e.val : Int) / 128 * 255 := by decide +kernel
theorem raddoff_f (a e : Int) (a0 : 0 ≤ a) (a1 : a ≤ 65535) (e0 : 0 ≤ e) (e1 : e ≤ 255) : arcaderef1_AddOffset.f 60 a e = some ((a + e - e / 128 * 256) % 65536, flagsV false false (decide (15 < a % 16 + e % 16)) (decide (255 < a % 256 + e))) := by
  have hx : arcaderef1_bits.f 60 (wrap64 e) 8 = some (bitsL 8 e) := by rw [w64 e (by omega) (by omega)]; exact bits_f8 60 e e0 (by omega) (by omega)
  have hy : arcaderef1_bits.f 60 (Int.tmod (wrap64 a) 256) 8 = some (bitsL 8 (a % 256)) := by rw [w64 a (by omega) (by omega), Int.tmod_eq_emod_of_nonneg a0]; exact bits_f8 60 _ (by omega) (by omega) (by omega)
  have hz : arcaderef1_bits.f 60 0 8 = some (bitsL 8 0) := bits_f8 60 0 (by omega) (by omega) (by omega)
  have hs := both_f 60 (bitsL 8 (a % 256)) (bitsL 8 e) false (by rw [len_bitsL, len_bitsL]) (by rw [len_bitsL]; omega) (by omega)
  have hl := len_addL (bitsL 8 (a % 256)) (bitsL 8 e) false (by rw [len_bitsL, len_bitsL])
  rw [len_bitsL] at hl
  unfold arcaderef1_AddOffset.f
  rw [hx, hy]
  simp only [Option.bind_some]
  rw [hs]
  simp only [Option.bind_some]
  rw [hz]
  simp only [Option.bind_some]
  refine off_l a (bitsL 8 e) _ _ _ (len_bitsL 8 e) ?_ 8 60 0 (bitsL 8 0) (by omega) (len_bitsL 8 0) rfl (by omega)
  intro k hk
  have h1 : arcaderef1_bits.f k (wrap64 (Int.tdiv (wrap64 a) 256)) 8 = some (bitsL 8 (a / 256)) := by
    rw [w64 a (by omega) (by omega), Int.tdiv_eq_ediv_of_nonneg a0, w64 _ (by omega) (by omega)]
    exact bits_f8 k _ (by omega) (by omega) (by omega)
  rw [h1]
  simp only [Option.bind_some]
  rw [if_pos (by omega), both_f k _ _ _ (by rw [len_bitsL, List.length_replicate]) (by rw [len_bitsL]; omega) (by omega)]
  simp only [Option.bind_some]
  have hl2 := len_addL (bitsL 8 (a / 256)) (List.replicate 8 (rdOf false (bitsL 8 e) 7)) (rdOf false (addL (bitsL 8 (a % 256)) (bitsL 8 e) false).2 7) (by rw [len_bitsL, List.length_replicate])
  rw [len_bitsL] at hl2
  rw [number_f k _ (by omega) (by omega)]
  simp only [Option.bind_some]
  rw [number_f k _ (by omega) (by omega)]
  simp only [Option.bind_some]
  rw [if_pos (by omega), flags_f k _ _ _ _ (by omega)]
  simp only [Option.bind_some]
  have c7 : rdOf false (addL (bitsL 8 (a % 256)) (bitsL 8 e) false).2 7 = decide (255 < a % 256 + e) := by
    show (addL (bitsL 8 (a % 256)) (bitsL 8 e) false).2.getD 7 false = _
    rw [car8_7 (a % 256) e (by omega) (by omega) e0 e1, bi_f]
    exact dec_iff (by omega)
  have c3 : rdOf false (addL (bitsL 8 (a % 256)) (bitsL 8 e) false).2 3 = decide (15 < a % 16 + e % 16) := by
    show (addL (bitsL 8 (a % 256)) (bitsL 8 e) false).2.getD 3 false = _
    rw [car8_3 (a % 256) e (by omega) (by omega) e0 e1, bi_f]
    exact dec_iff (by omega)
  have n1 := sum8 (a % 256) e (by omega) (by omega) e0 e1 false
  rw [bi_f] at n1
  have n2 : numL (addL (bitsL 8 (a / 256)) (List.replicate 8 (rdOf false (bitsL 8 e) 7)) (decide (255 < a % 256 + e))).1 = (a / 256 + e / 128 * 255 + bi (decide (255 < a % 256 + e)) 1) % 256 := by
    rw [num_addL _ _ _ (by rw [len_bitsL, List.length_replicate]), len_bitsL, num_bitsL 8 _ (by omega)]
    obtain ⟨m, rfl⟩ := Int.eq_ofNat_of_zero_le e0
    rw [sign_num ⟨m, by omega⟩]
    simp only [show (2 : Int) ^ 8 = 256 from rfl]
    rw [Int.emod_eq_of_lt (show 0 ≤ a / 256 by omega) (by omega)]
  rw [c7, c3, n1, n2]
  have key : IntKind.u16.wrap (wrap64 ((a % 256 + e + 0) % 256 + wrap64 (256 * ((a / 256 + e / 128 * 255 + bi (decide (255 < a % 256 + e)) 1) % 256)))) = (a + e - e / 128 * 256) % 65536 := by
    rcases bi_cases (255 < a % 256 + e) 1 with ⟨h, g⟩ | ⟨h, g⟩ <;> rw [g]
    · rw [w64 (256 * _) (by omega) (by omega), w64 _ (by omega) (by omega), IntKind.wrap_u16]
      rcases (show e / 128 = 0 ∨ e / 128 = 1 by omega) with z | z <;> rw [z] <;> omega
    · rw [w64 (256 * _) (by omega) (by omega), w64 _ (by omega) (by omega), IntKind.wrap_u16]
      rcases (show e / 128 = 0 ∨ e / 128 = 1 by omega) with z | z <;> rw [z] <;> omega
  rw [key]
end Go.Proofs.YtpkogmcafgplgaaDoor.AluZ
