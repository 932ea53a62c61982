import Derived.Test.YtpkogmcafgplgaaDoorAluX
import Derived.Test.YtpkogmcafgplgaaDoorAluD
namespace Go.Proofs.YtpkogmcafgplgaaDoor.AluY
open Go.RowKit Go.Proofs.YtpkogmcafgplgaaDoor.AluA Go.Proofs.YtpkogmcafgplgaaDoor.AluB Go.Proofs.YtpkogmcafgplgaaDoor.AluC Go.Proofs.YtpkogmcafgplgaaDoor.AluP Go.Proofs.YtpkogmcafgplgaaDoor.AluT Go.Proofs.YtpkogmcafgplgaaDoor.AluU Go.Proofs.YtpkogmcafgplgaaDoor.AluX Go.Proofs.YtpkogmcafgplgaaDoorW.PrintWords Go.Proofs.YtpkogmcafgplgaaDoor.PAluExact
open Go.Proofs.YtpkogmcafgplgaaDoor.AluD (maskV bitV)
set_option linter.unusedVariables false
set_option linter.unusedSimpArgs false
theorem turn_0 (a f : Int) (a0 : 0 ≤ a) (a1 : a ≤ 255) (f0 : 0 ≤ f) (f1 : f ≤ 255) : arcaderef1_Turn.f 61 0 a f = some (turnV 0 a f, turnF 0 a f) := by
  have h16 := has_16 f f0 f1
  have h32 := has_32 f f0 f1
  have h64 := has_64 f f0 f1
  have h128 := has_128 f f0 f1
  simp only [arcaderef1_Turn.f, arcaderef1_Turn.j0, h16, h32, h64, h128, Option.bind_some, Int.reduceEq, Int.reduceBEq, if_true, if_false, reduceIte, Bool.false_eq_true, decide_true, decide_false, rshift_f 0 a f a0 a1 f0 f1]
  have hb := (shift_bd 0 a f a0 a1 f0 f1).2.2.1
  rw [Int.tmod_eq_emod_of_nonneg hb]
  rfl
theorem turn_1 (a f : Int) (a0 : 0 ≤ a) (a1 : a ≤ 255) (f0 : 0 ≤ f) (f1 : f ≤ 255) : arcaderef1_Turn.f 61 1 a f = some (turnV 1 a f, turnF 1 a f) := by
  have h16 := has_16 f f0 f1
  have h32 := has_32 f f0 f1
  have h64 := has_64 f f0 f1
  have h128 := has_128 f f0 f1
  simp only [arcaderef1_Turn.f, arcaderef1_Turn.j0, h16, h32, h64, h128, Option.bind_some, Int.reduceEq, Int.reduceBEq, if_true, if_false, reduceIte, Bool.false_eq_true, decide_true, decide_false, rshift_f 1 a f a0 a1 f0 f1]
  have hb := (shift_bd 1 a f a0 a1 f0 f1).2.2.1
  rw [Int.tmod_eq_emod_of_nonneg hb]
  rfl
theorem turn_2 (a f : Int) (a0 : 0 ≤ a) (a1 : a ≤ 255) (f0 : 0 ≤ f) (f1 : f ≤ 255) : arcaderef1_Turn.f 61 2 a f = some (turnV 2 a f, turnF 2 a f) := by
  have h16 := has_16 f f0 f1
  have h32 := has_32 f f0 f1
  have h64 := has_64 f f0 f1
  have h128 := has_128 f f0 f1
  simp only [arcaderef1_Turn.f, arcaderef1_Turn.j0, h16, h32, h64, h128, Option.bind_some, Int.reduceEq, Int.reduceBEq, if_true, if_false, reduceIte, Bool.false_eq_true, decide_true, decide_false, rshift_f 2 a f a0 a1 f0 f1]
  have hb := (shift_bd 2 a f a0 a1 f0 f1).2.2.1
  rw [Int.tmod_eq_emod_of_nonneg hb]
  rfl
theorem turn_3 (a f : Int) (a0 : 0 ≤ a) (a1 : a ≤ 255) (f0 : 0 ≤ f) (f1 : f ≤ 255) : arcaderef1_Turn.f 61 3 a f = some (turnV 3 a f, turnF 3 a f) := by
  have h16 := has_16 f f0 f1
  have h32 := has_32 f f0 f1
  have h64 := has_64 f f0 f1
  have h128 := has_128 f f0 f1
  simp only [arcaderef1_Turn.f, arcaderef1_Turn.j0, h16, h32, h64, h128, Option.bind_some, Int.reduceEq, Int.reduceBEq, if_true, if_false, reduceIte, Bool.false_eq_true, decide_true, decide_false, rshift_f 3 a f a0 a1 f0 f1]
  have hb := (shift_bd 3 a f a0 a1 f0 f1).2.2.1
  rw [Int.tmod_eq_emod_of_nonneg hb]
  rfl
theorem turn_4 (a f : Int) (a0 : 0 ≤ a) (a1 : a ≤ 255) (f0 : 0 ≤ f) (f1 : f ≤ 255) : arcaderef1_Turn.f 61 4 a f = some (turnV 4 a f, turnF 4 a f) := by
  have h16 := has_16 f f0 f1
  have h32 := has_32 f f0 f1
  have h64 := has_64 f f0 f1
  have h128 := has_128 f f0 f1
  have hz : f / 128 = 0 ∨ f / 128 = 1 := by omega
  rcases (show f / 16 % 2 = 0 ∨ f / 16 % 2 = 1 by omega) with h | h <;> rcases (show f / 32 % 2 = 0 ∨ f / 32 % 2 = 1 by omega) with g | g <;> rcases (show f / 64 % 2 = 0 ∨ f / 64 % 2 = 1 by omega) with n | n <;> rcases hz with z | z
  all_goals
    rw [h] at h16
    rw [g] at h32
    rw [n] at h64
    rw [z] at h128
    simp only [arcaderef1_Turn.f, arcaderef1_Turn.j0, arcaderef1_Turn.j1, arcaderef1_Turn.j2, arcaderef1_Turn.j3, arcaderef1_Turn.j4, h16, h32, h64, h128, turnV, turnF, decV, decF, decC, decBy, h, g, n, z, Option.bind_some, Int.reduceEq, Int.reduceBEq, if_true, if_false, reduceIte, Bool.false_eq_true, decide_true, decide_false]
    clear h16 h32 h64 h128 h g n z
    revert a a0 a1
    exact of_fin (by decide +kernel)
theorem turn_5 (a f : Int) (a0 : 0 ≤ a) (a1 : a ≤ 255) (f0 : 0 ≤ f) (f1 : f ≤ 255) : arcaderef1_Turn.f 61 5 a f = some (turnV 5 a f, turnF 5 a f) := by
  have h16 := has_16 f f0 f1
  have h32 := has_32 f f0 f1
  have h64 := has_64 f f0 f1
  have h128 := has_128 f f0 f1
  have hz : f / 128 = 0 ∨ f / 128 = 1 := by omega
  rcases (show f / 16 % 2 = 0 ∨ f / 16 % 2 = 1 by omega) with h | h <;> rcases (show f / 32 % 2 = 0 ∨ f / 32 % 2 = 1 by omega) with g | g <;> rcases (show f / 64 % 2 = 0 ∨ f / 64 % 2 = 1 by omega) with n | n <;> rcases hz with z | z
  all_goals
    rw [h] at h16
    rw [g] at h32
    rw [n] at h64
    rw [z] at h128
    simp only [arcaderef1_Turn.f, arcaderef1_Turn.j0, arcaderef1_Turn.j1, arcaderef1_Turn.j2, arcaderef1_Turn.j3, arcaderef1_Turn.j4, h16, h32, h64, h128, turnV, turnF, decV, decF, decC, decBy, h, g, n, z, Option.bind_some, Int.reduceEq, Int.reduceBEq, if_true, if_false, reduceIte, Bool.false_eq_true, decide_true, decide_false]
    clear h16 h32 h64 h128 h g n z
    revert a a0 a1
    exact of_fin (by decide +kernel)
theorem turn_6 (a f : Int) (a0 : 0 ≤ a) (a1 : a ≤ 255) (f0 : 0 ≤ f) (f1 : f ≤ 255) : arcaderef1_Turn.f 61 6 a f = some (turnV 6 a f, turnF 6 a f) := by
  have h16 := has_16 f f0 f1
  have h32 := has_32 f f0 f1
  have h64 := has_64 f f0 f1
  have h128 := has_128 f f0 f1
  have hz : f / 128 = 0 ∨ f / 128 = 1 := by omega
  rcases (show f / 16 % 2 = 0 ∨ f / 16 % 2 = 1 by omega) with h | h <;> rcases (show f / 32 % 2 = 0 ∨ f / 32 % 2 = 1 by omega) with g | g <;> rcases (show f / 64 % 2 = 0 ∨ f / 64 % 2 = 1 by omega) with n | n <;> rcases hz with z | z
  all_goals
    rw [h] at h16
    rw [g] at h32
    rw [n] at h64
    rw [z] at h128
    simp only [arcaderef1_Turn.f, arcaderef1_Turn.j0, arcaderef1_Turn.j1, arcaderef1_Turn.j2, arcaderef1_Turn.j3, arcaderef1_Turn.j4, h16, h32, h64, h128, turnV, turnF, decV, decF, decC, decBy, h, g, n, z, Option.bind_some, Int.reduceEq, Int.reduceBEq, if_true, if_false, reduceIte, Bool.false_eq_true, decide_true, decide_false]
    clear h16 h32 h64 h128 h g n z
    revert a a0 a1
    exact of_fin (by decide +kernel)
theorem turn_7 (a f : Int) (a0 : 0 ≤ a) (a1 : a ≤ 255) (f0 : 0 ≤ f) (f1 : f ≤ 255) : arcaderef1_Turn.f 61 7 a f = some (turnV 7 a f, turnF 7 a f) := by
  have h16 := has_16 f f0 f1
  have h32 := has_32 f f0 f1
  have h64 := has_64 f f0 f1
  have h128 := has_128 f f0 f1
  have hz : f / 128 = 0 ∨ f / 128 = 1 := by omega
  rcases (show f / 16 % 2 = 0 ∨ f / 16 % 2 = 1 by omega) with h | h <;> rcases (show f / 32 % 2 = 0 ∨ f / 32 % 2 = 1 by omega) with g | g <;> rcases (show f / 64 % 2 = 0 ∨ f / 64 % 2 = 1 by omega) with n | n <;> rcases hz with z | z
  all_goals
    rw [h] at h16
    rw [g] at h32
    rw [n] at h64
    rw [z] at h128
    simp only [arcaderef1_Turn.f, arcaderef1_Turn.j0, arcaderef1_Turn.j1, arcaderef1_Turn.j2, arcaderef1_Turn.j3, arcaderef1_Turn.j4, h16, h32, h64, h128, turnV, turnF, decV, decF, decC, decBy, h, g, n, z, Option.bind_some, Int.reduceEq, Int.reduceBEq, if_true, if_false, reduceIte, Bool.false_eq_true, decide_true, decide_false]
    clear h16 h32 h64 h128 h g n z
    revert a a0 a1
    exact of_fin (by decide +kernel)
theorem turn_no (op a f : Int) (h : op < 0 ∨ 8 ≤ op) (a0 : 0 ≤ a) (a1 : a ≤ 255) (f0 : 0 ≤ f) (f1 : f ≤ 255) : arcaderef1_Turn.f 61 op a f = some (turnV op a f, turnF op a f) := by
  have h16 := has_16 f f0 f1
  have h32 := has_32 f f0 f1
  have h64 := has_64 f f0 f1
  have h128 := has_128 f f0 f1
  have hc := clean_f f f0 f1
  have n0 : (op = 0) = False := eq_false (by omega)
  have m0 : (op == 0) = false := by rw [beq_eq_false_iff_ne]; omega
  have n1 : (op = 1) = False := eq_false (by omega)
  have m1 : (op == 1) = false := by rw [beq_eq_false_iff_ne]; omega
  have n2 : (op = 2) = False := eq_false (by omega)
  have m2 : (op == 2) = false := by rw [beq_eq_false_iff_ne]; omega
  have n3 : (op = 3) = False := eq_false (by omega)
  have m3 : (op == 3) = false := by rw [beq_eq_false_iff_ne]; omega
  have n4 : (op = 4) = False := eq_false (by omega)
  have m4 : (op == 4) = false := by rw [beq_eq_false_iff_ne]; omega
  have n5 : (op = 5) = False := eq_false (by omega)
  have m5 : (op == 5) = false := by rw [beq_eq_false_iff_ne]; omega
  have n6 : (op = 6) = False := eq_false (by omega)
  have m6 : (op == 6) = false := by rw [beq_eq_false_iff_ne]; omega
  have n7 : (op = 7) = False := eq_false (by omega)
  have m7 : (op == 7) = false := by rw [beq_eq_false_iff_ne]; omega
  simp only [arcaderef1_Turn.f, arcaderef1_Turn.j0, h16, h32, h64, h128, hc, turnV, turnF, n0, m0, n1, m1, n2, m2, n3, m3, n4, m4, n5, m5, n6, m6, n7, m7, Option.bind_some, Int.reduceEq, Int.reduceBEq, if_true, if_false, reduceIte, Bool.false_eq_true, decide_true, decide_false]
theorem rturn_f (op a f : Int) (a0 : 0 ≤ a) (a1 : a ≤ 255) (f0 : 0 ≤ f) (f1 : f ≤ 255) : arcaderef1_Turn.f 61 op a f = some (turnV op a f, turnF op a f) := by
  by_cases h : op < 0 ∨ 8 ≤ op
  · exact turn_no op a f h a0 a1 f0 f1
  · rcases (show op = 0 ∨ op = 1 ∨ op = 2 ∨ op = 3 ∨ op = 4 ∨ op = 5 ∨ op = 6 ∨ op = 7 by omega) with rfl | rfl | rfl | rfl | rfl | rfl | rfl | rfl
    · exact turn_0 a f a0 a1 f0 f1
    · exact turn_1 a f a0 a1 f0 f1
    · exact turn_2 a f a0 a1 f0 f1
    · exact turn_3 a f a0 a1 f0 f1
    · exact turn_4 a f a0 a1 f0 f1
    · exact turn_5 a f a0 a1 f0 f1
    · exact turn_6 a f a0 a1 f0 f1
    · exact turn_7 a f a0 a1 f0 f1

theorem bit_fin : ∀ k : Fin 8, ∀ n : Fin 256, (rdOf false (bitsL 8 (n.val : Int)) (k.val : Int)) = !(bits .and .u8 (n.val : Int) (maskV (k.val : Int)) == 0) := by decide +kernel
theorem rbit_f (op a f : Int) (a0 : 0 ≤ a) (a1 : a ≤ 255) (f0 : 0 ≤ f) (f1 : f ≤ 255) : arcaderef1_Bit.f 60 op a f = some (bitV op a f) := by
  have hs := has_16 f f0 f1
  have hc := clean_f f f0 f1
  have hb : arcaderef1_bits.f 59 (wrap64 a) 8 = some (bitsL 8 a) := by rw [w64 a (by omega) (by omega)]; exact bits_f8 59 a a0 (by omega) (by omega)
  have hl := len_bitsL 8 a
  by_cases h : op < 0
  · have hv : bitV op a f = f / 16 * 16 := by unfold bitV; rw [if_neg (by omega)]
    simp only [arcaderef1_Bit.f, arcaderef1_Bit.j0, if_pos h, hc, hv, Option.bind_some, Int.reduceEq, Int.reduceBEq, if_true, if_false, reduceIte, Bool.false_eq_true, decide_true, decide_false]
  · by_cases h' : op > 7
    · have hv : bitV op a f = f / 16 * 16 := by unfold bitV; rw [if_neg (by omega)]
      simp only [arcaderef1_Bit.f, arcaderef1_Bit.j0, if_neg h, h', hc, hv, Option.bind_some, Int.reduceEq, Int.reduceBEq, if_true, if_false, reduceIte, Bool.false_eq_true, decide_true, decide_false]
    · have hv : bitV op a f = flagsV (bits .and .u8 a (maskV op) == 0) false true (f / 16 % 2 == 1) := by unfold bitV; rw [if_pos (by omega)]
      have h0 : 0 ≤ op := by omega
      have hd : decide (op > 7) = false := decide_eq_false h'
      have hr : rdOf false (bitsL 8 a) op = !(bits .and .u8 a (maskV op) == 0) := by
        obtain ⟨n, rfl⟩ := Int.eq_ofNat_of_zero_le h0
        obtain ⟨m, rfl⟩ := Int.eq_ofNat_of_zero_le a0
        exact bit_fin ⟨n, by omega⟩ ⟨m, by omega⟩
      simp only [arcaderef1_Bit.f, arcaderef1_Bit.j0, if_neg h, hd, hb, hs, hl, hr, hv, Option.bind_some, Int.reduceEq, Int.reduceBEq, if_true, if_false, reduceIte, Bool.false_eq_true, decide_true, decide_false]
      rw [if_pos h0, if_pos (by omega), flags_f 59 _ _ _ _ (by omega)]
      simp
theorem put_fin1 : ∀ k : Fin 8, ∀ n : Fin 256, numL ((bitsL 8 (n.val : Int)).set k.val true) = bits .or .u8 (n.val : Int) (maskV (k.val : Int)) := by decide +kernel
theorem put_fin0 : ∀ k : Fin 8, ∀ n : Fin 256, numL ((bitsL 8 (n.val : Int)).set k.val false) = bits .andNot .u8 (n.val : Int) (maskV (k.val : Int)) := by decide +kernel
theorem or0 : ∀ a : Int, 0 ≤ a → a ≤ 255 → bits .or .u8 a 0 = a := of_fin (by decide +kernel)
theorem andn0 : ∀ a : Int, 0 ≤ a → a ≤ 255 → bits .andNot .u8 a 0 = a := of_fin (by decide +kernel)
theorem rput_f (op a : Int) (on : Bool) (a0 : 0 ≤ a) (a1 : a ≤ 255) : arcaderef1_put.f 60 op a on = some (if on then bits .or .u8 a (maskV op) else bits .andNot .u8 a (maskV op)) := by
  have hb : arcaderef1_bits.f 59 (wrap64 a) 8 = some (bitsL 8 a) := by rw [w64 a (by omega) (by omega)]; exact bits_f8 59 a a0 (by omega) (by omega)
  have hl := len_bitsL 8 a
  by_cases h : op < 0 ∨ 7 < op
  · have hv := Go.Proofs.YtpkogmcafgplgaaDoor.AluD.maskV_no op h
    have hr : (if on then bits .or .u8 a (maskV op) else bits .andNot .u8 a (maskV op)) = a := by
      rw [hv]
      cases on
      · exact andn0 a a0 a1
      · exact or0 a a0 a1
    rw [hr]
    by_cases h1 : op < 0
    · simp only [arcaderef1_put.f, arcaderef1_put.j0, if_pos h1, Option.bind_some, Int.reduceEq, Int.reduceBEq, if_true, if_false, reduceIte, Bool.false_eq_true, decide_true, decide_false]
    · have hd : decide (op > 7) = true := decide_eq_true (by omega)
      simp only [arcaderef1_put.f, arcaderef1_put.j0, if_neg h1, hd, Option.bind_some, Int.reduceEq, Int.reduceBEq, if_true, if_false, reduceIte, Bool.false_eq_true, decide_true, decide_false]
  · have h0 : 0 ≤ op := by omega
    have hd : decide (op > 7) = false := decide_eq_false (by omega)
    have hn : ¬ op < 0 := by omega
    have hr : numL ((bitsL 8 a).set op.toNat on) = (if on then bits .or .u8 a (maskV op) else bits .andNot .u8 a (maskV op)) := by
      obtain ⟨n, rfl⟩ := Int.eq_ofNat_of_zero_le h0
      obtain ⟨m, rfl⟩ := Int.eq_ofNat_of_zero_le a0
      cases on
      · exact put_fin0 ⟨n, by omega⟩ ⟨m, by omega⟩
      · exact put_fin1 ⟨n, by omega⟩ ⟨m, by omega⟩
    have hbd : 0 ≤ (if on then bits .or .u8 a (maskV op) else bits .andNot .u8 a (maskV op)) ∧ (if on then bits .or .u8 a (maskV op) else bits .andNot .u8 a (maskV op)) ≤ 255 := by
      cases on
      · exact bits_bd .andNot a (maskV op)
      · exact bits_bd .or a (maskV op)
    simp only [arcaderef1_put.f, arcaderef1_put.j0, if_neg hn, hd, hb, hl, Option.bind_some, Int.reduceEq, Int.reduceBEq, if_true, if_false, reduceIte, Bool.false_eq_true, decide_true, decide_false]
    rw [if_pos h0, if_pos (by omega), number_f 59 _ (by rw [List.length_set, hl]; omega) (by omega), hr]
    simp only [Option.bind_some]
    rw [Int.emod_eq_of_lt hbd.1 (by omega)]
theorem rres_f (op a : Int) (a0 : 0 ≤ a) (a1 : a ≤ 255) : arcaderef1_Res.f 60 op a = some (bits .andNot .u8 a (maskV op)) := by
  unfold arcaderef1_Res.f
  rw [rput_f op a false a0 a1]
  rfl
theorem rset_f (op a : Int) (a0 : 0 ≤ a) (a1 : a ≤ 255) : arcaderef1_Set.f 60 op a = some (bits .or .u8 a (maskV op)) := by
  unfold arcaderef1_Set.f
  rw [rput_f op a true a0 a1]
  rfl
end Go.Proofs.YtpkogmcafgplgaaDoor.AluY
