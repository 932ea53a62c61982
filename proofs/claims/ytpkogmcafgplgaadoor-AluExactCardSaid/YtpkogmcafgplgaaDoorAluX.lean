import Derived.Test.YtpkogmcafgplgaaDoorAluV
import Derived.Test.YtpkogmcafgplgaaDoorPAluExactx5
import Derived.Test.YtpkogmcafgplgaaDoorPAluExactx6
import Derived.Test.YtpkogmcafgplgaaDoorPAluExactx7
import Derived.Test.YtpkogmcafgplgaaDoorPAluExactx8
namespace Go.Proofs.YtpkogmcafgplgaaDoor.AluX
open Go.RowKit Go.Proofs.YtpkogmcafgplgaaDoor.AluA Go.Proofs.YtpkogmcafgplgaaDoor.AluC Go.Proofs.YtpkogmcafgplgaaDoor.AluP Go.Proofs.YtpkogmcafgplgaaDoor.AluT Go.Proofs.YtpkogmcafgplgaaDoor.AluU Go.Proofs.YtpkogmcafgplgaaDoorW.PrintWords Go.Proofs.YtpkogmcafgplgaaDoor.PAluExact
set_option linter.unusedVariables false
set_option linter.unusedSimpArgs false
/-! what the reference's Shift, Turn, Bit, Res, Set, AddWord, AddOffset answer: 256 bytes a case, by the kernel -/
theorem shift_0 (a f : Int) (a0 : 0 ≤ a) (a1 : a ≤ 255) (f0 : 0 ≤ f) (f1 : f ≤ 255) : arcaderef1_Shift.f 60 0 a f = some (shiftV 0 a f, shiftF 0 a f) := by
  have hs := has_16 f f0 f1
  rcases (show f / 16 % 2 = 0 ∨ f / 16 % 2 = 1 by omega) with h | h
  all_goals
    rw [h] at hs
    simp only [arcaderef1_Shift.f, hs, shiftV, shiftF, arcaderef1_Shift.j0, h, Option.bind_some, Int.reduceEq, Int.reduceBEq, if_true, if_false, reduceIte, Bool.false_eq_true, decide_true, decide_false]
    clear hs h
    revert a a0 a1
    exact of_fin (by decide +kernel)
theorem shift_1 (a f : Int) (a0 : 0 ≤ a) (a1 : a ≤ 255) (f0 : 0 ≤ f) (f1 : f ≤ 255) : arcaderef1_Shift.f 60 1 a f = some (shiftV 1 a f, shiftF 1 a f) := by
  have hs := has_16 f f0 f1
  rcases (show f / 16 % 2 = 0 ∨ f / 16 % 2 = 1 by omega) with h | h
  all_goals
    rw [h] at hs
    simp only [arcaderef1_Shift.f, hs, shiftV, shiftF, arcaderef1_Shift.j0, h, Option.bind_some, Int.reduceEq, Int.reduceBEq, if_true, if_false, reduceIte, Bool.false_eq_true, decide_true, decide_false]
    clear hs h
    revert a a0 a1
    exact of_fin (by decide +kernel)
theorem shift_2 (a f : Int) (a0 : 0 ≤ a) (a1 : a ≤ 255) (f0 : 0 ≤ f) (f1 : f ≤ 255) : arcaderef1_Shift.f 60 2 a f = some (shiftV 2 a f, shiftF 2 a f) := by
  have hs := has_16 f f0 f1
  rcases (show f / 16 % 2 = 0 ∨ f / 16 % 2 = 1 by omega) with h | h
  all_goals
    rw [h] at hs
    simp only [arcaderef1_Shift.f, hs, shiftV, shiftF, arcaderef1_Shift.j0, h, Option.bind_some, Int.reduceEq, Int.reduceBEq, if_true, if_false, reduceIte, Bool.false_eq_true, decide_true, decide_false]
    clear hs h
    revert a a0 a1
    exact of_fin (by decide +kernel)
theorem shift_3 (a f : Int) (a0 : 0 ≤ a) (a1 : a ≤ 255) (f0 : 0 ≤ f) (f1 : f ≤ 255) : arcaderef1_Shift.f 60 3 a f = some (shiftV 3 a f, shiftF 3 a f) := by
  have hs := has_16 f f0 f1
  rcases (show f / 16 % 2 = 0 ∨ f / 16 % 2 = 1 by omega) with h | h
  all_goals
    rw [h] at hs
    simp only [arcaderef1_Shift.f, hs, shiftV, shiftF, arcaderef1_Shift.j0, h, Option.bind_some, Int.reduceEq, Int.reduceBEq, if_true, if_false, reduceIte, Bool.false_eq_true, decide_true, decide_false]
    clear hs h
    revert a a0 a1
    exact of_fin (by decide +kernel)
theorem shift_4 (a f : Int) (a0 : 0 ≤ a) (a1 : a ≤ 255) (f0 : 0 ≤ f) (f1 : f ≤ 255) : arcaderef1_Shift.f 60 4 a f = some (shiftV 4 a f, shiftF 4 a f) := by
  have hs := has_16 f f0 f1
  rcases (show f / 16 % 2 = 0 ∨ f / 16 % 2 = 1 by omega) with h | h
  all_goals
    rw [h] at hs
    simp only [arcaderef1_Shift.f, hs, shiftV, shiftF, arcaderef1_Shift.j0, h, Option.bind_some, Int.reduceEq, Int.reduceBEq, if_true, if_false, reduceIte, Bool.false_eq_true, decide_true, decide_false]
    clear hs h
    revert a a0 a1
    exact of_fin (by decide +kernel)
theorem shift_5 (a f : Int) (a0 : 0 ≤ a) (a1 : a ≤ 255) (f0 : 0 ≤ f) (f1 : f ≤ 255) : arcaderef1_Shift.f 60 5 a f = some (shiftV 5 a f, shiftF 5 a f) := by
  have hs := has_16 f f0 f1
  rcases (show f / 16 % 2 = 0 ∨ f / 16 % 2 = 1 by omega) with h | h
  all_goals
    rw [h] at hs
    simp only [arcaderef1_Shift.f, hs, shiftV, shiftF, arcaderef1_Shift.j0, h, Option.bind_some, Int.reduceEq, Int.reduceBEq, if_true, if_false, reduceIte, Bool.false_eq_true, decide_true, decide_false]
    clear hs h
    revert a a0 a1
    exact of_fin (by decide +kernel)
theorem shift_6 (a f : Int) (a0 : 0 ≤ a) (a1 : a ≤ 255) (f0 : 0 ≤ f) (f1 : f ≤ 255) : arcaderef1_Shift.f 60 6 a f = some (shiftV 6 a f, shiftF 6 a f) := by
  have hs := has_16 f f0 f1
  rcases (show f / 16 % 2 = 0 ∨ f / 16 % 2 = 1 by omega) with h | h
  all_goals
    rw [h] at hs
    simp only [arcaderef1_Shift.f, hs, shiftV, shiftF, arcaderef1_Shift.j0, h, Option.bind_some, Int.reduceEq, Int.reduceBEq, if_true, if_false, reduceIte, Bool.false_eq_true, decide_true, decide_false]
    clear hs h
    revert a a0 a1
    exact of_fin (by decide +kernel)
theorem shift_7 (a f : Int) (a0 : 0 ≤ a) (a1 : a ≤ 255) (f0 : 0 ≤ f) (f1 : f ≤ 255) : arcaderef1_Shift.f 60 7 a f = some (shiftV 7 a f, shiftF 7 a f) := by
  have hs := has_16 f f0 f1
  rcases (show f / 16 % 2 = 0 ∨ f / 16 % 2 = 1 by omega) with h | h
  all_goals
    rw [h] at hs
    simp only [arcaderef1_Shift.f, hs, shiftV, shiftF, arcaderef1_Shift.j0, h, Option.bind_some, Int.reduceEq, Int.reduceBEq, if_true, if_false, reduceIte, Bool.false_eq_true, decide_true, decide_false]
    clear hs h
    revert a a0 a1
    exact of_fin (by decide +kernel)
theorem shift_no (op a f : Int) (h : op < 0 ∨ 8 ≤ op) (a0 : 0 ≤ a) (a1 : a ≤ 255) (f0 : 0 ≤ f) (f1 : f ≤ 255) : arcaderef1_Shift.f 60 op a f = some (shiftV op a f, shiftF op a f) := by
  have hs := has_16 f f0 f1
  have hc := clean_f f f0 f1
  have n0 : (op = 0) = False := eq_false (by omega)
  have m0 : (op == 0) = false := by rw [beq_eq_false_iff_ne]; omega
  have n1 : (op = 1) = False := eq_false (by omega)
  have m1 : (op == 1) = false := by rw [beq_eq_false_iff_ne]; omega
  have n2 : (op = 2) = False := eq_false (by omega)
  have m2 : (op == 2) = false := by rw [beq_eq_false_iff_ne]; omega
  have n3 : (op = 3) = False := eq_false (by omega)
  have m3 : (op == 3) = false := by rw [beq_eq_false_iff_ne]; omega
  have n4 : (op = 4) = False := eq_false (by omega)
  have m4 : (op == 4) = false := by rw [beq_eq_false_iff_ne]; omega
  have n5 : (op = 5) = False := eq_false (by omega)
  have m5 : (op == 5) = false := by rw [beq_eq_false_iff_ne]; omega
  have n6 : (op = 6) = False := eq_false (by omega)
  have m6 : (op == 6) = false := by rw [beq_eq_false_iff_ne]; omega
  have n7 : (op = 7) = False := eq_false (by omega)
  have m7 : (op == 7) = false := by rw [beq_eq_false_iff_ne]; omega
  have hb : arcaderef1_bits.f 60 (wrap64 a) 8 = some (bitsL 8 a) := by rw [w64 a (by omega) (by omega)]; exact bits_f8 60 a a0 (by omega) (by omega)
  have hl := len_bitsL 8 a
  simp only [arcaderef1_Shift.f, arcaderef1_Shift.j0, hs, hc, hb, shiftV, shiftF, n0, m0, n1, m1, n2, m2, n3, m3, n4, m4, n5, m5, n6, m6, n7, m7, Option.bind_some, Int.reduceEq, Int.reduceBEq, if_true, if_false, reduceIte, Bool.false_eq_true, decide_true, decide_false]
  simp [hl]
theorem rshift_f (op a f : Int) (a0 : 0 ≤ a) (a1 : a ≤ 255) (f0 : 0 ≤ f) (f1 : f ≤ 255) : arcaderef1_Shift.f 60 op a f = some (shiftV op a f, shiftF op a f) := by
  by_cases h : op < 0 ∨ 8 ≤ op
  · exact shift_no op a f h a0 a1 f0 f1
  · rcases (show op = 0 ∨ op = 1 ∨ op = 2 ∨ op = 3 ∨ op = 4 ∨ op = 5 ∨ op = 6 ∨ op = 7 by omega) with rfl | rfl | rfl | rfl | rfl | rfl | rfl | rfl
    · exact shift_0 a f a0 a1 f0 f1
    · exact shift_1 a f a0 a1 f0 f1
    · exact shift_2 a f a0 a1 f0 f1
    · exact shift_3 a f a0 a1 f0 f1
    · exact shift_4 a f a0 a1 f0 f1
    · exact shift_5 a f a0 a1 f0 f1
    · exact shift_6 a f a0 a1 f0 f1
    · exact shift_7 a f a0 a1 f0 f1
end Go.Proofs.YtpkogmcafgplgaaDoor.AluX
