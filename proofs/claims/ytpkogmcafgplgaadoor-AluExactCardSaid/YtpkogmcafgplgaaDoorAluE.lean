import Derived.Test.YtpkogmcafgplgaaDoorAluZ
import Derived.Test.YtpkogmcafgplgaaDoorAluD
import Derived.Test.YtpkogmcafgplgaaDoorAluK
namespace Go.Proofs.YtpkogmcafgplgaaDoor.AluE
open Go.RowKit Go.Proofs.YtpkogmcafgplgaaDoor.AluA Go.Proofs.YtpkogmcafgplgaaDoor.AluB Go.Proofs.YtpkogmcafgplgaaDoor.AluC Go.Proofs.YtpkogmcafgplgaaDoor.AluD Go.Proofs.YtpkogmcafgplgaaDoor.AluK Go.Proofs.YtpkogmcafgplgaaDoor.AluP Go.Proofs.YtpkogmcafgplgaaDoor.AluT Go.Proofs.YtpkogmcafgplgaaDoor.AluU Go.Proofs.YtpkogmcafgplgaaDoor.AluV Go.Proofs.YtpkogmcafgplgaaDoor.AluX Go.Proofs.YtpkogmcafgplgaaDoor.AluY Go.Proofs.YtpkogmcafgplgaaDoor.AluZ Go.Proofs.YtpkogmcafgplgaaDoorW.PrintWords Go.Proofs.YtpkogmcafgplgaaDoor.PAluExact
set_option linter.unusedVariables false
attribute [local go_sem] IntKind.wrap_u16
/-! the reference's calls as contracts; one job of the law -/
theorem rstep_0 (a f : Int) (w : World) (a0 : 0 ≤ a) (a1 : a ≤ 255) (f0 : 0 ≤ f) (f1 : f ≤ 255) :
    Calls Tryd.prog 16 #[.int .i64 0, .int .u8 a, .int .u8 f] w fun e w' => e = .returned (.tuple #[.int .u8 (stepV 0 a f), .int .u8 (stepF 0 a f)]) ∧ Below w.heap.size w w' := by
  go_enter Tryd.func16, Tryd.ntmps16
  go_wp2_with fail
  refine (rhas16 f _ f0 f1).mono ?_
  rintro e w1 ⟨rfl, hb1⟩
  have HB := Lib.hid hb1
  clear hb1
  go_wp2_with ((with_reducible refine (rflags _ _ _ _ _).mono ?_); rintro e w' ⟨rfl, rfl⟩)
  go_ret2
  exact ⟨Go.Proofs.YtpkogmcafgplgaaDoor.AluV.ret2 (by show _ = (a + 1) % 256; omega) (by rw [AluP.sF0]), HB.out⟩
theorem rstep_1 (a f : Int) (w : World) (a0 : 0 ≤ a) (a1 : a ≤ 255) (f0 : 0 ≤ f) (f1 : f ≤ 255) :
    Calls Tryd.prog 16 #[.int .i64 1, .int .u8 a, .int .u8 f] w fun e w' => e = .returned (.tuple #[.int .u8 (stepV 1 a f), .int .u8 (stepF 1 a f)]) ∧ Below w.heap.size w w' := by
  go_enter Tryd.func16, Tryd.ntmps16
  go_wp2_with fail
  refine (rhas16 f _ f0 f1).mono ?_
  rintro e w1 ⟨rfl, hb1⟩
  have HB := Lib.hid hb1
  clear hb1
  go_wp2_with ((with_reducible refine (rflags _ _ _ _ _).mono ?_); rintro e w' ⟨rfl, rfl⟩)
  go_ret2
  exact ⟨Go.Proofs.YtpkogmcafgplgaaDoor.AluV.ret2 (by show _ = (a - 1) % 256; omega) (by rw [AluP.sF1]; congr 1 <;> (rw [Bool.eq_iff_iff]; simp; omega)), HB.out⟩
theorem rstep_no (op a f : Int) (w : World) (h : op < 0 ∨ 2 ≤ op) (a0 : 0 ≤ a) (a1 : a ≤ 255) (f0 : 0 ≤ f) (f1 : f ≤ 255) :
    Calls Tryd.prog 16 #[.int .i64 op, .int .u8 a, .int .u8 f] w fun e w' => e = .returned (.tuple #[.int .u8 a, .int .u8 (f / 16 * 16)]) ∧ Below w.heap.size w w' := by
  have n0 : (op == 0) = false := by rw [beq_eq_false_iff_ne]; omega
  have n1 : (op == 1) = false := by rw [beq_eq_false_iff_ne]; omega
  go_enter Tryd.func16, Tryd.ntmps16
  go_wp2_with fail
  refine (rhas16 f _ f0 f1).mono ?_
  rintro e w1 ⟨rfl, hb1⟩
  go_wp2_with fail
  refine (rclean f _ f0 f1).mono ?_
  rintro e w5 ⟨rfl, hb5⟩
  have HB := Lib.hid (bt hb1 hb5)
  clear hb1 hb5
  go_wp2_with fail
  go_ret2
  exact ⟨rfl, HB.out⟩
theorem rstep (op a f : Int) (w : World) (a0 : 0 ≤ a) (a1 : a ≤ 255) (f0 : 0 ≤ f) (f1 : f ≤ 255) :
    Calls Tryd.prog 16 #[.int .i64 op, .int .u8 a, .int .u8 f] w fun e w' => e = .returned (.tuple #[.int .u8 (stepV op a f), .int .u8 (stepF op a f)]) ∧ Below w.heap.size w w' := by
  by_cases h : op < 0 ∨ 2 ≤ op
  · refine (rstep_no op a f w h a0 a1 f0 f1).mono ?_
    rintro e w' ⟨rfl, hb⟩
    refine ⟨Go.Proofs.YtpkogmcafgplgaaDoor.AluV.ret2 ?_ ?_, hb⟩
    · unfold stepV; repeat rw [if_neg (by omega)]
    · unfold stepF; repeat rw [if_neg (by omega)]
  · rcases (show op = 0 ∨ op = 1 by omega) with rfl | rfl
    · exact rstep_0 a f w a0 a1 f0 f1
    · exact rstep_1 a f w a0 a1 f0 f1
theorem rshift (op a f : Int) (w : World) (a0 : 0 ≤ a) (a1 : a ≤ 255) (f0 : 0 ≤ f) (f1 : f ≤ 255) :
    Calls Tryd.prog 18 #[.int .i64 op, .int .u8 a, .int .u8 f] w fun e w' => e = .returned (.tuple #[.int .u8 (shiftV op a f), .int .u8 (shiftF op a f)]) ∧ Below w.heap.size w w' :=
  arcaderef1_Shift.calls 60 op a f _ _ w (rshift_f op a f a0 a1 f0 f1)
theorem rturn (op a f : Int) (w : World) (a0 : 0 ≤ a) (a1 : a ≤ 255) (f0 : 0 ≤ f) (f1 : f ≤ 255) :
    Calls Tryd.prog 20 #[.int .i64 op, .int .u8 a, .int .u8 f] w fun e w' => e = .returned (.tuple #[.int .u8 (turnV op a f), .int .u8 (turnF op a f)]) ∧ Below w.heap.size w w' :=
  arcaderef1_Turn.calls 61 op a f _ _ w (rturn_f op a f a0 a1 f0 f1)
theorem rbit (op a f : Int) (w : World) (a0 : 0 ≤ a) (a1 : a ≤ 255) (f0 : 0 ≤ f) (f1 : f ≤ 255) :
    Calls Tryd.prog 21 #[.int .i64 op, .int .u8 a, .int .u8 f] w fun e w' => e = .returned (.int .u8 (bitV op a f)) ∧ Below w.heap.size w w' :=
  arcaderef1_Bit.calls 60 op a f _ w (rbit_f op a f a0 a1 f0 f1)
theorem rres (op a : Int) (w : World) (a0 : 0 ≤ a) (a1 : a ≤ 255) :
    Calls Tryd.prog 22 #[.int .i64 op, .int .u8 a] w fun e w' => e = .returned (.int .u8 (bits .andNot .u8 a (maskV op))) ∧ Below w.heap.size w w' :=
  arcaderef1_Res.calls 60 op a _ w (rres_f op a a0 a1)
theorem rset (op a : Int) (w : World) (a0 : 0 ≤ a) (a1 : a ≤ 255) :
    Calls Tryd.prog 23 #[.int .i64 op, .int .u8 a] w fun e w' => e = .returned (.int .u8 (bits .or .u8 a (maskV op))) ∧ Below w.heap.size w w' :=
  arcaderef1_Set.calls 60 op a _ w (rset_f op a a0 a1)
theorem raddword (a b f : Int) (w : World) (a0 : 0 ≤ a) (a1 : a ≤ 65535) (b0 : 0 ≤ b) (b1 : b ≤ 65535) (f0 : 0 ≤ f) (f1 : f ≤ 255) :
    Calls Tryd.prog 25 #[.int .u16 a, .int .u16 b, .int .u8 f] w fun e w' => e = .returned (.tuple #[.int .u16 ((a + b) % 65536), .int .u8 (flagsV (f / 128 == 1) false (decide (4095 < a % 4096 + b % 4096)) (decide (65535 < a + b)))]) ∧ Below w.heap.size w w' :=
  arcaderef1_AddWord.calls 60 a b f _ _ w (raddword_f a b a0 a1 b0 b1 f f0 f1)
theorem raddoff (a b : Int) (w : World) (a0 : 0 ≤ a) (a1 : a ≤ 65535) (b0 : 0 ≤ b) (b1 : b ≤ 255) :
    Calls Tryd.prog 27 #[.int .u16 a, .int .u8 b] w fun e w' => e = .returned (.tuple #[.int .u16 ((a + b - b / 128 * 256) % 65536), .int .u8 (flagsV false false (decide (15 < a % 16 + b % 16)) (decide (255 < a % 256 + b)))]) ∧ Below w.heap.size w w' :=
  arcaderef1_AddOffset.calls 60 a b _ _ w (raddoff_f a b a0 a1 b0 b1)
end Go.Proofs.YtpkogmcafgplgaaDoor.AluE
