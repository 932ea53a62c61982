/-
  Proved: the Go function AluRound returns true for all its arguments, and leaves all memory as it was. No condition.
-/
import Derived.Test.YtpkogmcafgplgaaRows
import Derived.WalkKit
import Derived.ProofKit
import Derived.OpenShut
import Derived.Test.YtpkogmcafgplgaaAluA
import Derived.Test.YtpkogmcafgplgaaAluB
import Derived.Test.YtpkogmcafgplgaaAluC
import Derived.Test.YtpkogmcafgplgaaAluP
import Derived.Test.YtpkogmcafgplgaaAluQ
import Derived.Test.YtpkogmcafgplgaaAluR
namespace Go.Proofs.Ytpkogmcafgplgaa.aluRound
open Go.ChangeShapes Go.WideShapes Go.ChangeAt Go.RowKit
open Go.Proofs.Ytpkogmcafgplgaa.AluA Go.Proofs.Ytpkogmcafgplgaa.AluB Go.Proofs.Ytpkogmcafgplgaa.AluC Go.Proofs.Ytpkogmcafgplgaa.AluP Go.Proofs.Ytpkogmcafgplgaa.AluQ Go.Proofs.Ytpkogmcafgplgaa.AluR
attribute [local go_sem] IntKind.wrap_u16
set_option linter.unusedVariables false      -- a walk need not use every 'w<i>' (that an integer argument fits its kind)

theorem own : ownKnob Try.prog.godebug = none := by kernel_rfl

/-! ### STEP 1: THE WALK: the Go text returns true. 'Grown w w'': the world has at most new blocks (Derived/RowKit3.lean). Part the cases AHEAD of 'go_enter' where a test parts the walk; take each callee by a contract of your own. -/
set_option maxRecDepth 100000 in
set_option maxHeartbeats 4000000 in
theorem walk (a0 : Int) (a1 : Int) (w0 : (Lit.int .i64 a0).wf = true) (w1 : (Lit.int .i64 a1).wf = true) (w : World) :
    Calls Try.prog 9 #[.int .i64 a0, .int .i64 a1] w fun e w' => e = .returned (.bool true) ∧ Grown w w' := by
  have hx : 0 ≤ a0 % 256 ∧ a0 % 256 ≤ 255 := by omega
  obtain ⟨c, c0, c1, ec, hro, hwo⟩ : ∃ c : Int, 0 ≤ c ∧ c ≤ 255 ∧ bits .and .u8 (a1 % 256) 240 = c ∧ roundOk (a0 % 256) c = true ∧ wOk (a0 % 256) c = true :=
    ⟨a1 % 256 / 16 * 16, by omega, by omega, and240 _ (by omega) (by omega), (round_all _ _ hx.1 hx.2 (by omega) (by omega)).1, (round_all _ _ hx.1 hx.2 (by omega) (by omega)).2⟩
  simp only [roundOk, Bool.and_eq_true, beq_iff_eq, bne_iff_ne] at hro
  obtain ⟨⟨⟨⟨⟨⟨⟨⟨⟨⟨⟨⟨r1, r2⟩, r3⟩, r4⟩, r5⟩, r6⟩, r7⟩, r8⟩, r9⟩, r10⟩, r11⟩, r12⟩, r13⟩ := hro
  have W9 := Lib.hid (w9 _ _ hwo)
  have U9 := Lib.hid (uV_9 _ hx.1 hx.2)
  have V9 := Lib.hid (vV_9 _ hx.1 hx.2)
  have R4 := Lib.hid r4; have R5 := Lib.hid r5; have R6 := Lib.hid r6; have R7 := Lib.hid r7; have R8 := Lib.hid r8; have R9 := Lib.hid r9; have R10 := Lib.hid r10; have R11 := Lib.hid r11; have R12 := Lib.hid r12; have R13 := Lib.hid r13
  clear r4 r5 r6 r7 r8 r9 r10 r11 r12 r13 hwo
  go_enter Try.func9, Try.ntmps9
  go_wp2_with (first | ((with_reducible refine (shift_all _ _ _ _ (by omega) (by omega) (by omega) (by omega)).mono ?_); rintro e w' ⟨rfl, ⟨_, _, _, _⟩, rfl⟩))
  clear r1 r2 r3
  go_loop [15, 16, 17, 18, 19] (fun u v p t i => ∃ k : Nat, k ≤ 9 ∧ i = .int .i64 k ∧ u = .int .u8 (uV k (a0 % 256)) ∧ v = .int .u8 (vV k (a0 % 256)) ∧ p = .int .u8 (itW k (a0 % 256) c).1 ∧ t = .int .u8 (itW k (a0 % 256) c).2) (fun _ _ _ _ i => 9 - (intOf i).toNat)
  case atStart => exact ⟨0, by omega, rfl, rfl, rfl, rfl, rfl⟩
  case round =>
    obtain ⟨k, hk, rfl, rfl, rfl, rfl, rfl⟩ := hrel
    have bu := uV_bd k _ hx.1 hx.2
    have bv := vV_bd k _ hx.1 hx.2
    have bw := itW_bd k _ _ hx.1 hx.2 c0 c1
    rcases (show k < 8 ∨ k = 8 ∨ k = 9 by omega) with h | h | h
    · go_wp2_with (first | ((with_reducible refine (shift_all _ _ _ _ (by omega) (by omega) (by omega) (by omega)).mono ?_); rintro e w' ⟨rfl, ⟨_, _, _, _⟩, rfl⟩))
      go_round
      case rel => exact ⟨k + 1, by omega, by go_num, by rw [uV_s k _ h], by rw [vV_s k _ h], rfl, rfl⟩
      case measure => simp [intOf]; omega
    · subst h
      go_wp2_with (first | ((with_reducible refine (shift_all _ _ _ _ (by omega) (by omega) (by omega) (by omega)).mono ?_); rintro e w' ⟨rfl, ⟨_, _, _, _⟩, rfl⟩))
      go_round
      case rel => exact ⟨9, by omega, by go_num, by rw [uV_e], by rw [vV_e], rfl, rfl⟩
      case measure => simp [intOf]
    · subst h
      have w9 := W9.out
      have u9 := U9.out
      have v9 := V9.out
      rw [w9.1, u9, v9]
      have r4 := R4.out; have r5 := R5.out; have r6 := R6.out; have r8 := R8.out; have r9 : (bits .and .u8 (turnF 7 (a0 % 256) c) 16 != bits .and .u8 c 16) = true := by rw [bne_iff_ne]; exact R9.out
      have r10 := R10.out; have r11 := R11.out; have r12 := R12.out; have r13 := R13.out
      have w9' := w9.2
      clear w9 u9 v9 R4 R5 R6 R8 R9 R10 R11 R12 R13 W9 U9 V9 bu bv
      go_wp2_with (first | ((with_reducible refine (shift_all _ _ _ _ (by omega) (by omega) (by omega) (by omega)).mono ?_); rintro e w' ⟨rfl, ⟨_, _, _, _⟩, rfl⟩) | ((with_reducible refine (turn_all _ _ _ _ (by omega) (by omega) (by omega) (by omega)).mono ?_); rintro e w' ⟨rfl, ⟨_, _, _, _⟩, rfl⟩) | ((with_reducible refine (arith_all _ _ _ _ _ (by omega) (by omega) (by omega) (by omega) (by omega) (by omega)).mono ?_); rintro e w' ⟨rfl, ⟨_, _, _, _⟩, rfl⟩))
      all_goals first | (go_ret; exact ⟨rfl, Grown.refl _⟩) | (have hne : ¬ turnV 5 (a0 % 256) c = bits .xor .u8 IntKind.u8.max (a0 % 256) := (by assumption); exact absurd R7.out.symm hne)

/-! ### THE ROW's STEP: WRITTEN OUT: LEAVE IT -/
set_option maxRecDepth 100000 in
theorem lifted (os : Os) (started : os.Started) (H : Type) (enc : TypeId × Value → H) :
    ReturnsInHanded {} Try.checked os 9 .any (Rows.aluRoundSpec.pre6 enc Try.prog Try.f9 Rows.aluRoundRow.domain false) (Rows.aluRoundSpec.post enc Try.prog Try.f9 false true false false) := by
  refine returnsInHanded_of_change (C := Try.checked) own started (by kernel_rfl) Try.func9
    (ChangeSpec.witness6 (enc := enc) (C := Try.checked) false ⟨#[], #[.int .i64 0, .int .i64 0], []⟩ 8 (by kernel_rfl) (by kernel_rfl) (by kernel_rfl) (by kernel_rfl)) ?_
  intro W base args ds gs before hval0 hW hcnd _
  have hval : ∀ (j : Nat) t v, Try.f9.params[j]? = some t → args[j]? = some v → Value.okWide Try.prog W .any base t v := hval0
  have hW' := hW
  obtain ⟨p, q, hA0, hV, rfl, hfz, hnd⟩ := hW
  have hA : DataW.TrodAll enc Try.prog W 0 (fun _ => true) true Try.f9.params.toList args.toList ds p := hA0
  rw [Try.params9] at hA hval
  obtain ⟨v0, vs0, d0, ds0, p0, q0, hargs, rfl, rfl, h0, r0⟩ := trodAll_cons hA
  obtain ⟨v1, vs1, d1, ds1, p1, q1, rfl, rfl, rfl, h1, r1⟩ := trodAll_cons r0
  obtain ⟨rfl, rfl, rfl⟩ := trodAll_nil r1
  obtain rfl : args = #[v0, v1] := by cases args; simp_all
  obtain ⟨rfl, rfl⟩ := trodVars_none hV
  obtain ⟨a0, rfl, rfl, rfl, w0⟩ := open_int Try.underlying3 (hval 0 3 v0 rfl rfl) h0
  obtain ⟨a1, rfl, rfl, rfl, w1⟩ := open_int Try.underlying3 (hval 1 3 v1 rfl rfl) h1
  clear hA0 hval0
  simp only [List.append_nil] at hW'
  refine (walk a0 a1 w0 w1 W).mono fun e W' ⟨he, hg⟩ => ?_
  subst he
  exact ⟨_, rfl, post_of_same (pa := []) (pv := []) hW' (fun _ _ _ => (trodAll_cons_mk (shut_bool Try.underlying4 _) trodAll_mk0)) (fun sp _ => (trodAll_cons_mk (shut_int Try.underlying3 w0) (trodAll_cons_mk (shut_int Try.underlying3 w1) trodAll_mk0))) (fun _ _ => rfl) rfl
    (hg.frame _) hg.2.1 (ok_one (by kernel_rfl) rfl (okWide_bool_mk Try.underlying4 _))⟩

theorem over : Rows.aluRoundRow.holds Try.pinned (OpenSpec.ofChange Rows.aluRoundSpec) :=
  OpenClaim.holds_of_wide 9 Try.f9 rfl rfl rfl rfl rfl rfl rfl ⟨rfl, rfl, rfl, rfl, rfl⟩ rfl rfl rfl rfl rfl (by kernel_rfl) Try.func9 (by kernel_rfl)
    (of_decide_eq_true (by kernel_rfl)) (by unfold Func.isWrapper; first | (rw [if_pos (by decide +kernel)]; kernel_rfl) | (rw [if_neg (by decide +kernel)]; exact ⟨rfl, rfl⟩))
    (fun os started H enc _ => lifted os started H enc)

/-- ████ THE STATEMENT ████ -/
theorem proved : Rows.AluRoundSaid :=
  over
#print axioms proved
end Go.Proofs.Ytpkogmcafgplgaa.aluRound

namespace Go.Proofs.Ytpkogmcafgplgaa
theorem aluRound_holds : Rows.AluRoundSaid := aluRound.proved
end Go.Proofs.Ytpkogmcafgplgaa
