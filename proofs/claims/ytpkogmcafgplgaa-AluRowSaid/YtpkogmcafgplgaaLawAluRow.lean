/-
  Proved: the Go function AluRow returns true for all its arguments, and leaves all memory as it was. No condition.
-/
import Derived.Test.YtpkogmcafgplgaaRows
import Derived.WalkKit
import Derived.ProofKit
import Derived.OpenShut
import Derived.Test.YtpkogmcafgplgaaAluA
import Derived.Test.YtpkogmcafgplgaaAluB
import Derived.Test.YtpkogmcafgplgaaAluC
import Derived.Test.YtpkogmcafgplgaaAluP
import Derived.Test.YtpkogmcafgplgaaAluT
import Derived.Test.YtpkogmcafgplgaaAluU
import Derived.Test.YtpkogmcafgplgaaAluV
namespace Go.Proofs.Ytpkogmcafgplgaa.aluRow
open Go.ChangeShapes Go.WideShapes Go.ChangeAt Go.RowKit
open Go.Proofs.Ytpkogmcafgplgaa.AluA Go.Proofs.Ytpkogmcafgplgaa.AluB Go.Proofs.Ytpkogmcafgplgaa.AluC Go.Proofs.Ytpkogmcafgplgaa.AluP Go.Proofs.Ytpkogmcafgplgaa.AluT Go.Proofs.Ytpkogmcafgplgaa.AluU Go.Proofs.Ytpkogmcafgplgaa.AluV
attribute [local go_sem] IntKind.wrap_u16
set_option linter.unusedVariables false      -- a walk need not use every 'w<i>' (that an integer argument fits its kind)

theorem own : ownKnob Try.prog.godebug = none := by kernel_rfl

/-! ### STEP 1: THE WALK: the Go text returns true. 'Grown w w'': the world has at most new blocks (Derived/RowKit3.lean). Part the cases AHEAD of 'go_enter' where a test parts the walk; take each callee by a contract of your own. -/
set_option maxRecDepth 100000 in
set_option maxHeartbeats 4000000 in
theorem walk (a0 : Int) (a1 : Int) (w0 : (Lit.int .i64 a0).wf = true) (w1 : (Lit.int .i64 a1).wf = true) (w : World) :
    Calls Try.prog 3 #[.int .i64 a0, .int .i64 a1] w fun e w' => e = .returned (.bool true) ∧ Below w.heap.size w w' := by
  go_enter Try.func3, Try.ntmps3
  go_wp2_with fail
  go_loopw [5] (fun b wr => ∃ k : Nat, k ≤ 256 ∧ b = .int .i64 k ∧ Hid (Below w.heap.size w wr)) (fun b _ => 256 - (intOf b).toNat)
  case atStart => exact ⟨0, by omega, rfl, Lib.hid (Below.refl _ _)⟩
  case round =>
    obtain ⟨k, hk, rfl, HB⟩ := hrel
    obtain ⟨wo, rfl⟩ : ∃ wo : World, wo = wr := ⟨_, rfl⟩
    by_cases hlt : k < 256
    · have hd : decide ((k : Int) < 256) = true := decide_eq_true (by omega)
      go_wp2_with fail
      go_loopw [6] (fun o wr => ∃ j : Nat, j ≤ 10 ∧ o = .int .i64 ((j : Int) - 1) ∧ Hid (Below w.heap.size w wr)) (fun o _ => (9 - intOf o).toNat)
      case atStart => exact ⟨0, by omega, rfl, HB⟩
      case round =>
        obtain ⟨j, hj, rfl, HB2⟩ := hrel
        by_cases hlt2 : j < 10
        · go_wp2_with (first | ((with_reducible refine (arith_all _ _ _ _ _ (by omega) (by omega) (by omega) (by omega) (by omega) (by omega)).mono ?_); rintro e w' ⟨rfl, ⟨_, _, _, _⟩, rfl⟩) | ((with_reducible refine (rarith _ _ _ _ _ (by omega) (by omega) (by omega) (by omega) (by omega) (by omega)).mono ?_); rintro e w' ⟨rfl, hb⟩; have HB3 := Lib.hid (bt HB2.out hb); clear hb))
          exact ⟨⟨j + 1, by omega, by go_num, HB3⟩, by simp [intOf]; omega⟩
        · go_wp2_with fail
          exact ⟨⟨k + 1, by omega, by go_num, HB2⟩, by simp [intOf]; omega⟩
    · go_wp2_with fail
      go_ret
      exact ⟨rfl, HB.out⟩

/-! ### THE ROW's STEP: WRITTEN OUT: LEAVE IT -/
set_option maxRecDepth 100000 in
theorem lifted (os : Os) (started : os.Started) (H : Type) (enc : TypeId × Value → H) :
    ReturnsInHanded {} Try.checked os 3 .any (Rows.aluRowSpec.pre6 enc Try.prog Try.f3 Rows.aluRowRow.domain false) (Rows.aluRowSpec.post enc Try.prog Try.f3 false true false false) := by
  refine returnsInHanded_of_change (C := Try.checked) own started (by kernel_rfl) Try.func3
    (ChangeSpec.witness6 (enc := enc) (C := Try.checked) false ⟨#[], #[.int .i64 0, .int .i64 0], []⟩ 8 (by kernel_rfl) (by kernel_rfl) (by kernel_rfl) (by kernel_rfl)) ?_
  intro W base args ds gs before hval0 hW hcnd _
  have hval : ∀ (j : Nat) t v, Try.f3.params[j]? = some t → args[j]? = some v → Value.okWide Try.prog W .any base t v := hval0
  have hW' := hW
  obtain ⟨p, q, hA0, hV, rfl, hfz, hnd⟩ := hW
  have hA : DataW.TrodAll enc Try.prog W 0 (fun _ => true) true Try.f3.params.toList args.toList ds p := hA0
  rw [Try.params3] at hA hval
  obtain ⟨v0, vs0, d0, ds0, p0, q0, hargs, rfl, rfl, h0, r0⟩ := trodAll_cons hA
  obtain ⟨v1, vs1, d1, ds1, p1, q1, rfl, rfl, rfl, h1, r1⟩ := trodAll_cons r0
  obtain ⟨rfl, rfl, rfl⟩ := trodAll_nil r1
  obtain rfl : args = #[v0, v1] := by cases args; simp_all
  obtain ⟨rfl, rfl⟩ := trodVars_none hV
  obtain ⟨a0, rfl, rfl, rfl, w0⟩ := open_int Try.underlying3 (hval 0 3 v0 rfl rfl) h0
  obtain ⟨a1, rfl, rfl, rfl, w1⟩ := open_int Try.underlying3 (hval 1 3 v1 rfl rfl) h1
  clear hA0 hval0
  simp only [List.append_nil] at hW'
  refine (walk a0 a1 w0 w1 W).mono fun e W' ⟨he, hg⟩ => ?_
  subst he
  exact ⟨_, rfl, _, _, _, [], _, [], hW', trodAll_mk1 (shut_bool Try.underlying4 _), (trodAll_cons_mk (shut_int Try.underlying3 w0) (trodAll_cons_mk (shut_int Try.underlying3 w1) trodAll_mk0)), rfl, hg.frame _, fun h => by cases h⟩

theorem over : Rows.aluRowRow.holds Try.pinned (OpenSpec.ofChange Rows.aluRowSpec) :=
  OpenClaim.holds_of_wide 3 Try.f3 rfl rfl rfl rfl rfl rfl rfl ⟨rfl, rfl, rfl, rfl, rfl⟩ rfl rfl rfl rfl rfl (by kernel_rfl) Try.func3 (by kernel_rfl)
    (of_decide_eq_true (by kernel_rfl)) (by unfold Func.isWrapper; first | (rw [if_pos (by decide +kernel)]; kernel_rfl) | (rw [if_neg (by decide +kernel)]; exact ⟨rfl, rfl⟩))
    (fun os started H enc _ => lifted os started H enc)

/-- ████ THE STATEMENT ████ -/
theorem proved : Rows.AluRowSaid :=
  over
#print axioms proved
end Go.Proofs.Ytpkogmcafgplgaa.aluRow

namespace Go.Proofs.Ytpkogmcafgplgaa
theorem aluRow_holds : Rows.AluRowSaid := aluRow.proved
end Go.Proofs.Ytpkogmcafgplgaa
