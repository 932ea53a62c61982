/-
  Proved: the tied card of the Go function AluBits: for all arguments it returns true and leaves all memory as it was. Conditions: the package-level table alu.masks holds what its declaration lays (tied to the program's text).
-/
import Derived.Test.YtpkogmcafgplgaaDoorRows
import Derived.Test.YtpkogmcafgplgaaDoorCards
import Derived.Test.YtpkogmcafgplgaaDoorTie
import Derived.Test.YtpkogmcafgplgaaDoorAluD
import Derived.Test.YtpkogmcafgplgaaDoorAluK
import Derived.ProofKit
import Derived.LaidMore
import Derived.OpenShut
import Derived.SevenTiedAt
import Derived.Stop.Joined
namespace Go.Proofs.YtpkogmcafgplgaaDoor.aluBits
open Go.ChangeShapes Go.WideShapes Go.ChangeAt Go.WideMaps Go.WideElems Go.RowKit
open Go.Proofs.YtpkogmcafgplgaaDoor.AluA Go.Proofs.YtpkogmcafgplgaaDoor.AluB Go.Proofs.YtpkogmcafgplgaaDoor.AluC Go.Proofs.YtpkogmcafgplgaaDoor.AluP Go.Proofs.YtpkogmcafgplgaaDoor.AluD Go.Proofs.YtpkogmcafgplgaaDoor.AluK
set_option linter.unusedVariables false

theorem own : ownKnob Tryd.prog.godebug = none := by kernel_rfl
theorem gMasks : Tryd.prog.globalNamed "arcade/alu.masks" = some 0 := by kernel_rfl
theorem tMasks : (Tryd.prog.globals[0]?).map (·.type) = some 41 := by kernel_rfl
theorem c5 : Tryd.prog.cellsOf 5 = 1 := by kernel_rfl
theorem cM : Tryd.prog.cellsOf 41 = 8 := by kernel_rfl
theorem door_met (os : Os) (args : Array Value) : laidMetH Tryd.prog [("arcade/alu.masks", Rows.laid_arcade_alu_masks)] ((World.doorLaid Tryd.prog 400 os).forCall (fun _ _ => 0) ⟨#[], args, []⟩).memory :=
  laidMetH_of_parts3 (fuel := 8) (laidMet_of_run' 8 (by kernel_rfl) (by kernel_rfl)) (by kernel_rfl) (by kernel_rfl)
theorem eight {α : Type} (xs : List α) (h : xs.length = 8) : ∃ a b c d e f g i, xs = [a, b, c, d, e, f, g, i] := by
  match xs, h with
  | [a, b, c, d, e, f, g, i], _ => exact ⟨a, b, c, d, e, f, g, i, rfl⟩
theorem of_laid {W : World} (h : laidMetH Tryd.prog [("arcade/alu.masks", Rows.laid_arcade_alu_masks)] W) : Masks W := by
  rw [MakeChecks.laidMetH_plain _ _ _ (by kernel_rfl)] at h
  obtain ⟨ps, ⟨g0, t0, cs0, f0, p0, q0, hg0, ht0, hv0, hd0, _, _⟩, _, _⟩ := h
  obtain rfl := Option.some.inj (gMasks.symm.trans hg0)
  obtain rfl := Option.some.inj (tMasks.symm.trans ht0)
  obtain ⟨xs, m1, rfl, hx1, hlen, hn3, hel⟩ := DataW.trod_array Tryd.underlying41 hd0
  rw [cM] at hlen
  obtain ⟨l⟩ := cs0
  obtain ⟨v0, v1, v2, v3, v4, v5, v6, v7, rfl⟩ := eight l hlen
  obtain ⟨x0, x1, x2, x3, x4, x5, x6, x7, rfl⟩ := eight xs hn3
  simp only [Rows.laid_arcade_alu_masks, List.map_cons, List.map_nil, Prod.mk.injEq, DataW.agg.injEq, List.cons.injEq] at hx1
  obtain ⟨⟨y0, y1, y2, y3, y4, y5, y6, y7, _⟩, _⟩ := hx1
  rw [c5] at hel
  have one : ∀ (v : Value) (x : DataW Unit × List MemPlace) (n : Int), DataW.trod (fun _ => ()) Tryd.prog W 0 (fun _ => true) false m1 5 [v] = some x → .lit (.int .u8 n) = x.1 → v = .int .u8 n := by
    intro v x n h hx
    obtain ⟨k, e1, e2, _⟩ := DataW.trod_int Tryd.underlying5 h
    rw [e2] at hx
    simp only [DataW.lit.injEq, Lit.int.injEq] at hx
    rw [← hx.2] at e1
    simpa using e1
  have cell := World.var?_cell gMasks hv0
  obtain rfl := one v0 x0 1 (hel 0 (by decide)) y0
  obtain rfl := one v1 x1 2 (hel 1 (by decide)) y1
  obtain rfl := one v2 x2 4 (hel 2 (by decide)) y2
  obtain rfl := one v3 x3 8 (hel 3 (by decide)) y3
  obtain rfl := one v4 x4 16 (hel 4 (by decide)) y4
  obtain rfl := one v5 x5 32 (hel 5 (by decide)) y5
  obtain rfl := one v6 x6 64 (hel 6 (by decide)) y6
  obtain rfl := one v7 x7 128 (hel 7 (by decide)) y7
  exact ⟨cell 0, cell 1, cell 2, cell 3, cell 4, cell 5, cell 6, cell 7⟩

set_option maxHeartbeats 4000000 in
theorem walk (a0 a1 a2 : Int) (w0 : (Lit.int .i64 a0).wf = true) (w : World) (hm : Masks w) :
    Calls Tryd.prog 3 #[.int .i64 a0, .int .i64 a1, .int .i64 a2] w fun e w' => e = .returned (.bool true) ∧ w = w' := by
  have pb := pick_bd a0 8 (by omega)
  have pf := pick_bd a0 1099511627776 (by omega)
  have hx : 0 ≤ a1 % 256 ∧ a1 % 256 ≤ 255 := by omega
  have hf : 0 ≤ a2 % 256 ∧ a2 % 256 ≤ 255 := by omega
  generalize hk : pickV a0 8 = k at pb
  have hk8 := pb
  have e1 := on_bit k (a1 % 256) pb.1 pb.2 hx.1 hx.2
  have e2 := off_bit k (a1 % 256) pb.1 pb.2 hx.1 hx.2
  have e3 := or_32 (a2 % 256) hf.1 hf.2
  have e4 := or_160 (a2 % 256) hf.1 hf.2
  have e5 : maskV (8 + pickV a0 1099511627776) = 0 := maskV_no _ (by omega)
  have e6 : maskV (-(8 + pickV a0 1099511627776)) = 0 := maskV_no _ (by omega)
  have e7 := or_none (a1 % 256) hx.1 hx.2
  have e8 := andn_none (a1 % 256) hx.1 hx.2
  have b1 := bits_bd .or (a1 % 256) (maskV k)
  have b2 := bits_bd .andNot (a1 % 256) (maskV k)
  have e9 : bitV (8 + pickV a0 1099511627776) (a1 % 256) (a2 % 256) = bits .and .u8 (a2 % 256) 240 := by unfold bitV; rw [if_neg (by omega), and240 _ hf.1 hf.2]
  have e10 : bitV k (bits .or .u8 (a1 % 256) (maskV k)) (a2 % 256) = flagsV false false true (a2 % 256 / 16 % 2 == 1) := by unfold bitV; rw [if_pos (by omega), e1]
  have e11 : bitV k (bits .andNot .u8 (a1 % 256) (maskV k)) (a2 % 256) = flagsV true false true (a2 % 256 / 16 % 2 == 1) := by unfold bitV; rw [if_pos (by omega), e2]
  clear e1 e2
  rcases (show k = 0 ∨ k = 1 ∨ k = 2 ∨ k = 3 ∨ k = 4 ∨ k = 5 ∨ k = 6 ∨ k = 7 by omega) with rfl | rfl | rfl | rfl | rfl | rfl | rfl | rfl
  · have e12 : maskV 0 = 1 := rfl
    rw [e12] at b1 b2 e10 e11
    go_enter Tryd.func3, Tryd.ntmps3
    go_wp2_with (first | ((with_reducible refine (pick_any _ _ _ (by assumption) (by omega) (by omega)).mono ?_); rintro e w' ⟨rfl, ⟨_, _⟩, rfl⟩) | ((with_reducible refine (set_any _ _ _ (by assumption) (by omega) (by omega)).mono ?_); rintro e w' ⟨rfl, rfl⟩) | ((with_reducible refine (res_any _ _ _ (by assumption) (by omega) (by omega)).mono ?_); rintro e w' ⟨rfl, rfl⟩) | ((with_reducible refine (bit_any _ _ _ _ (by assumption) (by omega) (by omega) (by omega) (by omega)).mono ?_); rintro e w' ⟨rfl, rfl⟩))
    go_ret
    exact ⟨rfl, rfl⟩
  · have e12 : maskV 1 = 2 := rfl
    rw [e12] at b1 b2 e10 e11
    go_enter Tryd.func3, Tryd.ntmps3
    go_wp2_with (first | ((with_reducible refine (pick_any _ _ _ (by assumption) (by omega) (by omega)).mono ?_); rintro e w' ⟨rfl, ⟨_, _⟩, rfl⟩) | ((with_reducible refine (set_any _ _ _ (by assumption) (by omega) (by omega)).mono ?_); rintro e w' ⟨rfl, rfl⟩) | ((with_reducible refine (res_any _ _ _ (by assumption) (by omega) (by omega)).mono ?_); rintro e w' ⟨rfl, rfl⟩) | ((with_reducible refine (bit_any _ _ _ _ (by assumption) (by omega) (by omega) (by omega) (by omega)).mono ?_); rintro e w' ⟨rfl, rfl⟩))
    go_ret
    exact ⟨rfl, rfl⟩
  · have e12 : maskV 2 = 4 := rfl
    rw [e12] at b1 b2 e10 e11
    go_enter Tryd.func3, Tryd.ntmps3
    go_wp2_with (first | ((with_reducible refine (pick_any _ _ _ (by assumption) (by omega) (by omega)).mono ?_); rintro e w' ⟨rfl, ⟨_, _⟩, rfl⟩) | ((with_reducible refine (set_any _ _ _ (by assumption) (by omega) (by omega)).mono ?_); rintro e w' ⟨rfl, rfl⟩) | ((with_reducible refine (res_any _ _ _ (by assumption) (by omega) (by omega)).mono ?_); rintro e w' ⟨rfl, rfl⟩) | ((with_reducible refine (bit_any _ _ _ _ (by assumption) (by omega) (by omega) (by omega) (by omega)).mono ?_); rintro e w' ⟨rfl, rfl⟩))
    go_ret
    exact ⟨rfl, rfl⟩
  · have e12 : maskV 3 = 8 := rfl
    rw [e12] at b1 b2 e10 e11
    go_enter Tryd.func3, Tryd.ntmps3
    go_wp2_with (first | ((with_reducible refine (pick_any _ _ _ (by assumption) (by omega) (by omega)).mono ?_); rintro e w' ⟨rfl, ⟨_, _⟩, rfl⟩) | ((with_reducible refine (set_any _ _ _ (by assumption) (by omega) (by omega)).mono ?_); rintro e w' ⟨rfl, rfl⟩) | ((with_reducible refine (res_any _ _ _ (by assumption) (by omega) (by omega)).mono ?_); rintro e w' ⟨rfl, rfl⟩) | ((with_reducible refine (bit_any _ _ _ _ (by assumption) (by omega) (by omega) (by omega) (by omega)).mono ?_); rintro e w' ⟨rfl, rfl⟩))
    go_ret
    exact ⟨rfl, rfl⟩
  · have e12 : maskV 4 = 16 := rfl
    rw [e12] at b1 b2 e10 e11
    go_enter Tryd.func3, Tryd.ntmps3
    go_wp2_with (first | ((with_reducible refine (pick_any _ _ _ (by assumption) (by omega) (by omega)).mono ?_); rintro e w' ⟨rfl, ⟨_, _⟩, rfl⟩) | ((with_reducible refine (set_any _ _ _ (by assumption) (by omega) (by omega)).mono ?_); rintro e w' ⟨rfl, rfl⟩) | ((with_reducible refine (res_any _ _ _ (by assumption) (by omega) (by omega)).mono ?_); rintro e w' ⟨rfl, rfl⟩) | ((with_reducible refine (bit_any _ _ _ _ (by assumption) (by omega) (by omega) (by omega) (by omega)).mono ?_); rintro e w' ⟨rfl, rfl⟩))
    go_ret
    exact ⟨rfl, rfl⟩
  · have e12 : maskV 5 = 32 := rfl
    rw [e12] at b1 b2 e10 e11
    go_enter Tryd.func3, Tryd.ntmps3
    go_wp2_with (first | ((with_reducible refine (pick_any _ _ _ (by assumption) (by omega) (by omega)).mono ?_); rintro e w' ⟨rfl, ⟨_, _⟩, rfl⟩) | ((with_reducible refine (set_any _ _ _ (by assumption) (by omega) (by omega)).mono ?_); rintro e w' ⟨rfl, rfl⟩) | ((with_reducible refine (res_any _ _ _ (by assumption) (by omega) (by omega)).mono ?_); rintro e w' ⟨rfl, rfl⟩) | ((with_reducible refine (bit_any _ _ _ _ (by assumption) (by omega) (by omega) (by omega) (by omega)).mono ?_); rintro e w' ⟨rfl, rfl⟩))
    go_ret
    exact ⟨rfl, rfl⟩
  · have e12 : maskV 6 = 64 := rfl
    rw [e12] at b1 b2 e10 e11
    go_enter Tryd.func3, Tryd.ntmps3
    go_wp2_with (first | ((with_reducible refine (pick_any _ _ _ (by assumption) (by omega) (by omega)).mono ?_); rintro e w' ⟨rfl, ⟨_, _⟩, rfl⟩) | ((with_reducible refine (set_any _ _ _ (by assumption) (by omega) (by omega)).mono ?_); rintro e w' ⟨rfl, rfl⟩) | ((with_reducible refine (res_any _ _ _ (by assumption) (by omega) (by omega)).mono ?_); rintro e w' ⟨rfl, rfl⟩) | ((with_reducible refine (bit_any _ _ _ _ (by assumption) (by omega) (by omega) (by omega) (by omega)).mono ?_); rintro e w' ⟨rfl, rfl⟩))
    go_ret
    exact ⟨rfl, rfl⟩
  · have e12 : maskV 7 = 128 := rfl
    rw [e12] at b1 b2 e10 e11
    go_enter Tryd.func3, Tryd.ntmps3
    go_wp2_with (first | ((with_reducible refine (pick_any _ _ _ (by assumption) (by omega) (by omega)).mono ?_); rintro e w' ⟨rfl, ⟨_, _⟩, rfl⟩) | ((with_reducible refine (set_any _ _ _ (by assumption) (by omega) (by omega)).mono ?_); rintro e w' ⟨rfl, rfl⟩) | ((with_reducible refine (res_any _ _ _ (by assumption) (by omega) (by omega)).mono ?_); rintro e w' ⟨rfl, rfl⟩) | ((with_reducible refine (bit_any _ _ _ _ (by assumption) (by omega) (by omega) (by omega) (by omega)).mono ?_); rintro e w' ⟨rfl, rfl⟩))
    go_ret
    exact ⟨rfl, rfl⟩

set_option maxRecDepth 100000 in
theorem lifted (os : Os) (started : os.Started) (H : Type) (enc : TypeId × Value → H) :
    ReturnsInHanded {} Tryd.checked os 3 .any (fun w args => (Rows.aluBitsSpec.pre enc Tryd.prog Tryd.f3 [] false w args ∧ laidMetH Tryd.prog [("arcade/alu.masks", Rows.laid_arcade_alu_masks)] w) ∧ sizedMet enc Tryd.prog Tryd.f3 (OpenSpec.ofChange Rows.aluBitsSpec) false w args)
      (Rows.aluBitsSpec.post enc Tryd.prog Tryd.f3 false true false false) := by
  refine returnsInHanded_of_change_and (C := Tryd.checked) (X := fun w _ => laidMetH Tryd.prog [("arcade/alu.masks", Rows.laid_arcade_alu_masks)] w) (fun _ _ _ hh h => h.of_heap hh) own started (by kernel_rfl) Tryd.func3
    (ChangeSpec.witness_shaped (enc := enc) (C := Tryd.checked) (os := os) (X := fun w _ => laidMetH Tryd.prog [("arcade/alu.masks", Rows.laid_arcade_alu_masks)] w) false (World.doorLaid Tryd.prog 400 os) #[.int .i64 0, .int .i64 0, .int .i64 0] 8 rfl (World.shaped_of_RefB (by kernel_rfl) (by kernel_rfl)) (by kernel_rfl) (by kernel_rfl) (by kernel_rfl) (door_met os _)) ?_
  intro W base args ds gs before hval0 hW _ _ hL _
  have hval : ∀ (j : Nat) t v, Tryd.f3.params[j]? = some t → args[j]? = some v → Value.okWide Tryd.prog W .any base t v := hval0
  have hW' := hW
  obtain ⟨p, q, hA0, hV, rfl, hfz, hnd⟩ := hW
  have hA : DataW.TrodAll enc Tryd.prog W 0 (fun _ => true) true Tryd.f3.params.toList args.toList ds p := hA0
  rw [Tryd.params3] at hA hval
  obtain ⟨v0, vs0, d0, ds0, p0, q0, hargs, rfl, rfl, h0, r0⟩ := trodAll_cons hA
  obtain ⟨v1, vs1, d1, ds1, p1, q1, rfl, rfl, rfl, h1, r1⟩ := trodAll_cons r0
  obtain ⟨v2, vs2, d2, ds2, p2, q2, rfl, rfl, rfl, h2, r2⟩ := trodAll_cons r1
  obtain ⟨rfl, rfl, rfl⟩ := trodAll_nil r2
  obtain rfl : args = #[v0, v1, v2] := by cases args; simp_all
  obtain ⟨rfl, rfl⟩ := trodVars_none hV
  obtain ⟨a0, rfl, rfl, rfl, w0⟩ := open_int Tryd.underlying3 (hval 0 3 v0 rfl rfl) h0
  obtain ⟨a1, rfl, rfl, rfl, w1⟩ := open_int Tryd.underlying3 (hval 1 3 v1 rfl rfl) h1
  obtain ⟨a2, rfl, rfl, rfl, w2⟩ := open_int Tryd.underlying3 (hval 2 3 v2 rfl rfl) h2
  clear hA0 hval0
  simp only [List.append_nil] at hW'
  refine (walk a0 a1 a2 w0 W (of_laid hL)).mono fun e W' ⟨he, hw⟩ => ?_
  subst he; subst hw
  exact ⟨_, rfl, post_of_same (pa := []) (pv := []) hW' (fun _ _ _ => (trodAll_cons_mk (shut_bool Tryd.underlying4 _) trodAll_mk0)) (fun sp _ => (trodAll_cons_mk (shut_int Tryd.underlying3 w0) (trodAll_cons_mk (shut_int Tryd.underlying3 w1) (trodAll_cons_mk (shut_int Tryd.underlying3 w2) trodAll_mk0)))) (fun _ _ => rfl) rfl
    (World.keptBut_refl _ _) (fun _ => rfl) (ok_one (by kernel_rfl) rfl (okWide_bool_mk Tryd.underlying4 _))⟩

theorem over : Rows.aluBitsRow.holds Tryd.pinned (OpenSpec.ofChange Rows.aluBitsSpec) :=
  OpenClaim.holds_of_wide 3 Tryd.f3 rfl rfl rfl rfl rfl rfl rfl ⟨rfl, rfl, rfl, rfl, rfl⟩ rfl rfl rfl rfl rfl (by kernel_rfl) Tryd.func3 (by kernel_rfl)
    (of_decide_eq_true (by kernel_rfl)) (by unfold Func.isWrapper; first | (rw [if_pos (by decide +kernel)]; kernel_rfl) | (rw [if_neg (by decide +kernel)]; exact ⟨rfl, rfl⟩))
    (fun os started H enc _ => lifted os started H enc)
end Go.Proofs.YtpkogmcafgplgaaDoor.aluBits
namespace Go.Proofs.YtpkogmcafgplgaaDoor
theorem aluBits_holds : Rows.AluBitsCardSaid :=
  Claim7.holds_tied_plain_at .later [] [.data] true (true, "d78badccdea163af251171cf0e7015e9771753cbdcf946f7f41c3b8175065e3b") false
    aluBits.over (fun _ h => by cases h) (by kernel_rfl) (fun _ h => by cases h) aluBits_row_tie rfl ⟨rfl, rfl⟩ (by kernel_rfl) rfl
    (fun f fn hf hfn => by
      obtain rfl : f = 3 := Option.some.inj ((show Tryd.prog.funcNamed "arcade/arcadelaw1.AluBits" = some 3 by kernel_rfl).symm.trans hf) |>.symm
      obtain rfl : fn = Tryd.f3 := (Option.some.inj (Tryd.func3.symm.trans hfn)).symm
      exact ⟨by kernel_rfl, fun j t ht => by
        rw [Tryd.params3] at ht
        have hm : t ∈ [3, 3, 3] := by simpa using Array.mem_of_getElem? ht
        have hall : ([3, 3, 3].all fun u => !Tryd.prog.wantsStandIn u) = true := by kernel_rfl
        exact (show Tryd.prog.wantsStandIn t = false by simpa using List.all_eq_true.1 hall t hm)⟩)
    (by kernel_rfl)
#print axioms aluBits_holds
end Go.Proofs.YtpkogmcafgplgaaDoor
