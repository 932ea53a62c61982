import Derived.Test.YtpkogmcafgplgaaDoorAluE
namespace Go.Proofs.YtpkogmcafgplgaaDoor.AluG
open Go.RowKit Go.Proofs.YtpkogmcafgplgaaDoor.AluA Go.Proofs.YtpkogmcafgplgaaDoor.AluB Go.Proofs.YtpkogmcafgplgaaDoor.AluC Go.Proofs.YtpkogmcafgplgaaDoor.AluD Go.Proofs.YtpkogmcafgplgaaDoor.AluK Go.Proofs.YtpkogmcafgplgaaDoor.AluP Go.Proofs.YtpkogmcafgplgaaDoor.AluT Go.Proofs.YtpkogmcafgplgaaDoor.AluU Go.Proofs.YtpkogmcafgplgaaDoor.AluV Go.Proofs.YtpkogmcafgplgaaDoor.AluE Go.Proofs.YtpkogmcafgplgaaDoorW.PrintWords Go.Proofs.YtpkogmcafgplgaaDoor.PAluExact
set_option linter.unusedVariables false
attribute [local go_sem] IntKind.wrap_u16
theorem masks_below {w w' : World} (h : Masks w) (hb : Below w.heap.size w w') (h0 : 0 < w.heap.size) : Masks w' :=
  ⟨(hb.cell (p := ⟨0, 0, none⟩) h0).trans h.m0, (hb.cell (p := ⟨0, 1, none⟩) h0).trans h.m1, (hb.cell (p := ⟨0, 2, none⟩) h0).trans h.m2, (hb.cell (p := ⟨0, 3, none⟩) h0).trans h.m3, (hb.cell (p := ⟨0, 4, none⟩) h0).trans h.m4, (hb.cell (p := ⟨0, 5, none⟩) h0).trans h.m5, (hb.cell (p := ⟨0, 6, none⟩) h0).trans h.m6, (hb.cell (p := ⟨0, 7, none⟩) h0).trans h.m7⟩

set_option maxHeartbeats 2000000 in
set_option maxRecDepth 100000 in
theorem done_0 (kd op a b f : Int) (w : World) (hk : pickV kd 9 = 0) (wk : (Lit.int .i64 kd).wf = true) (hm : Masks w) (h0 : 0 < w.heap.size) :
    Calls Tryd.prog 9 #[.agg #[.int .i64 kd, .int .i64 op, .int .i64 a, .int .i64 b, .int .i64 f]] w fun e w' => e = .returned (.bool true) ∧ Below w.heap.size w w' := by
  have HM : Masks (w.alloc (.cells #[.int .i64 kd, .int .i64 op, .int .i64 a, .int .i64 b, .int .i64 f] 29)) := masks_below hm ((Below.refl _ _).alloc (Nat.le_refl _) _) h0
  go_enter Tryd.func9, Tryd.ntmps9
  go_wp2_with (first | ((with_reducible refine (pick_any _ _ _ (by assumption) (by omega) (by omega)).mono ?_); rintro e w' ⟨rfl, ⟨_, _⟩, rfl⟩) | ((with_reducible refine (arith_all _ _ _ _ _ (by omega) (by omega) (by omega) (by omega) (by omega) (by omega)).mono ?_); rintro e w' ⟨rfl, ⟨_, _, _, _⟩, rfl⟩) | ((with_reducible refine (rarith _ _ _ _ _ (by omega) (by omega) (by omega) (by omega) (by omega) (by omega)).mono ?_); rintro e w' ⟨rfl, hb⟩; have HB := Lib.hid hb; clear hb))
  go_ret
  exact ⟨rfl, bt ((Below.refl _ _).alloc (Nat.le_refl _) _) HB.out⟩

set_option maxHeartbeats 2000000 in
set_option maxRecDepth 100000 in
theorem done_1 (kd op a b f : Int) (w : World) (hk : pickV kd 9 = 1) (wk : (Lit.int .i64 kd).wf = true) (hm : Masks w) (h0 : 0 < w.heap.size) :
    Calls Tryd.prog 9 #[.agg #[.int .i64 kd, .int .i64 op, .int .i64 a, .int .i64 b, .int .i64 f]] w fun e w' => e = .returned (.bool true) ∧ Below w.heap.size w w' := by
  have HM : Masks (w.alloc (.cells #[.int .i64 kd, .int .i64 op, .int .i64 a, .int .i64 b, .int .i64 f] 29)) := masks_below hm ((Below.refl _ _).alloc (Nat.le_refl _) _) h0
  go_enter Tryd.func9, Tryd.ntmps9
  go_wp2_with (first | ((with_reducible refine (pick_any _ _ _ (by assumption) (by omega) (by omega)).mono ?_); rintro e w' ⟨rfl, ⟨_, _⟩, rfl⟩) | ((with_reducible refine (step_all _ _ _ _ (by omega) (by omega) (by omega) (by omega)).mono ?_); rintro e w' ⟨rfl, ⟨_, _, _, _⟩, rfl⟩) | ((with_reducible refine (rstep _ _ _ _ (by omega) (by omega) (by omega) (by omega)).mono ?_); rintro e w' ⟨rfl, hb⟩; have HB := Lib.hid hb; clear hb))
  go_ret
  exact ⟨rfl, bt ((Below.refl _ _).alloc (Nat.le_refl _) _) HB.out⟩

set_option maxHeartbeats 2000000 in
set_option maxRecDepth 100000 in
theorem done_2 (kd op a b f : Int) (w : World) (hk : pickV kd 9 = 2) (wk : (Lit.int .i64 kd).wf = true) (hm : Masks w) (h0 : 0 < w.heap.size) :
    Calls Tryd.prog 9 #[.agg #[.int .i64 kd, .int .i64 op, .int .i64 a, .int .i64 b, .int .i64 f]] w fun e w' => e = .returned (.bool true) ∧ Below w.heap.size w w' := by
  have HM : Masks (w.alloc (.cells #[.int .i64 kd, .int .i64 op, .int .i64 a, .int .i64 b, .int .i64 f] 29)) := masks_below hm ((Below.refl _ _).alloc (Nat.le_refl _) _) h0
  go_enter Tryd.func9, Tryd.ntmps9
  go_wp2_with (first | ((with_reducible refine (pick_any _ _ _ (by assumption) (by omega) (by omega)).mono ?_); rintro e w' ⟨rfl, ⟨_, _⟩, rfl⟩) | ((with_reducible refine (shift_all _ _ _ _ (by omega) (by omega) (by omega) (by omega)).mono ?_); rintro e w' ⟨rfl, ⟨_, _, _, _⟩, rfl⟩) | ((with_reducible refine (rshift _ _ _ _ (by omega) (by omega) (by omega) (by omega)).mono ?_); rintro e w' ⟨rfl, hb⟩; have HB := Lib.hid hb; clear hb))
  go_ret
  exact ⟨rfl, bt ((Below.refl _ _).alloc (Nat.le_refl _) _) HB.out⟩

set_option maxHeartbeats 2000000 in
set_option maxRecDepth 100000 in
theorem done_3 (kd op a b f : Int) (w : World) (hk : pickV kd 9 = 3) (wk : (Lit.int .i64 kd).wf = true) (hm : Masks w) (h0 : 0 < w.heap.size) :
    Calls Tryd.prog 9 #[.agg #[.int .i64 kd, .int .i64 op, .int .i64 a, .int .i64 b, .int .i64 f]] w fun e w' => e = .returned (.bool true) ∧ Below w.heap.size w w' := by
  have HM : Masks (w.alloc (.cells #[.int .i64 kd, .int .i64 op, .int .i64 a, .int .i64 b, .int .i64 f] 29)) := masks_below hm ((Below.refl _ _).alloc (Nat.le_refl _) _) h0
  go_enter Tryd.func9, Tryd.ntmps9
  go_wp2_with (first | ((with_reducible refine (pick_any _ _ _ (by assumption) (by omega) (by omega)).mono ?_); rintro e w' ⟨rfl, ⟨_, _⟩, rfl⟩) | ((with_reducible refine (turn_all _ _ _ _ (by omega) (by omega) (by omega) (by omega)).mono ?_); rintro e w' ⟨rfl, ⟨_, _, _, _⟩, rfl⟩) | ((with_reducible refine (rturn _ _ _ _ (by omega) (by omega) (by omega) (by omega)).mono ?_); rintro e w' ⟨rfl, hb⟩; have HB := Lib.hid hb; clear hb))
  go_ret
  exact ⟨rfl, bt ((Below.refl _ _).alloc (Nat.le_refl _) _) HB.out⟩

set_option maxHeartbeats 2000000 in
set_option maxRecDepth 100000 in
theorem done_4 (kd op a b f : Int) (w : World) (hk : pickV kd 9 = 4) (wk : (Lit.int .i64 kd).wf = true) (hm : Masks w) (h0 : 0 < w.heap.size) :
    Calls Tryd.prog 9 #[.agg #[.int .i64 kd, .int .i64 op, .int .i64 a, .int .i64 b, .int .i64 f]] w fun e w' => e = .returned (.bool true) ∧ Below w.heap.size w w' := by
  have HM : Masks (w.alloc (.cells #[.int .i64 kd, .int .i64 op, .int .i64 a, .int .i64 b, .int .i64 f] 29)) := masks_below hm ((Below.refl _ _).alloc (Nat.le_refl _) _) h0
  go_enter Tryd.func9, Tryd.ntmps9
  go_wp2_with (first | ((with_reducible refine (pick_any _ _ _ (by assumption) (by omega) (by omega)).mono ?_); rintro e w' ⟨rfl, ⟨_, _⟩, rfl⟩) | ((with_reducible refine (bit_any _ _ _ _ (by first | assumption | exact HM) (by omega) (by omega) (by omega) (by omega)).mono ?_); rintro e w' ⟨rfl, rfl⟩) | ((with_reducible refine (rbit _ _ _ _ (by omega) (by omega) (by omega) (by omega)).mono ?_); rintro e w' ⟨rfl, hb⟩; have HB := Lib.hid hb; clear hb))
  go_ret
  exact ⟨rfl, bt ((Below.refl _ _).alloc (Nat.le_refl _) _) HB.out⟩

set_option maxHeartbeats 2000000 in
set_option maxRecDepth 100000 in
theorem done_5 (kd op a b f : Int) (w : World) (hk : pickV kd 9 = 5) (wk : (Lit.int .i64 kd).wf = true) (hm : Masks w) (h0 : 0 < w.heap.size) :
    Calls Tryd.prog 9 #[.agg #[.int .i64 kd, .int .i64 op, .int .i64 a, .int .i64 b, .int .i64 f]] w fun e w' => e = .returned (.bool true) ∧ Below w.heap.size w w' := by
  have HM : Masks (w.alloc (.cells #[.int .i64 kd, .int .i64 op, .int .i64 a, .int .i64 b, .int .i64 f] 29)) := masks_below hm ((Below.refl _ _).alloc (Nat.le_refl _) _) h0
  go_enter Tryd.func9, Tryd.ntmps9
  go_wp2_with (first | ((with_reducible refine (pick_any _ _ _ (by assumption) (by omega) (by omega)).mono ?_); rintro e w' ⟨rfl, ⟨_, _⟩, rfl⟩) | ((with_reducible refine (res_any _ _ _ (by first | assumption | exact HM) (by omega) (by omega)).mono ?_); rintro e w' ⟨rfl, rfl⟩) | ((with_reducible refine (rres _ _ _ (by omega) (by omega)).mono ?_); rintro e w' ⟨rfl, hb⟩; have HB := Lib.hid hb; clear hb))
  go_ret
  exact ⟨rfl, bt ((Below.refl _ _).alloc (Nat.le_refl _) _) HB.out⟩

set_option maxHeartbeats 2000000 in
set_option maxRecDepth 100000 in
theorem done_6 (kd op a b f : Int) (w : World) (hk : pickV kd 9 = 6) (wk : (Lit.int .i64 kd).wf = true) (hm : Masks w) (h0 : 0 < w.heap.size) :
    Calls Tryd.prog 9 #[.agg #[.int .i64 kd, .int .i64 op, .int .i64 a, .int .i64 b, .int .i64 f]] w fun e w' => e = .returned (.bool true) ∧ Below w.heap.size w w' := by
  have HM : Masks (w.alloc (.cells #[.int .i64 kd, .int .i64 op, .int .i64 a, .int .i64 b, .int .i64 f] 29)) := masks_below hm ((Below.refl _ _).alloc (Nat.le_refl _) _) h0
  go_enter Tryd.func9, Tryd.ntmps9
  go_wp2_with (first | ((with_reducible refine (pick_any _ _ _ (by assumption) (by omega) (by omega)).mono ?_); rintro e w' ⟨rfl, ⟨_, _⟩, rfl⟩) | ((with_reducible refine (set_any _ _ _ (by first | assumption | exact HM) (by omega) (by omega)).mono ?_); rintro e w' ⟨rfl, rfl⟩) | ((with_reducible refine (rset _ _ _ (by omega) (by omega)).mono ?_); rintro e w' ⟨rfl, hb⟩; have HB := Lib.hid hb; clear hb))
  go_ret
  exact ⟨rfl, bt ((Below.refl _ _).alloc (Nat.le_refl _) _) HB.out⟩

set_option maxHeartbeats 2000000 in
set_option maxRecDepth 100000 in
theorem done_7 (kd op a b f : Int) (w : World) (hk : pickV kd 9 = 7) (wk : (Lit.int .i64 kd).wf = true) (hm : Masks w) (h0 : 0 < w.heap.size) :
    Calls Tryd.prog 9 #[.agg #[.int .i64 kd, .int .i64 op, .int .i64 a, .int .i64 b, .int .i64 f]] w fun e w' => e = .returned (.bool true) ∧ Below w.heap.size w w' := by
  have HM : Masks (w.alloc (.cells #[.int .i64 kd, .int .i64 op, .int .i64 a, .int .i64 b, .int .i64 f] 29)) := masks_below hm ((Below.refl _ _).alloc (Nat.le_refl _) _) h0
  go_enter Tryd.func9, Tryd.ntmps9
  go_wp2_with (first | ((with_reducible refine (pick_any _ _ _ (by assumption) (by omega) (by omega)).mono ?_); rintro e w' ⟨rfl, ⟨_, _⟩, rfl⟩) | ((with_reducible refine (addword_any _ _ _ _ (by omega) (by omega) (by omega) (by omega) (by omega) (by omega)).mono ?_); rintro e w' ⟨rfl, rfl⟩) | ((with_reducible refine (raddword _ _ _ _ (by omega) (by omega) (by omega) (by omega) (by omega) (by omega)).mono ?_); rintro e w' ⟨rfl, hb⟩; have HB := Lib.hid hb; clear hb))
  go_ret
  exact ⟨rfl, bt ((Below.refl _ _).alloc (Nat.le_refl _) _) HB.out⟩

set_option maxHeartbeats 2000000 in
set_option maxRecDepth 100000 in
theorem done_8 (kd op a b f : Int) (w : World) (hk : pickV kd 9 = 8) (wk : (Lit.int .i64 kd).wf = true) (hm : Masks w) (h0 : 0 < w.heap.size) :
    Calls Tryd.prog 9 #[.agg #[.int .i64 kd, .int .i64 op, .int .i64 a, .int .i64 b, .int .i64 f]] w fun e w' => e = .returned (.bool true) ∧ Below w.heap.size w w' := by
  have HM : Masks (w.alloc (.cells #[.int .i64 kd, .int .i64 op, .int .i64 a, .int .i64 b, .int .i64 f] 29)) := masks_below hm ((Below.refl _ _).alloc (Nat.le_refl _) _) h0
  go_enter Tryd.func9, Tryd.ntmps9
  go_wp2_with (first | ((with_reducible refine (pick_any _ _ _ (by assumption) (by omega) (by omega)).mono ?_); rintro e w' ⟨rfl, ⟨_, _⟩, rfl⟩) | ((with_reducible refine (addoff_any _ _ _ (by omega) (by omega) (by omega) (by omega)).mono ?_); rintro e w' ⟨rfl, rfl⟩) | ((with_reducible refine (raddoff _ _ _ (by omega) (by omega) (by omega) (by omega)).mono ?_); rintro e w' ⟨rfl, hb⟩; have HB := Lib.hid hb; clear hb))
  go_ret
  exact ⟨rfl, bt ((Below.refl _ _).alloc (Nat.le_refl _) _) HB.out⟩
theorem done_any (kd op a b f : Int) (w : World) (wk : (Lit.int .i64 kd).wf = true) (hm : Masks w) (h0 : 0 < w.heap.size) :
    Calls Tryd.prog 9 #[.agg #[.int .i64 kd, .int .i64 op, .int .i64 a, .int .i64 b, .int .i64 f]] w fun e w' => e = .returned (.bool true) ∧ Below w.heap.size w w' := by
  have hp := pick_bd kd 9 (by omega)
  rcases (show pickV kd 9 = 0 ∨ pickV kd 9 = 1 ∨ pickV kd 9 = 2 ∨ pickV kd 9 = 3 ∨ pickV kd 9 = 4 ∨ pickV kd 9 = 5 ∨ pickV kd 9 = 6 ∨ pickV kd 9 = 7 ∨ pickV kd 9 = 8 by omega) with h | h | h | h | h | h | h | h | h
  · exact done_0 kd op a b f w h wk hm h0
  · exact done_1 kd op a b f w h wk hm h0
  · exact done_2 kd op a b f w h wk hm h0
  · exact done_3 kd op a b f w h wk hm h0
  · exact done_4 kd op a b f w h wk hm h0
  · exact done_5 kd op a b f w h wk hm h0
  · exact done_6 kd op a b f w h wk hm h0
  · exact done_7 kd op a b f w h wk hm h0
  · exact done_8 kd op a b f w h wk hm h0
end Go.Proofs.YtpkogmcafgplgaaDoor.AluG
