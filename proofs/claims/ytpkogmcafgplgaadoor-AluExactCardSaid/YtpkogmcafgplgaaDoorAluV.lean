import Derived.Test.YtpkogmcafgplgaaDoorAluU
import Derived.Test.YtpkogmcafgplgaaDoorAluC
import Derived.Deep.QuietTactic
import Derived.BigQuiet
import Derived.Deep.LoopGhost
namespace Go.Proofs.YtpkogmcafgplgaaDoor.AluV
open Go.RowKit Go.Proofs.YtpkogmcafgplgaaDoor.AluA Go.Proofs.YtpkogmcafgplgaaDoor.AluP Go.Proofs.YtpkogmcafgplgaaDoor.AluT Go.Proofs.YtpkogmcafgplgaaDoor.AluU Go.Proofs.YtpkogmcafgplgaaDoorW.PrintWords Go.Proofs.YtpkogmcafgplgaaDoor.PAluExact
open Go.Proofs.YtpkogmcafgplgaaDoor.AluC (bits_bd)
set_option linter.unusedVariables false
set_option linter.unusedSectionVars false
/-! the reference's leaves: contracts in plain words -/
abbrev BoolsAt (w : World) (A : Option Addr) (n : Nat) (xs : List Bool) : Prop := Kd.C Kd.bool w A n xs
theorem reads_at {w : World} {base : Nat} {ok : Nat → Prop} {v : Value} {xs : List Bool} {n : Nat} (hn : xs.length = n) (h : Kd.R Kd.bool 4 w base ok v xs) : ∃ A c, v = .slice A n c ∧ n ≤ c ∧ BoolsAt w A n xs := by
  subst hn
  exact Kd.R_reads h
theorem rbits (a : Int) (n : Nat) (w : World) (a0 : 0 ≤ a) (a1 : a ≤ 65535) (hn : n ≤ 16) :
    Calls Tryd.prog 29 #[.int .i64 a, .int .i64 n] w fun e w' => ∃ A c, e = .returned (.slice A n c) ∧ n ≤ c ∧ BoolsAt w' A n (bitsL n a) ∧ Below w.heap.size w w' := by
  refine (arcaderef1_bits.calls 40 a n (bitsL n a) w (bits_f 40 a n a0 a1 hn (by omega))).mono ?_
  rintro e w' ⟨v, rfl, hR, hb⟩
  obtain ⟨A, c, rfl, hc, hC⟩ := reads_at (len_bitsL n a) hR
  exact ⟨A, c, rfl, hc, hC, hb⟩
theorem rboth (n : Nat) (x y : List Bool) (q : Bool) (A B : Option Addr) (c d : Nat) (w : World) (hx : x.length = n) (hy : y.length = n) (hn : n ≤ 16) (hA : BoolsAt w A n x) (hc : n ≤ c) (hB : BoolsAt w B n y) (hd : n ≤ d) :
    Calls Tryd.prog 31 #[.slice A n c, .slice B n d, .bool q] w fun e w' => ∃ A1 c1 A2 c2, e = .returned (.tuple #[.slice A1 n c1, .slice A2 n c2]) ∧ n ≤ c1 ∧ n ≤ c2 ∧ BoolsAt w' A1 n (addL x y q).1 ∧ BoolsAt w' A2 n (addL x y q).2 ∧ Below w.heap.size w w' := by
  subst hx
  have h := arcaderef1_both.calls 40 A c x B d y q (addL x y q).1 (addL x y q).2 w hA hc (by rw [hy]; exact hB) (by rw [hy]; exact hd) (both_f 40 x y q hy.symm hn (by omega))
  rw [hy] at h
  refine h.mono ?_
  rintro e w' ⟨v0, v1, rfl, h0, h1, hb⟩
  obtain ⟨A1, c1, rfl, hc1, hC1⟩ := reads_at (len_addL x y q hy.symm).1 h0
  obtain ⟨A2, c2, rfl, hc2, hC2⟩ := reads_at (len_addL x y q hy.symm).2 h1
  exact ⟨A1, c1, A2, c2, rfl, hc1, hc2, hC1, hC2, hb⟩
theorem rless (n : Nat) (x y : List Bool) (q : Bool) (A B : Option Addr) (c d : Nat) (w : World) (hx : x.length = n) (hy : y.length = n) (hn : n ≤ 16) (hA : BoolsAt w A n x) (hc : n ≤ c) (hB : BoolsAt w B n y) (hd : n ≤ d) :
    Calls Tryd.prog 34 #[.slice A n c, .slice B n d, .bool q] w fun e w' => ∃ A1 c1 A2 c2, e = .returned (.tuple #[.slice A1 n c1, .slice A2 n c2]) ∧ n ≤ c1 ∧ n ≤ c2 ∧ BoolsAt w' A1 n (subL x y q).1 ∧ BoolsAt w' A2 n (subL x y q).2 ∧ Below w.heap.size w w' := by
  subst hx
  have h := arcaderef1_less.calls 40 A c x B d y q (subL x y q).1 (subL x y q).2 w hA hc (by rw [hy]; exact hB) (by rw [hy]; exact hd) (less_f 40 x y q hy.symm hn (by omega))
  rw [hy] at h
  refine h.mono ?_
  rintro e w' ⟨v0, v1, rfl, h0, h1, hb⟩
  obtain ⟨A1, c1, rfl, hc1, hC1⟩ := reads_at (len_subL x y q hy.symm).1 h0
  obtain ⟨A2, c2, rfl, hc2, hC2⟩ := reads_at (len_subL x y q hy.symm).2 h1
  exact ⟨A1, c1, A2, c2, rfl, hc1, hc2, hC1, hC2, hb⟩
theorem rnumber (n : Nat) (x : List Bool) (A : Option Addr) (c : Nat) (w : World) (hx : x.length = n) (hn : n ≤ 16) (hA : BoolsAt w A n x) (hc : n ≤ c) :
    Calls Tryd.prog 32 #[.slice A n c] w fun e w' => e = .returned (.int .i64 (numL x)) ∧ Below w.heap.size w w' := by
  subst hx
  refine (arcaderef1_number.calls 40 A c x (numL x) w hA hc (number_f 40 x hn (by omega))).mono ?_
  rintro e w' ⟨rfl, hd⟩
  exact ⟨rfl, hd.below⟩
theorem rhas16 (f : Int) (w : World) (f0 : 0 ≤ f) (f1 : f ≤ 255) :
    Calls Tryd.prog 30 #[.int .u8 f, .int .u8 16] w fun e w' => e = .returned (.bool (f / 16 % 2 == 1)) ∧ Below w.heap.size w w' := by
  refine (arcaderef1_has.calls f 16 _ w (has_16 f f0 f1)).mono ?_
  rintro e w' ⟨rfl, hd⟩
  exact ⟨rfl, hd.below⟩
theorem rclean (f : Int) (w : World) (f0 : 0 ≤ f) (f1 : f ≤ 255) :
    Calls Tryd.prog 35 #[.int .u8 f] w fun e w' => e = .returned (.int .u8 (f / 16 * 16)) ∧ Below w.heap.size w w' := by
  refine (arcaderef1_clean.calls f _ w (clean_f f f0 f1)).mono ?_
  rintro e w' ⟨rfl, hd⟩
  exact ⟨rfl, hd.below⟩
set_option maxHeartbeats 4000000 in
theorem rflags (z n h c : Bool) (w : World) :
    Calls Tryd.prog 33 #[.bool z, .bool n, .bool h, .bool c] w fun e w' => e = .returned (.int .u8 (flagsV z n h c)) ∧ w = w' := by
  cases z <;> cases n <;> cases h <;> cases c
  all_goals
    go_enter Tryd.func33, Tryd.ntmps33
    go_wp2
    go_ret
    exact ⟨rfl, rfl⟩
theorem rflags' (z n h c : Bool) (w : World) :
    Calls Tryd.prog 33 #[.bool z, .bool n, .bool h, .bool c] w fun e w' => e = .returned (.int .u8 (flagsV z n h c)) ∧ w' = w := (rflags z n h c w).mono fun _ _ ⟨h, g⟩ => ⟨h, g.symm⟩
theorem bt {w w1 w2 : World} (h : Below w.heap.size w w1) (g : Below w1.heap.size w1 w2) : Below w.heap.size w w2 := h.trans (g.mono h.size)
theorem ret2 {k l : IntKind} {a b c d : Int} (h : a = b) (g : c = d) : Ending.returned (.tuple #[.int k a, .int l c]) = .returned (.tuple #[.int k b, .int l d]) := by rw [h, g]
theorem bi_cf (f : Int) : bi (f / 16 % 2 == 1) 1 = f / 16 % 2 := bi_beq _ (by omega) (by omega)
theorem rd3 (l : List Bool) : rdOf false l 3 = l.getD 3 false := rfl
theorem rd7 (l : List Bool) : rdOf false l 7 = l.getD 7 false := rfl
set_option maxHeartbeats 4000000 in
set_option maxRecDepth 100000 in
theorem rarith_0 (a b f : Int) (w : World) (a0 : 0 ≤ a) (a1 : a ≤ 255) (b0 : 0 ≤ b) (b1 : b ≤ 255) (f0 : 0 ≤ f) (f1 : f ≤ 255) :
    Calls Tryd.prog 14 #[.int .i64 0, .int .u8 a, .int .u8 b, .int .u8 f] w fun e w' => e = .returned (.tuple #[.int .u8 (Go.Proofs.YtpkogmcafgplgaaDoor.AluC.arithV 0 a b f), .int .u8 (Go.Proofs.YtpkogmcafgplgaaDoor.AluC.arithF 0 a b f)]) ∧ Below w.heap.size w w' := by
  go_enter Tryd.func14, Tryd.ntmps14
  go_wp2_with fail
  refine (rbits a 8 _ a0 (by omega) (by omega)).mono ?_
  rintro e w1 ⟨A, c, rfl, hc, hA, hb1⟩
  go_wp2_with fail
  refine (rbits b 8 _ b0 (by omega) (by omega)).mono ?_
  rintro e w2 ⟨B, d, rfl, hd, hB, hb2⟩
  replace hA := Kd.C_below hA hb2
  go_wp2_with fail
  refine (rhas16 f _ f0 f1).mono ?_
  rintro e w3 ⟨rfl, hb3⟩
  replace hA := Kd.C_below hA hb3
  replace hB := Kd.C_below hB hb3
  go_wp2_with fail
  refine (rboth 8 _ _ false _ _ _ _ _ (len_bitsL 8 a) (len_bitsL 8 b) (by omega) hA hc hB hd).mono ?_
  rintro e w4 ⟨A1, c1, A2, c2, rfl, hc1, hc2, hA1, hA2, hb4⟩
  go_wp2_with fail
  refine (rnumber 8 _ _ _ _ (len_addL _ _ _ (by rw [len_bitsL, len_bitsL])).1 (by omega) hA1 hc1).mono ?_
  rintro e w5 ⟨rfl, hb5⟩
  replace hA2 := Kd.C_below hA2 hb5
  obtain ⟨ad, rfl, h3⟩ := Kd.at_bool hA2 3 (by omega) (by omega)
  obtain ⟨ad', e', h7⟩ := Kd.at_bool hA2 7 (by omega) (by omega)
  cases e'
  have g3 : w5.cell? { block := ad.block, off := ad.off + 3, spot := none } = some (.bool (rdOf false (addL (bitsL 8 a) (bitsL 8 b) false).2 3)) := h3
  have g7 : w5.cell? { block := ad.block, off := ad.off + 7, spot := none } = some (.bool (rdOf false (addL (bitsL 8 a) (bitsL 8 b) false).2 7)) := h7
  clear h3 h7
  have HB := Lib.hid (bt (bt (bt (bt hb1 hb2) hb3) hb4) hb5)
  clear hb1 hb2 hb3 hb4 hb5 hA hB hA1 hA2
  go_wp2_with fail
  go_quiet ((go_at_call 33; exact Calls.quiet_of_same (rflags' _ _ _ _ _)))
  go_wp2_with fail
  go_ret2
  exact ⟨ret2 (by rw [sum8 a b a0 a1 b0 b1, bi_f]; exact Int.emod_emod_of_dvd _ (by decide)) (by rw [rd3, rd7, sum8 a b a0 a1 b0 b1, car8_3 a b a0 a1 b0 b1, car8_7 a b a0 a1 b0 b1, bi_f]; rfl), HB.out.trans (by repeat (first | exact Below.refl _ _ | apply below_drewN | apply Below.drew))⟩
set_option maxHeartbeats 4000000 in
set_option maxRecDepth 100000 in
theorem rarith_1 (a b f : Int) (w : World) (a0 : 0 ≤ a) (a1 : a ≤ 255) (b0 : 0 ≤ b) (b1 : b ≤ 255) (f0 : 0 ≤ f) (f1 : f ≤ 255) :
    Calls Tryd.prog 14 #[.int .i64 1, .int .u8 a, .int .u8 b, .int .u8 f] w fun e w' => e = .returned (.tuple #[.int .u8 (Go.Proofs.YtpkogmcafgplgaaDoor.AluC.arithV 1 a b f), .int .u8 (Go.Proofs.YtpkogmcafgplgaaDoor.AluC.arithF 1 a b f)]) ∧ Below w.heap.size w w' := by
  go_enter Tryd.func14, Tryd.ntmps14
  go_wp2_with fail
  refine (rbits a 8 _ a0 (by omega) (by omega)).mono ?_
  rintro e w1 ⟨A, c, rfl, hc, hA, hb1⟩
  go_wp2_with fail
  refine (rbits b 8 _ b0 (by omega) (by omega)).mono ?_
  rintro e w2 ⟨B, d, rfl, hd, hB, hb2⟩
  replace hA := Kd.C_below hA hb2
  go_wp2_with fail
  refine (rhas16 f _ f0 f1).mono ?_
  rintro e w3 ⟨rfl, hb3⟩
  replace hA := Kd.C_below hA hb3
  replace hB := Kd.C_below hB hb3
  go_wp2_with fail
  refine (rboth 8 _ _ (f / 16 % 2 == 1) _ _ _ _ _ (len_bitsL 8 a) (len_bitsL 8 b) (by omega) hA hc hB hd).mono ?_
  rintro e w4 ⟨A1, c1, A2, c2, rfl, hc1, hc2, hA1, hA2, hb4⟩
  go_wp2_with fail
  refine (rnumber 8 _ _ _ _ (len_addL _ _ _ (by rw [len_bitsL, len_bitsL])).1 (by omega) hA1 hc1).mono ?_
  rintro e w5 ⟨rfl, hb5⟩
  replace hA2 := Kd.C_below hA2 hb5
  obtain ⟨ad, rfl, h3⟩ := Kd.at_bool hA2 3 (by omega) (by omega)
  obtain ⟨ad', e', h7⟩ := Kd.at_bool hA2 7 (by omega) (by omega)
  cases e'
  have g3 : w5.cell? { block := ad.block, off := ad.off + 3, spot := none } = some (.bool (rdOf false (addL (bitsL 8 a) (bitsL 8 b) (f / 16 % 2 == 1)).2 3)) := h3
  have g7 : w5.cell? { block := ad.block, off := ad.off + 7, spot := none } = some (.bool (rdOf false (addL (bitsL 8 a) (bitsL 8 b) (f / 16 % 2 == 1)).2 7)) := h7
  clear h3 h7
  have HB := Lib.hid (bt (bt (bt (bt hb1 hb2) hb3) hb4) hb5)
  clear hb1 hb2 hb3 hb4 hb5 hA hB hA1 hA2
  go_wp2_with fail
  go_quiet ((go_at_call 33; exact Calls.quiet_of_same (rflags' _ _ _ _ _)))
  go_wp2_with fail
  go_ret2
  exact ⟨ret2 (by rw [sum8 a b a0 a1 b0 b1, bi_cf]; exact Int.emod_emod_of_dvd _ (by decide)) (by rw [rd3, rd7, sum8 a b a0 a1 b0 b1, car8_3 a b a0 a1 b0 b1, car8_7 a b a0 a1 b0 b1, bi_cf]; rfl), HB.out.trans (by repeat (first | exact Below.refl _ _ | apply below_drewN | apply Below.drew))⟩
set_option maxHeartbeats 4000000 in
set_option maxRecDepth 100000 in
theorem rarith_2 (a b f : Int) (w : World) (a0 : 0 ≤ a) (a1 : a ≤ 255) (b0 : 0 ≤ b) (b1 : b ≤ 255) (f0 : 0 ≤ f) (f1 : f ≤ 255) :
    Calls Tryd.prog 14 #[.int .i64 2, .int .u8 a, .int .u8 b, .int .u8 f] w fun e w' => e = .returned (.tuple #[.int .u8 (Go.Proofs.YtpkogmcafgplgaaDoor.AluC.arithV 2 a b f), .int .u8 (Go.Proofs.YtpkogmcafgplgaaDoor.AluC.arithF 2 a b f)]) ∧ Below w.heap.size w w' := by
  go_enter Tryd.func14, Tryd.ntmps14
  go_wp2_with fail
  refine (rbits a 8 _ a0 (by omega) (by omega)).mono ?_
  rintro e w1 ⟨A, c, rfl, hc, hA, hb1⟩
  go_wp2_with fail
  refine (rbits b 8 _ b0 (by omega) (by omega)).mono ?_
  rintro e w2 ⟨B, d, rfl, hd, hB, hb2⟩
  replace hA := Kd.C_below hA hb2
  go_wp2_with fail
  refine (rhas16 f _ f0 f1).mono ?_
  rintro e w3 ⟨rfl, hb3⟩
  replace hA := Kd.C_below hA hb3
  replace hB := Kd.C_below hB hb3
  go_wp2_with fail
  refine (rless 8 _ _ false _ _ _ _ _ (len_bitsL 8 a) (len_bitsL 8 b) (by omega) hA hc hB hd).mono ?_
  rintro e w4 ⟨A1, c1, A2, c2, rfl, hc1, hc2, hA1, hA2, hb4⟩
  go_wp2_with fail
  refine (rnumber 8 _ _ _ _ (len_subL _ _ _ (by rw [len_bitsL, len_bitsL])).1 (by omega) hA1 hc1).mono ?_
  rintro e w5 ⟨rfl, hb5⟩
  replace hA2 := Kd.C_below hA2 hb5
  obtain ⟨ad, rfl, h3⟩ := Kd.at_bool hA2 3 (by omega) (by omega)
  obtain ⟨ad', e', h7⟩ := Kd.at_bool hA2 7 (by omega) (by omega)
  cases e'
  have g3 : w5.cell? { block := ad.block, off := ad.off + 3, spot := none } = some (.bool (rdOf false (subL (bitsL 8 a) (bitsL 8 b) false).2 3)) := h3
  have g7 : w5.cell? { block := ad.block, off := ad.off + 7, spot := none } = some (.bool (rdOf false (subL (bitsL 8 a) (bitsL 8 b) false).2 7)) := h7
  clear h3 h7
  have HB := Lib.hid (bt (bt (bt (bt hb1 hb2) hb3) hb4) hb5)
  clear hb1 hb2 hb3 hb4 hb5 hA hB hA1 hA2
  go_wp2_with fail
  go_quiet ((go_at_call 33; exact Calls.quiet_of_same (rflags' _ _ _ _ _)))
  go_wp2_with fail
  go_ret2
  exact ⟨ret2 (by rw [dif8 a b a0 a1 b0 b1, bi_f]; exact Int.emod_emod_of_dvd _ (by decide)) (by rw [rd3, rd7, dif8 a b a0 a1 b0 b1, bor8_3 a b a0 a1 b0 b1, bor8_7 a b a0 a1 b0 b1, bi_f]; rfl), HB.out.trans (by repeat (first | exact Below.refl _ _ | apply below_drewN | apply Below.drew))⟩
set_option maxHeartbeats 4000000 in
set_option maxRecDepth 100000 in
theorem rarith_3 (a b f : Int) (w : World) (a0 : 0 ≤ a) (a1 : a ≤ 255) (b0 : 0 ≤ b) (b1 : b ≤ 255) (f0 : 0 ≤ f) (f1 : f ≤ 255) :
    Calls Tryd.prog 14 #[.int .i64 3, .int .u8 a, .int .u8 b, .int .u8 f] w fun e w' => e = .returned (.tuple #[.int .u8 (Go.Proofs.YtpkogmcafgplgaaDoor.AluC.arithV 3 a b f), .int .u8 (Go.Proofs.YtpkogmcafgplgaaDoor.AluC.arithF 3 a b f)]) ∧ Below w.heap.size w w' := by
  go_enter Tryd.func14, Tryd.ntmps14
  go_wp2_with fail
  refine (rbits a 8 _ a0 (by omega) (by omega)).mono ?_
  rintro e w1 ⟨A, c, rfl, hc, hA, hb1⟩
  go_wp2_with fail
  refine (rbits b 8 _ b0 (by omega) (by omega)).mono ?_
  rintro e w2 ⟨B, d, rfl, hd, hB, hb2⟩
  replace hA := Kd.C_below hA hb2
  go_wp2_with fail
  refine (rhas16 f _ f0 f1).mono ?_
  rintro e w3 ⟨rfl, hb3⟩
  replace hA := Kd.C_below hA hb3
  replace hB := Kd.C_below hB hb3
  go_wp2_with fail
  refine (rless 8 _ _ (f / 16 % 2 == 1) _ _ _ _ _ (len_bitsL 8 a) (len_bitsL 8 b) (by omega) hA hc hB hd).mono ?_
  rintro e w4 ⟨A1, c1, A2, c2, rfl, hc1, hc2, hA1, hA2, hb4⟩
  go_wp2_with fail
  refine (rnumber 8 _ _ _ _ (len_subL _ _ _ (by rw [len_bitsL, len_bitsL])).1 (by omega) hA1 hc1).mono ?_
  rintro e w5 ⟨rfl, hb5⟩
  replace hA2 := Kd.C_below hA2 hb5
  obtain ⟨ad, rfl, h3⟩ := Kd.at_bool hA2 3 (by omega) (by omega)
  obtain ⟨ad', e', h7⟩ := Kd.at_bool hA2 7 (by omega) (by omega)
  cases e'
  have g3 : w5.cell? { block := ad.block, off := ad.off + 3, spot := none } = some (.bool (rdOf false (subL (bitsL 8 a) (bitsL 8 b) (f / 16 % 2 == 1)).2 3)) := h3
  have g7 : w5.cell? { block := ad.block, off := ad.off + 7, spot := none } = some (.bool (rdOf false (subL (bitsL 8 a) (bitsL 8 b) (f / 16 % 2 == 1)).2 7)) := h7
  clear h3 h7
  have HB := Lib.hid (bt (bt (bt (bt hb1 hb2) hb3) hb4) hb5)
  clear hb1 hb2 hb3 hb4 hb5 hA hB hA1 hA2
  go_wp2_with fail
  go_quiet ((go_at_call 33; exact Calls.quiet_of_same (rflags' _ _ _ _ _)))
  go_wp2_with fail
  go_ret2
  exact ⟨ret2 (by rw [dif8 a b a0 a1 b0 b1, bi_cf]; exact Int.emod_emod_of_dvd _ (by decide)) (by rw [rd3, rd7, dif8 a b a0 a1 b0 b1, bor8_3 a b a0 a1 b0 b1, bor8_7 a b a0 a1 b0 b1, bi_cf]; rfl), HB.out.trans (by repeat (first | exact Below.refl _ _ | apply below_drewN | apply Below.drew))⟩
set_option maxHeartbeats 4000000 in
set_option maxRecDepth 100000 in
theorem rarith_7 (a b f : Int) (w : World) (a0 : 0 ≤ a) (a1 : a ≤ 255) (b0 : 0 ≤ b) (b1 : b ≤ 255) (f0 : 0 ≤ f) (f1 : f ≤ 255) :
    Calls Tryd.prog 14 #[.int .i64 7, .int .u8 a, .int .u8 b, .int .u8 f] w fun e w' => e = .returned (.tuple #[.int .u8 (Go.Proofs.YtpkogmcafgplgaaDoor.AluC.arithV 7 a b f), .int .u8 (Go.Proofs.YtpkogmcafgplgaaDoor.AluC.arithF 7 a b f)]) ∧ Below w.heap.size w w' := by
  go_enter Tryd.func14, Tryd.ntmps14
  go_wp2_with fail
  refine (rbits a 8 _ a0 (by omega) (by omega)).mono ?_
  rintro e w1 ⟨A, c, rfl, hc, hA, hb1⟩
  go_wp2_with fail
  refine (rbits b 8 _ b0 (by omega) (by omega)).mono ?_
  rintro e w2 ⟨B, d, rfl, hd, hB, hb2⟩
  replace hA := Kd.C_below hA hb2
  go_wp2_with fail
  refine (rhas16 f _ f0 f1).mono ?_
  rintro e w3 ⟨rfl, hb3⟩
  replace hA := Kd.C_below hA hb3
  replace hB := Kd.C_below hB hb3
  go_wp2_with fail
  refine (rless 8 _ _ false _ _ _ _ _ (len_bitsL 8 a) (len_bitsL 8 b) (by omega) hA hc hB hd).mono ?_
  rintro e w4 ⟨A1, c1, A2, c2, rfl, hc1, hc2, hA1, hA2, hb4⟩
  go_wp2_with fail
  refine (rnumber 8 _ _ _ _ (len_subL _ _ _ (by rw [len_bitsL, len_bitsL])).1 (by omega) hA1 hc1).mono ?_
  rintro e w5 ⟨rfl, hb5⟩
  replace hA2 := Kd.C_below hA2 hb5
  obtain ⟨ad, rfl, h3⟩ := Kd.at_bool hA2 3 (by omega) (by omega)
  obtain ⟨ad', e', h7⟩ := Kd.at_bool hA2 7 (by omega) (by omega)
  cases e'
  have g3 : w5.cell? { block := ad.block, off := ad.off + 3, spot := none } = some (.bool (rdOf false (subL (bitsL 8 a) (bitsL 8 b) false).2 3)) := h3
  have g7 : w5.cell? { block := ad.block, off := ad.off + 7, spot := none } = some (.bool (rdOf false (subL (bitsL 8 a) (bitsL 8 b) false).2 7)) := h7
  clear h3 h7
  have HB := Lib.hid (bt (bt (bt (bt hb1 hb2) hb3) hb4) hb5)
  clear hb1 hb2 hb3 hb4 hb5 hA hB hA1 hA2
  go_wp2_with fail
  go_quiet ((go_at_call 33; exact Calls.quiet_of_same (rflags' _ _ _ _ _)))
  go_wp2_with fail
  go_ret2
  exact ⟨ret2 rfl (by rw [rd3, rd7, dif8 a b a0 a1 b0 b1, bor8_3 a b a0 a1 b0 b1, bor8_7 a b a0 a1 b0 b1, bi_f]; rfl), HB.out.trans (by repeat (first | exact Below.refl _ _ | apply below_drewN | apply Below.drew))⟩
set_option maxHeartbeats 4000000 in
set_option maxRecDepth 100000 in
theorem rarith_4 (a b f : Int) (w : World) (a0 : 0 ≤ a) (a1 : a ≤ 255) (b0 : 0 ≤ b) (b1 : b ≤ 255) (f0 : 0 ≤ f) (f1 : f ≤ 255) :
    Calls Tryd.prog 14 #[.int .i64 4, .int .u8 a, .int .u8 b, .int .u8 f] w fun e w' => e = .returned (.tuple #[.int .u8 (Go.Proofs.YtpkogmcafgplgaaDoor.AluC.arithV 4 a b f), .int .u8 (Go.Proofs.YtpkogmcafgplgaaDoor.AluC.arithF 4 a b f)]) ∧ Below w.heap.size w w' := by
  go_enter Tryd.func14, Tryd.ntmps14
  go_wp2_with fail
  refine (rbits a 8 _ a0 (by omega) (by omega)).mono ?_
  rintro e w1 ⟨A, c, rfl, hc, hA, hb1⟩
  go_wp2_with fail
  refine (rbits b 8 _ b0 (by omega) (by omega)).mono ?_
  rintro e w2 ⟨B, d, rfl, hd, hB, hb2⟩
  replace hA := Kd.C_below hA hb2
  go_wp2_with fail
  refine (rhas16 f _ f0 f1).mono ?_
  rintro e w3 ⟨rfl, hb3⟩
  replace hA := Kd.C_below hA hb3
  replace hB := Kd.C_below hB hb3
  go_wp2_with fail
  have HB3 := Lib.hid (bt (bt hb1 hb2) hb3)
  clear hb1 hb2 hb3
  have hln : (mapL (fun p q => p && q) (bitsL 8 a) (bitsL 8 b)).length = 8 := (len_mapL _ _ _ (by rw [len_bitsL, len_bitsL])).trans (len_bitsL 8 a)
  have HLN := Lib.hid hln
  clear hln
  go_loopw [13, 21] (fun out i wr => ∃ j : Nat, j ≤ 8 ∧ i = .int .i64 j ∧ Hid (Kd.R Kd.bool 4 wr w3.heap.size (fun _ => True) out ((mapL (fun p q => p && q) (bitsL 8 a) (bitsL 8 b)).take j)) ∧ Hid (Below w3.heap.size w3 wr)) (fun _ i _ => 8 - (intOf i).toNat)
  case atStart => exact ⟨0, by omega, rfl, Lib.hid (Kd.R_nil _ _ _ _ _), Lib.hid (Below.refl _ _)⟩
  case round =>
    obtain ⟨j, hj, rfl, HR, HBr⟩ := hrel
    have hA' := Kd.C_below hA HBr.out
    have hB' := Kd.C_below hB HBr.out
    by_cases hlt : j < 8
    · obtain ⟨ax, ex, hcx⟩ := Kd.at_bool hA' (j : Int) (by omega) (by omega)
      obtain ⟨ay, ey, hcy⟩ := Kd.at_bool hB' (j : Int) (by omega) (by omega)
      have hst := take_mapL (fun p q => p && q) (bitsL 8 a) (bitsL 8 b) j (by rw [len_bitsL, len_bitsL]) (by rw [len_bitsL]; omega)
      have HS := Lib.hid hst
      clear hst
      have HX : Hid (rdOf false (bitsL 8 a) (j : Int) = (bitsL 8 a).getD j false) := Lib.hid rfl
      have HY : Hid (rdOf false (bitsL 8 b) (j : Int) = (bitsL 8 b).getD j false) := Lib.hid rfl
      rw [HX.out, Int.toNat_natCast] at hcx
      rw [HY.out, Int.toNat_natCast] at hcy
      subst ex ey
      have hsz := HBr.out.size
      generalize hp : (bitsL 8 a).getD j false = p at *
      generalize hq : (bitsL 8 b).getD j false = q at *
      have HP := Lib.hid hp
      have HQ := Lib.hid hq
      clear hp hq hA' hB'
      cases p <;> cases q
      · go_wp2_with (first | ((with_reducible refine gate_builtin (b := .append) (xs := #[.tmp 113, .tmp 136]) rfl ?_); at_builtin; refine Kd.R_append Kd.bool (w0 := w3) w3.heap.size rfl (.tmp 113) (.tmp 136) 45 4 (.bool false) 1 rfl Tryd.underlying45 info4 rfl (by decide) (by omega) _ ((mapL (fun p q => p && q) (bitsL 8 a) (bitsL 8 b)).take j) false [.bool false] (fun _ => True) (fun _ => False) rfl rfl rfl (fun _ hk => hk.elim) (fun _ _ => trivial) HR.out HBr.out (by omega) ?aL ?_; (case aL => rw [List.length_take]; omega); intro v1 wv ho hb hg hat; have HO := Lib.hid ho; have HV := Lib.hid hb; clear ho hb hg hat))
        exact ⟨⟨j + 1, by omega, by go_num, Lib.hid (by rw [HS.out]; exact HO.out), HV⟩, by simp [intOf]; omega⟩
      · go_wp2_with (first | ((with_reducible refine gate_builtin (b := .append) (xs := #[.tmp 113, .tmp 136]) rfl ?_); at_builtin; refine Kd.R_append Kd.bool (w0 := w3) w3.heap.size rfl (.tmp 113) (.tmp 136) 45 4 (.bool false) 1 rfl Tryd.underlying45 info4 rfl (by decide) (by omega) _ ((mapL (fun p q => p && q) (bitsL 8 a) (bitsL 8 b)).take j) false [.bool false] (fun _ => True) (fun _ => False) rfl rfl rfl (fun _ hk => hk.elim) (fun _ _ => trivial) HR.out HBr.out (by omega) ?aL ?_; (case aL => rw [List.length_take]; omega); intro v1 wv ho hb hg hat; have HO := Lib.hid ho; have HV := Lib.hid hb; clear ho hb hg hat))
        exact ⟨⟨j + 1, by omega, by go_num, Lib.hid (by rw [HS.out]; exact HO.out), HV⟩, by simp [intOf]; omega⟩
      · go_wp2_with (first | ((with_reducible refine gate_builtin (b := .append) (xs := #[.tmp 113, .tmp 136]) rfl ?_); at_builtin; refine Kd.R_append Kd.bool (w0 := w3) w3.heap.size rfl (.tmp 113) (.tmp 136) 45 4 (.bool false) 1 rfl Tryd.underlying45 info4 rfl (by decide) (by omega) _ ((mapL (fun p q => p && q) (bitsL 8 a) (bitsL 8 b)).take j) false [.bool false] (fun _ => True) (fun _ => False) rfl rfl rfl (fun _ hk => hk.elim) (fun _ _ => trivial) HR.out HBr.out (by omega) ?aL ?_; (case aL => rw [List.length_take]; omega); intro v1 wv ho hb hg hat; have HO := Lib.hid ho; have HV := Lib.hid hb; clear ho hb hg hat))
        exact ⟨⟨j + 1, by omega, by go_num, Lib.hid (by rw [HS.out]; exact HO.out), HV⟩, by simp [intOf]; omega⟩
      · go_wp2_with (first | ((with_reducible refine gate_builtin (b := .append) (xs := #[.tmp 113, .tmp 136]) rfl ?_); at_builtin; refine Kd.R_append Kd.bool (w0 := w3) w3.heap.size rfl (.tmp 113) (.tmp 136) 45 4 (.bool false) 1 rfl Tryd.underlying45 info4 rfl (by decide) (by omega) _ ((mapL (fun p q => p && q) (bitsL 8 a) (bitsL 8 b)).take j) true [.bool true] (fun _ => True) (fun _ => False) rfl rfl rfl (fun _ hk => hk.elim) (fun _ _ => trivial) HR.out HBr.out (by omega) ?aL ?_; (case aL => rw [List.length_take]; omega); intro v1 wv ho hb hg hat; have HO := Lib.hid ho; have HV := Lib.hid hb; clear ho hb hg hat))
        exact ⟨⟨j + 1, by omega, by go_num, Lib.hid (by rw [HS.out]; exact HO.out), HV⟩, by simp [intOf]; omega⟩
    · obtain rfl : j = 8 := by omega
      have HR' := HR.out
      rw [List.take_of_length_le (by rw [HLN.out]; omega)] at HR'
      obtain ⟨A1, c1, rfl, hc1, hC1⟩ := reads_at HLN.out HR'
      have hb4 := HBr.out
      clear HR HR' hA hB hA' hB'
      go_wp2_with fail
      refine (rnumber 8 _ _ _ _ HLN.out (by omega) hC1 hc1).mono ?_
      rintro e w5 ⟨rfl, hb5⟩
      have HB := Lib.hid (bt (bt HB3.out hb4) hb5)
      clear hb4 hb5 hC1
      go_wp2_with ((with_reducible refine (rflags _ _ _ _ _).mono ?_); rintro e w' ⟨rfl, rfl⟩)
      go_ret2
      exact ⟨ret2 (by rw [num_and a b a0 a1 b0 b1]; exact Int.emod_eq_of_lt (bits_bd .and a b).1 (by have := (bits_bd .and a b).2; omega)) (by rw [num_and a b a0 a1 b0 b1]; rfl), HB.out⟩
set_option maxHeartbeats 4000000 in
set_option maxRecDepth 100000 in
theorem rarith_5 (a b f : Int) (w : World) (a0 : 0 ≤ a) (a1 : a ≤ 255) (b0 : 0 ≤ b) (b1 : b ≤ 255) (f0 : 0 ≤ f) (f1 : f ≤ 255) :
    Calls Tryd.prog 14 #[.int .i64 5, .int .u8 a, .int .u8 b, .int .u8 f] w fun e w' => e = .returned (.tuple #[.int .u8 (Go.Proofs.YtpkogmcafgplgaaDoor.AluC.arithV 5 a b f), .int .u8 (Go.Proofs.YtpkogmcafgplgaaDoor.AluC.arithF 5 a b f)]) ∧ Below w.heap.size w w' := by
  go_enter Tryd.func14, Tryd.ntmps14
  go_wp2_with fail
  refine (rbits a 8 _ a0 (by omega) (by omega)).mono ?_
  rintro e w1 ⟨A, c, rfl, hc, hA, hb1⟩
  go_wp2_with fail
  refine (rbits b 8 _ b0 (by omega) (by omega)).mono ?_
  rintro e w2 ⟨B, d, rfl, hd, hB, hb2⟩
  replace hA := Kd.C_below hA hb2
  go_wp2_with fail
  refine (rhas16 f _ f0 f1).mono ?_
  rintro e w3 ⟨rfl, hb3⟩
  replace hA := Kd.C_below hA hb3
  replace hB := Kd.C_below hB hb3
  go_wp2_with fail
  have HB3 := Lib.hid (bt (bt hb1 hb2) hb3)
  clear hb1 hb2 hb3
  have hln : (mapL (fun p q => p != q) (bitsL 8 a) (bitsL 8 b)).length = 8 := (len_mapL _ _ _ (by rw [len_bitsL, len_bitsL])).trans (len_bitsL 8 a)
  have HLN := Lib.hid hln
  clear hln
  go_loopw [13, 21] (fun out i wr => ∃ j : Nat, j ≤ 8 ∧ i = .int .i64 j ∧ Hid (Kd.R Kd.bool 4 wr w3.heap.size (fun _ => True) out ((mapL (fun p q => p != q) (bitsL 8 a) (bitsL 8 b)).take j)) ∧ Hid (Below w3.heap.size w3 wr)) (fun _ i _ => 8 - (intOf i).toNat)
  case atStart => exact ⟨0, by omega, rfl, Lib.hid (Kd.R_nil _ _ _ _ _), Lib.hid (Below.refl _ _)⟩
  case round =>
    obtain ⟨j, hj, rfl, HR, HBr⟩ := hrel
    have hA' := Kd.C_below hA HBr.out
    have hB' := Kd.C_below hB HBr.out
    by_cases hlt : j < 8
    · obtain ⟨ax, ex, hcx⟩ := Kd.at_bool hA' (j : Int) (by omega) (by omega)
      obtain ⟨ay, ey, hcy⟩ := Kd.at_bool hB' (j : Int) (by omega) (by omega)
      have hst := take_mapL (fun p q => p != q) (bitsL 8 a) (bitsL 8 b) j (by rw [len_bitsL, len_bitsL]) (by rw [len_bitsL]; omega)
      have HS := Lib.hid hst
      clear hst
      have HX : Hid (rdOf false (bitsL 8 a) (j : Int) = (bitsL 8 a).getD j false) := Lib.hid rfl
      have HY : Hid (rdOf false (bitsL 8 b) (j : Int) = (bitsL 8 b).getD j false) := Lib.hid rfl
      rw [HX.out, Int.toNat_natCast] at hcx
      rw [HY.out, Int.toNat_natCast] at hcy
      subst ex ey
      have hsz := HBr.out.size
      generalize hp : (bitsL 8 a).getD j false = p at *
      generalize hq : (bitsL 8 b).getD j false = q at *
      have HP := Lib.hid hp
      have HQ := Lib.hid hq
      clear hp hq hA' hB'
      cases p <;> cases q
      · go_wp2_with (first | ((with_reducible refine gate_builtin (b := .append) (xs := #[.tmp 113, .tmp 136]) rfl ?_); at_builtin; refine Kd.R_append Kd.bool (w0 := w3) w3.heap.size rfl (.tmp 113) (.tmp 136) 45 4 (.bool false) 1 rfl Tryd.underlying45 info4 rfl (by decide) (by omega) _ ((mapL (fun p q => p != q) (bitsL 8 a) (bitsL 8 b)).take j) false [.bool false] (fun _ => True) (fun _ => False) rfl rfl rfl (fun _ hk => hk.elim) (fun _ _ => trivial) HR.out HBr.out (by omega) ?aL ?_; (case aL => rw [List.length_take]; omega); intro v1 wv ho hb hg hat; have HO := Lib.hid ho; have HV := Lib.hid hb; clear ho hb hg hat))
        exact ⟨⟨j + 1, by omega, by go_num, Lib.hid (by rw [HS.out]; exact HO.out), HV⟩, by simp [intOf]; omega⟩
      · go_wp2_with (first | ((with_reducible refine gate_builtin (b := .append) (xs := #[.tmp 113, .tmp 136]) rfl ?_); at_builtin; refine Kd.R_append Kd.bool (w0 := w3) w3.heap.size rfl (.tmp 113) (.tmp 136) 45 4 (.bool false) 1 rfl Tryd.underlying45 info4 rfl (by decide) (by omega) _ ((mapL (fun p q => p != q) (bitsL 8 a) (bitsL 8 b)).take j) true [.bool true] (fun _ => True) (fun _ => False) rfl rfl rfl (fun _ hk => hk.elim) (fun _ _ => trivial) HR.out HBr.out (by omega) ?aL ?_; (case aL => rw [List.length_take]; omega); intro v1 wv ho hb hg hat; have HO := Lib.hid ho; have HV := Lib.hid hb; clear ho hb hg hat))
        exact ⟨⟨j + 1, by omega, by go_num, Lib.hid (by rw [HS.out]; exact HO.out), HV⟩, by simp [intOf]; omega⟩
      · go_wp2_with (first | ((with_reducible refine gate_builtin (b := .append) (xs := #[.tmp 113, .tmp 136]) rfl ?_); at_builtin; refine Kd.R_append Kd.bool (w0 := w3) w3.heap.size rfl (.tmp 113) (.tmp 136) 45 4 (.bool false) 1 rfl Tryd.underlying45 info4 rfl (by decide) (by omega) _ ((mapL (fun p q => p != q) (bitsL 8 a) (bitsL 8 b)).take j) true [.bool true] (fun _ => True) (fun _ => False) rfl rfl rfl (fun _ hk => hk.elim) (fun _ _ => trivial) HR.out HBr.out (by omega) ?aL ?_; (case aL => rw [List.length_take]; omega); intro v1 wv ho hb hg hat; have HO := Lib.hid ho; have HV := Lib.hid hb; clear ho hb hg hat))
        exact ⟨⟨j + 1, by omega, by go_num, Lib.hid (by rw [HS.out]; exact HO.out), HV⟩, by simp [intOf]; omega⟩
      · go_wp2_with (first | ((with_reducible refine gate_builtin (b := .append) (xs := #[.tmp 113, .tmp 136]) rfl ?_); at_builtin; refine Kd.R_append Kd.bool (w0 := w3) w3.heap.size rfl (.tmp 113) (.tmp 136) 45 4 (.bool false) 1 rfl Tryd.underlying45 info4 rfl (by decide) (by omega) _ ((mapL (fun p q => p != q) (bitsL 8 a) (bitsL 8 b)).take j) false [.bool false] (fun _ => True) (fun _ => False) rfl rfl rfl (fun _ hk => hk.elim) (fun _ _ => trivial) HR.out HBr.out (by omega) ?aL ?_; (case aL => rw [List.length_take]; omega); intro v1 wv ho hb hg hat; have HO := Lib.hid ho; have HV := Lib.hid hb; clear ho hb hg hat))
        exact ⟨⟨j + 1, by omega, by go_num, Lib.hid (by rw [HS.out]; exact HO.out), HV⟩, by simp [intOf]; omega⟩
    · obtain rfl : j = 8 := by omega
      have HR' := HR.out
      rw [List.take_of_length_le (by rw [HLN.out]; omega)] at HR'
      obtain ⟨A1, c1, rfl, hc1, hC1⟩ := reads_at HLN.out HR'
      have hb4 := HBr.out
      clear HR HR' hA hB hA' hB'
      go_wp2_with fail
      refine (rnumber 8 _ _ _ _ HLN.out (by omega) hC1 hc1).mono ?_
      rintro e w5 ⟨rfl, hb5⟩
      have HB := Lib.hid (bt (bt HB3.out hb4) hb5)
      clear hb4 hb5 hC1
      go_wp2_with ((with_reducible refine (rflags _ _ _ _ _).mono ?_); rintro e w' ⟨rfl, rfl⟩)
      go_ret2
      exact ⟨ret2 (by rw [num_xor a b a0 a1 b0 b1]; exact Int.emod_eq_of_lt (bits_bd .xor a b).1 (by have := (bits_bd .xor a b).2; omega)) (by rw [num_xor a b a0 a1 b0 b1]; rfl), HB.out⟩
set_option maxHeartbeats 4000000 in
set_option maxRecDepth 100000 in
theorem rarith_6 (a b f : Int) (w : World) (a0 : 0 ≤ a) (a1 : a ≤ 255) (b0 : 0 ≤ b) (b1 : b ≤ 255) (f0 : 0 ≤ f) (f1 : f ≤ 255) :
    Calls Tryd.prog 14 #[.int .i64 6, .int .u8 a, .int .u8 b, .int .u8 f] w fun e w' => e = .returned (.tuple #[.int .u8 (Go.Proofs.YtpkogmcafgplgaaDoor.AluC.arithV 6 a b f), .int .u8 (Go.Proofs.YtpkogmcafgplgaaDoor.AluC.arithF 6 a b f)]) ∧ Below w.heap.size w w' := by
  go_enter Tryd.func14, Tryd.ntmps14
  go_wp2_with fail
  refine (rbits a 8 _ a0 (by omega) (by omega)).mono ?_
  rintro e w1 ⟨A, c, rfl, hc, hA, hb1⟩
  go_wp2_with fail
  refine (rbits b 8 _ b0 (by omega) (by omega)).mono ?_
  rintro e w2 ⟨B, d, rfl, hd, hB, hb2⟩
  replace hA := Kd.C_below hA hb2
  go_wp2_with fail
  refine (rhas16 f _ f0 f1).mono ?_
  rintro e w3 ⟨rfl, hb3⟩
  replace hA := Kd.C_below hA hb3
  replace hB := Kd.C_below hB hb3
  go_wp2_with fail
  have HB3 := Lib.hid (bt (bt hb1 hb2) hb3)
  clear hb1 hb2 hb3
  have hln : (mapL (fun p q => p || q) (bitsL 8 a) (bitsL 8 b)).length = 8 := (len_mapL _ _ _ (by rw [len_bitsL, len_bitsL])).trans (len_bitsL 8 a)
  have HLN := Lib.hid hln
  clear hln
  go_loopw [13, 21] (fun out i wr => ∃ j : Nat, j ≤ 8 ∧ i = .int .i64 j ∧ Hid (Kd.R Kd.bool 4 wr w3.heap.size (fun _ => True) out ((mapL (fun p q => p || q) (bitsL 8 a) (bitsL 8 b)).take j)) ∧ Hid (Below w3.heap.size w3 wr)) (fun _ i _ => 8 - (intOf i).toNat)
  case atStart => exact ⟨0, by omega, rfl, Lib.hid (Kd.R_nil _ _ _ _ _), Lib.hid (Below.refl _ _)⟩
  case round =>
    obtain ⟨j, hj, rfl, HR, HBr⟩ := hrel
    have hA' := Kd.C_below hA HBr.out
    have hB' := Kd.C_below hB HBr.out
    by_cases hlt : j < 8
    · obtain ⟨ax, ex, hcx⟩ := Kd.at_bool hA' (j : Int) (by omega) (by omega)
      obtain ⟨ay, ey, hcy⟩ := Kd.at_bool hB' (j : Int) (by omega) (by omega)
      have hst := take_mapL (fun p q => p || q) (bitsL 8 a) (bitsL 8 b) j (by rw [len_bitsL, len_bitsL]) (by rw [len_bitsL]; omega)
      have HS := Lib.hid hst
      clear hst
      have HX : Hid (rdOf false (bitsL 8 a) (j : Int) = (bitsL 8 a).getD j false) := Lib.hid rfl
      have HY : Hid (rdOf false (bitsL 8 b) (j : Int) = (bitsL 8 b).getD j false) := Lib.hid rfl
      rw [HX.out, Int.toNat_natCast] at hcx
      rw [HY.out, Int.toNat_natCast] at hcy
      subst ex ey
      have hsz := HBr.out.size
      generalize hp : (bitsL 8 a).getD j false = p at *
      generalize hq : (bitsL 8 b).getD j false = q at *
      have HP := Lib.hid hp
      have HQ := Lib.hid hq
      clear hp hq hA' hB'
      cases p <;> cases q
      · go_wp2_with (first | ((with_reducible refine gate_builtin (b := .append) (xs := #[.tmp 113, .tmp 136]) rfl ?_); at_builtin; refine Kd.R_append Kd.bool (w0 := w3) w3.heap.size rfl (.tmp 113) (.tmp 136) 45 4 (.bool false) 1 rfl Tryd.underlying45 info4 rfl (by decide) (by omega) _ ((mapL (fun p q => p || q) (bitsL 8 a) (bitsL 8 b)).take j) false [.bool false] (fun _ => True) (fun _ => False) rfl rfl rfl (fun _ hk => hk.elim) (fun _ _ => trivial) HR.out HBr.out (by omega) ?aL ?_; (case aL => rw [List.length_take]; omega); intro v1 wv ho hb hg hat; have HO := Lib.hid ho; have HV := Lib.hid hb; clear ho hb hg hat))
        exact ⟨⟨j + 1, by omega, by go_num, Lib.hid (by rw [HS.out]; exact HO.out), HV⟩, by simp [intOf]; omega⟩
      · go_wp2_with (first | ((with_reducible refine gate_builtin (b := .append) (xs := #[.tmp 113, .tmp 136]) rfl ?_); at_builtin; refine Kd.R_append Kd.bool (w0 := w3) w3.heap.size rfl (.tmp 113) (.tmp 136) 45 4 (.bool false) 1 rfl Tryd.underlying45 info4 rfl (by decide) (by omega) _ ((mapL (fun p q => p || q) (bitsL 8 a) (bitsL 8 b)).take j) true [.bool true] (fun _ => True) (fun _ => False) rfl rfl rfl (fun _ hk => hk.elim) (fun _ _ => trivial) HR.out HBr.out (by omega) ?aL ?_; (case aL => rw [List.length_take]; omega); intro v1 wv ho hb hg hat; have HO := Lib.hid ho; have HV := Lib.hid hb; clear ho hb hg hat))
        exact ⟨⟨j + 1, by omega, by go_num, Lib.hid (by rw [HS.out]; exact HO.out), HV⟩, by simp [intOf]; omega⟩
      · go_wp2_with (first | ((with_reducible refine gate_builtin (b := .append) (xs := #[.tmp 113, .tmp 136]) rfl ?_); at_builtin; refine Kd.R_append Kd.bool (w0 := w3) w3.heap.size rfl (.tmp 113) (.tmp 136) 45 4 (.bool false) 1 rfl Tryd.underlying45 info4 rfl (by decide) (by omega) _ ((mapL (fun p q => p || q) (bitsL 8 a) (bitsL 8 b)).take j) true [.bool true] (fun _ => True) (fun _ => False) rfl rfl rfl (fun _ hk => hk.elim) (fun _ _ => trivial) HR.out HBr.out (by omega) ?aL ?_; (case aL => rw [List.length_take]; omega); intro v1 wv ho hb hg hat; have HO := Lib.hid ho; have HV := Lib.hid hb; clear ho hb hg hat))
        exact ⟨⟨j + 1, by omega, by go_num, Lib.hid (by rw [HS.out]; exact HO.out), HV⟩, by simp [intOf]; omega⟩
      · go_wp2_with (first | ((with_reducible refine gate_builtin (b := .append) (xs := #[.tmp 113, .tmp 136]) rfl ?_); at_builtin; refine Kd.R_append Kd.bool (w0 := w3) w3.heap.size rfl (.tmp 113) (.tmp 136) 45 4 (.bool false) 1 rfl Tryd.underlying45 info4 rfl (by decide) (by omega) _ ((mapL (fun p q => p || q) (bitsL 8 a) (bitsL 8 b)).take j) true [.bool true] (fun _ => True) (fun _ => False) rfl rfl rfl (fun _ hk => hk.elim) (fun _ _ => trivial) HR.out HBr.out (by omega) ?aL ?_; (case aL => rw [List.length_take]; omega); intro v1 wv ho hb hg hat; have HO := Lib.hid ho; have HV := Lib.hid hb; clear ho hb hg hat))
        exact ⟨⟨j + 1, by omega, by go_num, Lib.hid (by rw [HS.out]; exact HO.out), HV⟩, by simp [intOf]; omega⟩
    · obtain rfl : j = 8 := by omega
      have HR' := HR.out
      rw [List.take_of_length_le (by rw [HLN.out]; omega)] at HR'
      obtain ⟨A1, c1, rfl, hc1, hC1⟩ := reads_at HLN.out HR'
      have hb4 := HBr.out
      clear HR HR' hA hB hA' hB'
      go_wp2_with fail
      refine (rnumber 8 _ _ _ _ HLN.out (by omega) hC1 hc1).mono ?_
      rintro e w5 ⟨rfl, hb5⟩
      have HB := Lib.hid (bt (bt HB3.out hb4) hb5)
      clear hb4 hb5 hC1
      go_wp2_with ((with_reducible refine (rflags _ _ _ _ _).mono ?_); rintro e w' ⟨rfl, rfl⟩)
      go_ret2
      exact ⟨ret2 (by rw [num_or a b a0 a1 b0 b1]; exact Int.emod_eq_of_lt (bits_bd .or a b).1 (by have := (bits_bd .or a b).2; omega)) (by rw [num_or a b a0 a1 b0 b1]; rfl), HB.out⟩
set_option maxHeartbeats 4000000 in
set_option maxRecDepth 100000 in
theorem rarith_no (op a b f : Int) (w : World) (h : op < 0 ∨ 8 ≤ op) (a0 : 0 ≤ a) (a1 : a ≤ 255) (b0 : 0 ≤ b) (b1 : b ≤ 255) (f0 : 0 ≤ f) (f1 : f ≤ 255) :
    Calls Tryd.prog 14 #[.int .i64 op, .int .u8 a, .int .u8 b, .int .u8 f] w fun e w' => e = .returned (.tuple #[.int .u8 a, .int .u8 (f / 16 * 16)]) ∧ Below w.heap.size w w' := by
  have n0 : (op == 0) = false := by rw [beq_eq_false_iff_ne]; omega
  have n1 : (op == 1) = false := by rw [beq_eq_false_iff_ne]; omega
  have n2 : (op == 2) = false := by rw [beq_eq_false_iff_ne]; omega
  have n3 : (op == 3) = false := by rw [beq_eq_false_iff_ne]; omega
  have n4 : (op == 4) = false := by rw [beq_eq_false_iff_ne]; omega
  have n5 : (op == 5) = false := by rw [beq_eq_false_iff_ne]; omega
  have n6 : (op == 6) = false := by rw [beq_eq_false_iff_ne]; omega
  have n7 : (op == 7) = false := by rw [beq_eq_false_iff_ne]; omega
  go_enter Tryd.func14, Tryd.ntmps14
  go_wp2_with fail
  refine (rbits a 8 _ a0 (by omega) (by omega)).mono ?_
  rintro e w1 ⟨A, c, rfl, hc, hA, hb1⟩
  go_wp2_with fail
  refine (rbits b 8 _ b0 (by omega) (by omega)).mono ?_
  rintro e w2 ⟨B, d, rfl, hd, hB, hb2⟩
  replace hA := Kd.C_below hA hb2
  go_wp2_with fail
  refine (rhas16 f _ f0 f1).mono ?_
  rintro e w3 ⟨rfl, hb3⟩
  replace hA := Kd.C_below hA hb3
  replace hB := Kd.C_below hB hb3
  have HB3 := Lib.hid (bt (bt hb1 hb2) hb3)
  clear hb1 hb2 hb3 hA hB
  go_wp2_with fail
  refine (rclean f _ f0 f1).mono ?_
  rintro e w5 ⟨rfl, hb5⟩
  have HB := Lib.hid (bt HB3.out hb5)
  clear hb5
  go_wp2_with fail
  go_ret2
  exact ⟨rfl, HB.out⟩
theorem rarith (op a b f : Int) (w : World) (a0 : 0 ≤ a) (a1 : a ≤ 255) (b0 : 0 ≤ b) (b1 : b ≤ 255) (f0 : 0 ≤ f) (f1 : f ≤ 255) :
    Calls Tryd.prog 14 #[.int .i64 op, .int .u8 a, .int .u8 b, .int .u8 f] w fun e w' => e = .returned (.tuple #[.int .u8 (Go.Proofs.YtpkogmcafgplgaaDoor.AluC.arithV op a b f), .int .u8 (Go.Proofs.YtpkogmcafgplgaaDoor.AluC.arithF op a b f)]) ∧ Below w.heap.size w w' := by
  by_cases h : op < 0 ∨ 8 ≤ op
  · refine (rarith_no op a b f w h a0 a1 b0 b1 f0 f1).mono ?_
    rintro e w' ⟨rfl, hb⟩
    refine ⟨ret2 ?_ ?_, hb⟩
    · unfold Go.Proofs.YtpkogmcafgplgaaDoor.AluC.arithV; repeat rw [if_neg (by omega)]
    · unfold Go.Proofs.YtpkogmcafgplgaaDoor.AluC.arithF; repeat rw [if_neg (by omega)]
  · rcases (show op = 0 ∨ op = 1 ∨ op = 2 ∨ op = 3 ∨ op = 4 ∨ op = 5 ∨ op = 6 ∨ op = 7 by omega) with rfl | rfl | rfl | rfl | rfl | rfl | rfl | rfl
    · exact rarith_0 a b f w a0 a1 b0 b1 f0 f1
    · exact rarith_1 a b f w a0 a1 b0 b1 f0 f1
    · exact rarith_2 a b f w a0 a1 b0 b1 f0 f1
    · exact rarith_3 a b f w a0 a1 b0 b1 f0 f1
    · exact rarith_4 a b f w a0 a1 b0 b1 f0 f1
    · exact rarith_5 a b f w a0 a1 b0 b1 f0 f1
    · exact rarith_6 a b f w a0 a1 b0 b1 f0 f1
    · exact rarith_7 a b f w a0 a1 b0 b1 f0 f1
end Go.Proofs.YtpkogmcafgplgaaDoor.AluV
