import Derived.Lib.LazyBuf
import Derived.BigRegion
import Derived.RegionTactic
import Derived.StillTailTactics
import Derived.Laws.StructEq
import Derived.Test.YtmofiicjaldmiaaGreatDoorGAa
section
namespace Go.Proofs.YtmofiicjaldmiaaGreatDoor.SvE
open Go.RowKit Go.Shelf YtmofiicjaldmiaaGreatDoorW.PrintWords YtmofiicjaldmiaaGreatDoorW.PrintLast SvA SvB SvC SvD
set_option linter.unusedVariables false
set_option linter.unusedSimpArgs false
theorem info121 : (Tryz.prog.info? 121).map (fun i => (i.zero, i.size, i.bytes)) = some (some (.agg #[.int .i64 0, .slice none 0 0]), 2, 32) := by kernel_rfl
set_option maxRecDepth 100000 in
theorem write_full (w : World) (own : Nat → Nat) (t g : Nat) (b : BS) (H : StA w own t g b) (i : Nat) (A : Option Addr) (c : Nat) (hi : i < b.n) (hz : b.safe.length < 2 ^ 40) (hf : BS.full b = true) :
  Calls Tryz.prog 69 #[pt g, .int .i64 (i : Int), .slice A 512 c] w fun e w' => e = .returned (.int .i64 101) ∧ w = w' := by
 obtain ⟨zs, zp, ps, hg, hb, hs, hpe, hd⟩ := H
 have hzl := (ow_len hs).1
 have hc := is_ok w g zs _ _ _ (i : Int) hb (by omega)
 have hdec : decide (0 ≤ (i : Int) ∧ (i : Int) < ((zs.n / 512 : Nat) : Int)) = true := decide_eq_true (by unfold BS.n at hi; rw [hzl] at hi; omega)
 rw [hdec] at hc
 unfold BS.full at hf
 obtain ⟨f1, f2⟩ := Bool.and_eq_true_iff.1 hf
 have f3 : b.left = 0 := of_decide_eq_true f2
 rw [f1, f3] at hb
 have c2 : w.cell? ⟨g, 2, none⟩ = some (.bool true) := Blk.cell (i := 2) hb rfl
 have c3 : w.cell? ⟨g, 3, none⟩ = some (.int .i64 0) := Blk.cell (i := 3) hb rfl
 clear hb hdec f1 f2 f3 hf
 go_enter Tryz.func69, Tryz.ntmps69
 go_wp2_with (go_at_call 108; refine hc.mono ?_; rintro e w' ⟨rfl, rfl⟩)
 go_ret
 exact ⟨rfl, rfl⟩
theorem write_end {w W1 w2 w3 : World} {own own2 : Nat → Nat} {t g i m : Nat} {b : BS} {zs zp s3 : Sl} {ps : List WP} {B : Option Addr} {data : List Int} {x : Value} (ht : t ≠ 0)
  (hg : own g = t) (h0 : Kp (fun q => q = t) w own W1 own) (hB : Blk W1 g #[zs.enc, zp.enc, .bool b.lim, x] 89) (hx : x = .int .i64 (wrap64 (b.left - 1))) (hs : Ow u8K 5 W1 own (t + 1) zs b.safe) (hd : Pd W1 own ps b.pend) (hf : Below W1.heap.size W1 w2)
  (ho : Ow wrK 121 w3 own2 (t + 2) s3 (ps ++ [((i : Int), Sl.mk B 512 m)])) (hk : Kp (fun q => q = t + 2) w2 (tagged W1 own 0) w3 own2) (f1 : 512 ≤ m) (f2 : BytesAt w2 B 512 data) (f3 : ∀ a, B = some a → W1.heap.size ≤ a.block) :
  ∃ own', StA (w3.setCell ⟨g, 1, none⟩ s3.enc) own' t g (b.put (i : Int) data) ∧ Kp (fun q => q = t ∨ q = t + 2) w own (w3.setCell ⟨g, 1, none⟩ s3.enc) own' := by
 subst hx
 have hk1 := Kp.below (ts := fun _ => False) (own := own) hf 0
 have hgl := Blk.lt hB
 have hg1 : tagged W1 own 0 g = t := (tagged_old hgl).trans hg
 obtain ⟨hb3, hg3⟩ := Blk.keep (Blk.below hB hf) hk (by rw [hg1]; omega)
 have hg2 : own2 g = t := hg3.trans hg1
 have hk3 : Kp (fun q => q = t) w3 own2 (w3.setCell ⟨g, 1, none⟩ s3.enc) own2 := (Kp.refl _ w3 own2).set _ _ (fun k hk hn e => hn (by rw [e]; exact hg2))
 have hr : Rd u8K w3 own2 0 ⟨B, 512, m⟩ data := Rd.keep u8K_K (by decide) (⟨f2, f1, fun a ha hn => tagged_new (f3 a ha)⟩ : Rd u8K w2 (tagged W1 own 0) 0 ⟨B, 512, m⟩ data) hk (by omega)
 have hs3 := (hs.keep hk1 (fun q => q)).keep hk (show ¬ t + 1 = t + 2 by omega)
 have hd3 := (hd.keep hk1 (fun q => q)).keep hk (show ¬ 0 = t + 2 by omega)
 have hd4 : Pd w3 own2 (ps ++ [((i : Int), Sl.mk B 512 m)]) (b.put (i : Int) data).pend := by
  refine ⟨by simp [BS.put, hd.1], fun j p q hp hq => ?_⟩
  simp only [BS.put] at hq
  by_cases hj : j < ps.length
  ·
   rw [List.getElem?_append_left hj] at hp
   rw [List.getElem?_append_left (by rw [← hd.1]; exact hj)] at hq
   exact hd3.2 j p q hp hq
  ·
   rw [List.getElem?_append_right (by omega)] at hp
   rw [List.getElem?_append_right (by rw [← hd.1]; omega), ← hd.1] at hq
   have h0 : j - ps.length = 0 := by
    have := (List.getElem?_eq_some_iff.1 hp).1
    simp at this
    omega
   rw [h0] at hp hq
   simp at hp hq
   subst hp
   subst hq
   exact ⟨rfl, hr, f2.1⟩
 refine ⟨own2, ⟨zs, s3, _, hg2, Blk.set hb3 (i := 1) s3.enc, hs3.keep hk3 (by omega), ho.keep hk3 (by omega), hd4.keep hk3 (by omega)⟩, ?_⟩
 exact ((h0.mono (fun q h => Or.inl h)).trans (hk1.mono (fun q h => h.elim))).trans ((hk.mono (fun q h => Or.inr h)).trans (hk3.mono (fun q h => Or.inl h)))
set_option maxRecDepth 100000 in
set_option maxHeartbeats 1000000 in
theorem write_ok (w : World) (own : Nat → Nat) (t g : Nat) (b : BS) (H : StA w own t g b) (i : Nat) (A : Option Addr) (c : Nat) (data : List Int) (hi : i < b.n) (hz : b.safe.length < 2 ^ 40) (hp : b.pend.length < 2 ^ 40) (ht : t ≠ 0) (td : Nat) (htd : td ≠ t) (hda : Rd u8K w own td ⟨A, 512, c⟩ data) (hf : BS.full b = false) :
  Calls Tryz.prog 69 #[pt g, .int .i64 (i : Int), .slice A 512 c] w fun e w' => e = .returned (.int .i64 0) ∧ ∃ own', StA w' own' t g (b.put (i : Int) data) ∧ Kp (fun q => q = t ∨ q = t + 2) w own w' own' := by
 obtain ⟨zs, zp, ps, hg, hb, hs, hpe, hd⟩ := H
 have hzl := (ow_len hs).1
 have hpl : ps.length < 2 ^ 40 := by rw [hd.1]; exact hp
 have hc := is_ok w g zs _ _ _ (i : Int) hb (by omega)
 have hdec : decide (0 ≤ (i : Int) ∧ (i : Int) < ((zs.n / 512 : Nat) : Int)) = true := decide_eq_true (by unfold BS.n at hi; rw [hzl] at hi; omega)
 rw [hdec] at hc
 clear hdec
 have HF := Lib.hid hf
 have c2 : w.cell? ⟨g, 2, none⟩ = some (.bool b.lim) := Blk.cell (i := 2) hb rfl
 have c3 : w.cell? ⟨g, 3, none⟩ = some (.int .i64 b.left) := Blk.cell (i := 3) hb rfl
 have z3 : w.frozen? ⟨g, 3, none⟩ = false := Blk.frozen hb
 have HB := Lib.hid hb
 clear hb
 go_enter Tryz.func69, Tryz.ntmps69
 have hfl : b.lim = true → decide (b.left = 0) = false := fun h => by
  have := HF.out
  unfold BS.full at this
  rw [h] at this
  simpa using this
 cases hlim : b.lim
 ·
  rw [hlim] at c2
  go_upto_region 6 with (go_at_call 108; refine hc.mono ?_; rintro e w' ⟨rfl, rfl⟩)
  have HB1 := Lib.hid (Blk.set HB.out (i := 3) (.int .i64 (wrap64 (b.left - 1))))
  have hk0 : Kp (fun q => q = t) w own (w.setCell ⟨g, 3, none⟩ (.int .i64 (wrap64 (b.left - 1)))) own := (Kp.refl _ w own).set _ _ (fun k hk hn e => hn (by rw [e]; exact hg))
  have HP := Lib.hid (Ow.keep hpe hk0 (by intro e; omega))
  have HS := Lib.hid (Ow.keep hs hk0 (by intro e; omega))
  have HDP := Lib.hid (Pd.keep hd hk0 (by intro e; omega))
  have HDA := Lib.hid (Rd.keep u8K_K (by decide) hda hk0 htd)
  have HK0 := Lib.hid hk0
  have HGT := Lib.hid hg
  clear hk0 hpe hs hd hda hg hc c2 c3 z3 HB HF hfl hf
  generalize w.setCell ⟨g, 3, none⟩ (.int .i64 (wrap64 (b.left - 1))) = W1 at *
  have c1 : W1.cell? ⟨g, 1, none⟩ = some (.slice zp.A zp.n zp.c) := Blk.cell (i := 1) HB1.out rfl
  refine start_ (n := 14) (S := fun w' => w'.cell? ⟨g, 1, none⟩ = some (.slice zp.A zp.n zp.c)) (ds := [10, 13]) #[false, false, false, false, false, false, false, false, false, false, false, false, false, false] (by kernel_rfl) rfl rfl c1 (fun hHeld => ?_)
  refine pu_ (i := 0) (N := some 36) (v := ?_) (a' := ?_) rfl rfl (by kernel_rfl) (fun _ _ _ h => h) (by rfl) ?_ ?_ ?_
  rotate_left
  · (intro w'; go_simp; with_reducible rfl)
  rotate_left
  · (simp only [put_s, List.set, i64_w, i32_w]; rfl)
  refine pu_ (i := 1) (N := some 37) (v := ?_) (a' := ?_) rfl rfl (by kernel_rfl) (fun _ _ _ h => h) (by rfl) ?_ ?_ ?_
  rotate_left
  · (intro w'; go_simp; with_reducible rfl)
  rotate_left
  · (simp only [put_s, List.set, i64_w, i32_w]; rfl)
  refine pu_ (i := 2) (N := some 38) (v := ?_) (a' := ?_) rfl rfl (by kernel_rfl) (fun _ _ _ h => h) (by rfl) ?_ ?_ ?_
  rotate_left
  · (intro w'; go_simp; with_reducible rfl)
  rotate_left
  · (simp only [put_s, List.set, i64_w, i32_w]; rfl)
  refine pu_ (i := 3) (N := some 39) (v := ?_) (a' := ?_) rfl rfl (by kernel_rfl) (fun _ _ _ h => h) (by rfl) ?_ ?_ ?_
  rotate_left
  · (intro w'; go_simp; with_reducible rfl)
  rotate_left
  · (simp only [put_s, List.set, i64_w, i32_w]; rfl)
  refine tk_ (i := 4) (N := some 40) (v := ?_) (a' := ?_) rfl rfl (by kernel_rfl) (fun _ _ _ h => h) (by rfl) ?_ hHeld ?_ ?_
  rotate_left
  ·
   intro w' s0
   have q1 := s0
   go_simp
   with_reducible rfl
  rotate_left
  · (simp only [put_s, List.set, i64_w, i32_w]; rfl)
  refine pu_ (i := 5) (N := some 41) (v := ?_) (a' := ?_) rfl rfl (by kernel_rfl) (fun _ _ _ h => h) (by rfl) ?_ ?_ ?_
  rotate_left
  · (intro w'; go_simp; with_reducible rfl)
  rotate_left
  · (simp only [put_s, List.set, i64_w, i32_w]; rfl)
  refine pu_ (i := 6) (N := some 42) (v := ?_) (a' := ?_) rfl rfl (by kernel_rfl) (fun _ _ _ h => h) (by rfl) ?_ ?_ ?_
  rotate_left
  · (intro w'; go_simp; with_reducible rfl)
  rotate_left
  · (simp only [put_s, List.set, i64_w, i32_w]; rfl)
  refine on_ (i := 7) (N := some 43) rfl rfl (by kernel_rfl) (by decide) (fun K hK => ?_)
  refine goes_ Tryz.func62 (by kernel_rfl) rfl #[.slice A 512 c] (by rfl) rfl rfl (by first | rfl | (simp [Act.eval])) ?_
  refine Calls.mono (clone_n A 512 c data _ HDA.out.1 (by omega)) ?_
  rintro e w2 ⟨B, m, rfl, f1, f2, f3, f4⟩
  refine ⟨_, rfl, ?_⟩
  refine hK.out _ _ (cellOf f4 hHeld) (fun hHeld => ?_)
  clear hK K
  refine norm_ (a' := ?_) ?_ ?_
  rotate_left
  ·
   show Act.put _ (some 43) _ = _
   simp only [put_s, List.set, i64_w, i32_w]
   rfl
  refine pu_ (i := 8) (N := some 44) (v := ?_) (a' := ?_) rfl rfl (by kernel_rfl) (fun _ _ _ h => h) (by rfl) ?_ ?_ ?_
  rotate_left
  · (intro w'; go_simp; with_reducible rfl)
  rotate_left
  · (simp only [put_s, List.set, i64_w, i32_w]; rfl)
  refine on_ (i := 9) (N := some 45) rfl rfl (by kernel_rfl) (by decide) (fun K hK => ?_)
  refine value_ (v := .slice (some ⟨w2.heap.size, 0, none⟩) 1 1) (w1 := w2.alloc (.cells #[.int .i64 (i : Int), .slice B 512 m] 121)) (by rfl) rfl (by go_simp) ?_
  refine hK.out _ _ (cellOf (ba _) hHeld) (fun hHeld => ?_)
  clear hK K
  refine norm_ (a' := ?_) ?_ ?_
  rotate_left
  ·
   show Act.put _ (some 45) _ = _
   simp only [put_s, List.set, i64_w, i32_w]
   rfl
  refine la_ (i := 10) (N := some 46) rfl rfl (by kernel_rfl) (by decide) (fun K hK => ?_)
  have hk1 := Kp.below (ts := fun _ => False) (own := own) (w := W1.drew) f4 0
  have HP1 : Ow wrK 121 w2 (tagged W1.drew own 0) (t + 2) zp ps := Ow.keep (w := W1.drew) HP.out hk1 (fun q => q)
  refine Kd.R_append_step wrK (w0 := w2) 0 (by rfl) (.tmp 40) (.tmp 45) 87 121 (.agg #[.int .i64 0, .slice none 0 0]) 32 rfl Tryz.underlying87 info121 rfl (by decide) (by decide) zp.enc ps ((i : Int), Sl.mk B 512 m) [.int .i64 (i : Int), .slice B 512 m] (fun k => tagged w2 (tagged W1.drew own 0) (t + 2) k = t + 2) (fun _ => False) rfl rfl rfl (fun _ hk => hk.elim) (fun q hq => tagged_new (by have hz : (w2).heap.size ≤ q := hq; exact hz)) (Ow.alloc HP1 (Below.refl _ _)) (Below.refl 0 _) (Nat.zero_le _) (by omega) ?_
  intro v3 w3 ho hb hg3 hat
  obtain ⟨s3, rfl, ho', hk'⟩ := Ow.pushed HP1 (Below.refl _ _) ho hg3
  clear ho hb hg3 hat
  refine hK.out _ _ ?_
  clear hK K
  refine norm_ (a' := ?_) ?_ ?_
  rotate_left
  ·
   show Act.put _ (some 46) _ = _
   simp only [put_s, List.set, i64_w, i32_w]
   rfl
  refine pu_ (i := 11) (N := some 47) (v := ?_) (a' := ?_) rfl rfl (by kernel_rfl) (fun _ _ _ h => h) (by rfl) ?_ ?_ ?_
  rotate_left
  · (intro w'; go_simp; with_reducible rfl)
  rotate_left
  · (simp only [put_s, List.set, i64_w, i32_w]; rfl)
  refine pu_ (i := 12) (N := some 48) (v := ?_) (a' := ?_) rfl rfl (by kernel_rfl) (fun _ _ _ h => h) (by rfl) ?_ ?_ ?_
  rotate_left
  · (intro w'; go_simp; with_reducible rfl)
  rotate_left
  · (simp only [put_s, List.set, i64_w, i32_w]; rfl)
  refine la_ (i := 13) (N := none) rfl rfl (by kernel_rfl) (by decide) (fun K hK => ?_)
  have hb3 := Blk.keep (Blk.below (w := W1.drew) HB1.out f4) hk' (by rw [tagged_old (w := W1.drew) (Blk.lt HB1.out), HGT.out]; show ¬ t = t + 2; omega)
  have c3 := Blk.cell (i := 1) hb3.1 rfl
  have z3 := Blk.frozen (i := 1) hb3.1
  refine skip_ (w1 := w3.setCell ⟨g, 1, none⟩ s3.enc) (by rfl) rfl (by simp only [Sl.enc]; go_simp) ?_
  refine hK.out _ _ ?_
  clear hK K
  refine done_ (by kernel_rfl) ?_
  have HE := Lib.hid (write_end (W1 := W1.drew) (b := b) (i := i) (data := data) ht HGT.out HK0.out.drew HB1.out rfl HS.out HDP.out f4 ho' hk' f1 f2 f3)
  clear ho' hk' hb3 c3 z3
  go_wp2_with fail
  go_ret
  exact ⟨rfl, HE.out⟩
 ·
  have hfl' : ¬ b.left = 0 := of_decide_eq_false (hfl hlim)
  rw [hlim] at c2
  go_upto_region 6 with (go_at_call 108; refine hc.mono ?_; rintro e w' ⟨rfl, rfl⟩)
  have HB1 := Lib.hid (Blk.set HB.out (i := 3) (.int .i64 (wrap64 (b.left - 1))))
  have hk0 : Kp (fun q => q = t) w own (w.setCell ⟨g, 3, none⟩ (.int .i64 (wrap64 (b.left - 1)))) own := (Kp.refl _ w own).set _ _ (fun k hk hn e => hn (by rw [e]; exact hg))
  have HP := Lib.hid (Ow.keep hpe hk0 (by intro e; omega))
  have HS := Lib.hid (Ow.keep hs hk0 (by intro e; omega))
  have HDP := Lib.hid (Pd.keep hd hk0 (by intro e; omega))
  have HDA := Lib.hid (Rd.keep u8K_K (by decide) hda hk0 htd)
  have HK0 := Lib.hid hk0
  have HGT := Lib.hid hg
  clear hk0 hpe hs hd hda hg hc c2 c3 z3 HB HF hfl hf
  generalize w.setCell ⟨g, 3, none⟩ (.int .i64 (wrap64 (b.left - 1))) = W1 at *
  have c1 : W1.cell? ⟨g, 1, none⟩ = some (.slice zp.A zp.n zp.c) := Blk.cell (i := 1) HB1.out rfl
  refine start_ (n := 14) (S := fun w' => w'.cell? ⟨g, 1, none⟩ = some (.slice zp.A zp.n zp.c)) (ds := [10, 13]) #[false, false, false, false, false, false, false, false, false, false, false, false, false, false] (by kernel_rfl) rfl rfl c1 (fun hHeld => ?_)
  refine pu_ (i := 0) (N := some 36) (v := ?_) (a' := ?_) rfl rfl (by kernel_rfl) (fun _ _ _ h => h) (by rfl) ?_ ?_ ?_
  rotate_left
  · (intro w'; go_simp; with_reducible rfl)
  rotate_left
  · (simp only [put_s, List.set, i64_w, i32_w]; rfl)
  refine pu_ (i := 1) (N := some 37) (v := ?_) (a' := ?_) rfl rfl (by kernel_rfl) (fun _ _ _ h => h) (by rfl) ?_ ?_ ?_
  rotate_left
  · (intro w'; go_simp; with_reducible rfl)
  rotate_left
  · (simp only [put_s, List.set, i64_w, i32_w]; rfl)
  refine pu_ (i := 2) (N := some 38) (v := ?_) (a' := ?_) rfl rfl (by kernel_rfl) (fun _ _ _ h => h) (by rfl) ?_ ?_ ?_
  rotate_left
  · (intro w'; go_simp; with_reducible rfl)
  rotate_left
  · (simp only [put_s, List.set, i64_w, i32_w]; rfl)
  refine pu_ (i := 3) (N := some 39) (v := ?_) (a' := ?_) rfl rfl (by kernel_rfl) (fun _ _ _ h => h) (by rfl) ?_ ?_ ?_
  rotate_left
  · (intro w'; go_simp; with_reducible rfl)
  rotate_left
  · (simp only [put_s, List.set, i64_w, i32_w]; rfl)
  refine tk_ (i := 4) (N := some 40) (v := ?_) (a' := ?_) rfl rfl (by kernel_rfl) (fun _ _ _ h => h) (by rfl) ?_ hHeld ?_ ?_
  rotate_left
  ·
   intro w' s0
   have q1 := s0
   go_simp
   with_reducible rfl
  rotate_left
  · (simp only [put_s, List.set, i64_w, i32_w]; rfl)
  refine pu_ (i := 5) (N := some 41) (v := ?_) (a' := ?_) rfl rfl (by kernel_rfl) (fun _ _ _ h => h) (by rfl) ?_ ?_ ?_
  rotate_left
  · (intro w'; go_simp; with_reducible rfl)
  rotate_left
  · (simp only [put_s, List.set, i64_w, i32_w]; rfl)
  refine pu_ (i := 6) (N := some 42) (v := ?_) (a' := ?_) rfl rfl (by kernel_rfl) (fun _ _ _ h => h) (by rfl) ?_ ?_ ?_
  rotate_left
  · (intro w'; go_simp; with_reducible rfl)
  rotate_left
  · (simp only [put_s, List.set, i64_w, i32_w]; rfl)
  refine on_ (i := 7) (N := some 43) rfl rfl (by kernel_rfl) (by decide) (fun K hK => ?_)
  refine goes_ Tryz.func62 (by kernel_rfl) rfl #[.slice A 512 c] (by rfl) rfl rfl (by first | rfl | (simp [Act.eval])) ?_
  refine Calls.mono (clone_n A 512 c data _ HDA.out.1 (by omega)) ?_
  rintro e w2 ⟨B, m, rfl, f1, f2, f3, f4⟩
  refine ⟨_, rfl, ?_⟩
  refine hK.out _ _ (cellOf f4 hHeld) (fun hHeld => ?_)
  clear hK K
  refine norm_ (a' := ?_) ?_ ?_
  rotate_left
  ·
   show Act.put _ (some 43) _ = _
   simp only [put_s, List.set, i64_w, i32_w]
   rfl
  refine pu_ (i := 8) (N := some 44) (v := ?_) (a' := ?_) rfl rfl (by kernel_rfl) (fun _ _ _ h => h) (by rfl) ?_ ?_ ?_
  rotate_left
  · (intro w'; go_simp; with_reducible rfl)
  rotate_left
  · (simp only [put_s, List.set, i64_w, i32_w]; rfl)
  refine on_ (i := 9) (N := some 45) rfl rfl (by kernel_rfl) (by decide) (fun K hK => ?_)
  refine value_ (v := .slice (some ⟨w2.heap.size, 0, none⟩) 1 1) (w1 := w2.alloc (.cells #[.int .i64 (i : Int), .slice B 512 m] 121)) (by rfl) rfl (by go_simp) ?_
  refine hK.out _ _ (cellOf (ba _) hHeld) (fun hHeld => ?_)
  clear hK K
  refine norm_ (a' := ?_) ?_ ?_
  rotate_left
  ·
   show Act.put _ (some 45) _ = _
   simp only [put_s, List.set, i64_w, i32_w]
   rfl
  refine la_ (i := 10) (N := some 46) rfl rfl (by kernel_rfl) (by decide) (fun K hK => ?_)
  have hk1 := Kp.below (ts := fun _ => False) (own := own) (w := W1.drew) f4 0
  have HP1 : Ow wrK 121 w2 (tagged W1.drew own 0) (t + 2) zp ps := Ow.keep (w := W1.drew) HP.out hk1 (fun q => q)
  refine Kd.R_append_step wrK (w0 := w2) 0 (by rfl) (.tmp 40) (.tmp 45) 87 121 (.agg #[.int .i64 0, .slice none 0 0]) 32 rfl Tryz.underlying87 info121 rfl (by decide) (by decide) zp.enc ps ((i : Int), Sl.mk B 512 m) [.int .i64 (i : Int), .slice B 512 m] (fun k => tagged w2 (tagged W1.drew own 0) (t + 2) k = t + 2) (fun _ => False) rfl rfl rfl (fun _ hk => hk.elim) (fun q hq => tagged_new (by have hz : (w2).heap.size ≤ q := hq; exact hz)) (Ow.alloc HP1 (Below.refl _ _)) (Below.refl 0 _) (Nat.zero_le _) (by omega) ?_
  intro v3 w3 ho hb hg3 hat
  obtain ⟨s3, rfl, ho', hk'⟩ := Ow.pushed HP1 (Below.refl _ _) ho hg3
  clear ho hb hg3 hat
  refine hK.out _ _ ?_
  clear hK K
  refine norm_ (a' := ?_) ?_ ?_
  rotate_left
  ·
   show Act.put _ (some 46) _ = _
   simp only [put_s, List.set, i64_w, i32_w]
   rfl
  refine pu_ (i := 11) (N := some 47) (v := ?_) (a' := ?_) rfl rfl (by kernel_rfl) (fun _ _ _ h => h) (by rfl) ?_ ?_ ?_
  rotate_left
  · (intro w'; go_simp; with_reducible rfl)
  rotate_left
  · (simp only [put_s, List.set, i64_w, i32_w]; rfl)
  refine pu_ (i := 12) (N := some 48) (v := ?_) (a' := ?_) rfl rfl (by kernel_rfl) (fun _ _ _ h => h) (by rfl) ?_ ?_ ?_
  rotate_left
  · (intro w'; go_simp; with_reducible rfl)
  rotate_left
  · (simp only [put_s, List.set, i64_w, i32_w]; rfl)
  refine la_ (i := 13) (N := none) rfl rfl (by kernel_rfl) (by decide) (fun K hK => ?_)
  have hb3 := Blk.keep (Blk.below (w := W1.drew) HB1.out f4) hk' (by rw [tagged_old (w := W1.drew) (Blk.lt HB1.out), HGT.out]; show ¬ t = t + 2; omega)
  have c3 := Blk.cell (i := 1) hb3.1 rfl
  have z3 := Blk.frozen (i := 1) hb3.1
  refine skip_ (w1 := w3.setCell ⟨g, 1, none⟩ s3.enc) (by rfl) rfl (by simp only [Sl.enc]; go_simp) ?_
  refine hK.out _ _ ?_
  clear hK K
  refine done_ (by kernel_rfl) ?_
  have HE := Lib.hid (write_end (W1 := W1.drew) (b := b) (i := i) (data := data) ht HGT.out HK0.out.drew HB1.out rfl HS.out HDP.out f4 ho' hk' f1 f2 f3)
  clear ho' hk' hb3 c3 z3
  go_wp2_with fail
  go_ret
  exact ⟨rfl, HE.out⟩
end Go.Proofs.YtmofiicjaldmiaaGreatDoor.SvE
end
section
namespace Go.Proofs.YtmofiicjaldmiaaGreatDoor.SvF
open Go.RowKit Go.Shelf YtmofiicjaldmiaaGreatDoorW.PrintWords YtmofiicjaldmiaaGreatDoorW.PrintLast SvA SvB SvC SvD SvE
set_option linter.unusedVariables false
set_option linter.unusedSimpArgs false
def over (xs : List Int) (o : Nat) (d : List Int) : List Int := xs.take o ++ d ++ xs.drop (o + d.length)
theorem over_len {xs : List Int} {o : Nat} {d : List Int} (h : o + d.length ≤ xs.length) : (over xs o d).length = xs.length := by
  simp [over]; omega
theorem over_cons {xs : List Int} {o : Nat} {x : Int} {d : List Int} (h : o < xs.length) : over (xs.set o x) (o + 1) d = over xs o (x :: d) := by
 unfold over
 rw [take_set_succ h, List.drop_set_of_lt (by omega)]
 simp [Nat.add_comm, Nat.add_left_comm]
theorem ow_over {e : Nat} {own : Nat → Nat} {t gb n c : Nat} : ∀ (d : List Int) (xs : List Int) (o : Nat) (w : World), Ow u8K e w own t ⟨some ⟨gb, 0, none⟩, n, c⟩ xs → o + d.length ≤ xs.length →
  Ow u8K e (w.setCells gb o (d.map (Value.int .u8))) own t ⟨some ⟨gb, 0, none⟩, n, c⟩ (over xs o d) ∧ Kp (fun q => q = t) w own (w.setCells gb o (d.map (Value.int .u8))) own
 | [], xs, o, w, h, hl => by
  simp only [SvF.over, List.map_nil, World.setCells, List.length_nil, Nat.add_zero, List.append_nil, List.take_append_drop]
  exact ⟨h, Kp.refl _ _ _⟩
 | x :: d, xs, o, w, h, hl => by
  simp only [List.length_cons] at hl
  obtain ⟨h1, h2⟩ := Ow.put h o x
  obtain ⟨h3, h4⟩ := ow_over d (xs.set o x) (o + 1) _ h1 (by rw [List.length_set]; omega)
  simp only [List.map_cons, World.setCells]
  rw [over_cons (by omega)] at h3
  exact ⟨h3, h2.trans h4⟩
def paste (img : List Int) (q : Int × List Int) : List Int := over img (512 * q.1.toNat) q.2
def pasteAll (img : List Int) (qs : List (Int × List Int)) : List Int := qs.foldl paste img
def BS.sync (b : BS) : BS := { b with safe := pasteAll b.safe b.pend, pend := [] }
def BS.ok (b : BS) : Prop := ∀ q ∈ b.pend, 0 ≤ q.1 ∧ q.1 < b.n ∧ q.2.length = 512
theorem paste_all_len {img : List Int} : ∀ (qs : List (Int × List Int)), (∀ q ∈ qs, 0 ≤ q.1 ∧ 512 * (q.1 + 1) ≤ img.length ∧ q.2.length = 512) → (pasteAll img qs).length = img.length := by
 intro qs
 induction qs generalizing img with
 | nil => intro _; rfl
 | cons q qs ih =>
  intro h
  obtain ⟨h1, h2, h3⟩ := h q List.mem_cons_self
  have hl : (paste img q).length = img.length := over_len (by rw [h3]; omega)
  show (pasteAll (paste img q) qs).length = _
  rw [ih (fun r hr => by rw [hl]; exact h r (List.mem_cons_of_mem _ hr)), hl]
theorem run_copy_bytes {W : World} {b o n c m mc : Nat} {A : Option Addr} {xs : List Int} (hx : BytesAt W A 512 xs) {cur : Array Value} {e : Nat} (hcur : W.heap[b]? = some (.cells cur e (0, 0))) (hfit : o + 512 ≤ cur.size) :
  (Builtin.copy_ #[43, 43] 3 #[.slice (some ⟨b, o, none⟩) 512 512, .slice A 512 mc]).run Tryz.prog W = .ok (.int .i64 512) (W.setCells b o (xs.map (Value.int .u8))) := by
 have hxl : xs.length = 512 := hx.1
 obtain ⟨ad, e1, hc⟩ := hx.2.2 (by omega)
 subst e1
 obtain ⟨i, hi1, hi2⟩ := Option.map_eq_some_iff.1 info5
 simp only [Prod.mk.injEq] at hi2
 have hl : ∀ j, j < (xs.map (Value.int .u8)).length → j < 512 := fun j hj => by rw [List.length_map] at hj; omega
 have := run_copy_cells (P := Tryz.prog) W 43 43 3 5 b o 512 512 ad 512 mc (xs.map (Value.int .u8)) Tryz.underlying43 (by rw [hi1]; simp [hi2.2.1]) (by simp [hxl]) (fun j v hj => ?_) (fun j hj => ?_) (fun j hj => ?_) (fun v hv => ?_)
 · rw [this, List.length_map, hxl]; rfl
 ·
  rw [List.getElem?_map] at hj
  obtain ⟨x, hx1, rfl⟩ := Option.map_eq_some_iff.1 hj
  obtain ⟨c1, hc1, hK, hcell⟩ := hc j x hx1
  have hK' : c1 = [.int .u8 x] := hK
  subst hK'
  have := hcell 0 _ rfl
  have h1 : (Kd.int .u8).sz = 1 := rfl
  rwa [h1, Nat.mul_one, Nat.add_zero] at this
 ·
  have := hl j hj
  simp [World.cell?, hcur, show o + j < cur.size by omega]
 ·
  have := hl j hj
  simp [World.frozen?, hcur]
 ·
  obtain ⟨x, _, rfl⟩ := List.mem_map.1 hv
  rfl
end Go.Proofs.YtmofiicjaldmiaaGreatDoor.SvF
end
section
namespace Go.Proofs.YtmofiicjaldmiaaGreatDoor.SvG
open Go.RowKit Go.Shelf YtmofiicjaldmiaaGreatDoorW.PrintWords YtmofiicjaldmiaaGreatDoorW.PrintLast SvA SvB SvC SvD SvE SvF
set_option linter.unusedVariables false
set_option linter.unusedSimpArgs false
structure SySt (w : World) (own : Nat → Nat) (t g : Nat) (b : BS) (zs zp : Sl) (ps : List WP) (j : Nat) (wr : World) (o : Nat → Nat) : Prop where
 og : o g = t
 blk : Blk wr g #[zs.enc, zp.enc, .bool b.lim, .int .i64 b.left] 89
 safe : Ow u8K 5 wr o (t + 1) zs (pasteAll b.safe (b.pend.take j))
 pend : Ow wrK 121 wr o (t + 2) zp ps
 pd : Pd wr o ps b.pend
 kp : Kp (fun q => q = t ∨ q = t + 1 ∨ q = t + 2) w own wr o
theorem SySt.move {w : World} {own : Nat → Nat} {t g : Nat} {b : BS} {zs zp : Sl} {ps : List WP} {j : Nat} {wr wq : World} {o oq : Nat → Nat} (h : SySt w own t g b zs zp ps j wr o) (hk : Kp (fun _ => False) wr o wq oq) : SySt w own t g b zs zp ps j wq oq := by
 obtain ⟨a1, a2⟩ := h.blk.keep hk (fun q => q)
 exact ⟨a2.trans h.og, a1, h.safe.keep hk (fun q => q), h.pend.keep hk (fun q => q), h.pd.keep hk (fun q => q), h.kp.trans (hk.mono (fun _ q => q.elim))⟩
theorem SySt.step {w : World} {own : Nat → Nat} {t g : Nat} {b : BS} {zb zn zc k : Nat} {zp : Sl} {ps : List WP} {j : Nat} {W1 : World} {o : Nat → Nat} {q : Int × List Int} (h : SySt w own t g b ⟨some ⟨zb, 0, none⟩, zn, zc⟩ zp ps j W1 o) (hq : b.pend[j]? = some q) (hk : q.1 = (k : Int)) (hfit : 512 * k + q.2.length ≤ zn) (ht : t ≠ 0) :
  SySt w own t g b ⟨some ⟨zb, 0, none⟩, zn, zc⟩ zp ps (j + 1) (W1.drew.setCells zb (512 * k) (q.2.map (Value.int .u8))) o := by
 have hd : SySt w own t g b ⟨some ⟨zb, 0, none⟩, zn, zc⟩ zp ps j W1.drew o := h.move ⟨rfl, rfl, rfl, Nat.le_refl _, fun _ _ _ => ⟨rfl, rfl⟩⟩
 obtain ⟨h1, h2⟩ := ow_over q.2 _ (512 * k) _ hd.safe (by rw [(ow_len hd.safe).1]; exact hfit)
 obtain ⟨a1, a2⟩ := hd.blk.keep h2 (by rw [hd.og]; omega)
 have e1 : over (pasteAll b.safe (b.pend.take j)) (512 * k) q.2 = pasteAll b.safe (b.pend.take (j + 1)) := by
  have hjl := (List.getElem?_eq_some_iff.1 hq).1
  have hje := (List.getElem?_eq_some_iff.1 hq).2
  rw [List.take_succ_eq_append_getElem hjl, hje]
  unfold pasteAll
  rw [List.foldl_append]
  simp only [List.foldl_cons, List.foldl_nil, paste, hk, Int.toNat_natCast]
 rw [e1] at h1
 exact ⟨a2.trans hd.og, a1, h1, hd.pend.keep h2 (by omega), hd.pd.keep h2 (by omega), hd.kp.trans (h2.mono (fun q h => Or.inr (Or.inl h)))⟩
theorem SySt.fin {w : World} {own : Nat → Nat} {t g : Nat} {b : BS} {zs zp : Sl} {ps : List WP} {wr : World} {o : Nat → Nat} (h : SySt w own t g b zs zp ps b.pend.length wr o) (ht : t ≠ 0) :
  ∃ own', StA (wr.setCell ⟨g, 1, none⟩ (.slice none 0 0)) own' t g (BS.sync b) ∧ Kp (fun q => q = t ∨ q = t + 1 ∨ q = t + 2) w own (wr.setCell ⟨g, 1, none⟩ (.slice none 0 0)) own' := by
 have hk : Kp (fun q => q = t) wr o (wr.setCell ⟨g, 1, none⟩ (.slice none 0 0)) o := (Kp.refl _ wr o).set _ _ (fun k hk hn e => hn (by rw [e]; exact h.og))
 have hs := h.safe.keep hk (by omega)
 rw [List.take_length] at hs
 exact ⟨o, ⟨zs, nilS, [], h.og, Blk.set h.blk (i := 1) (.slice none 0 0), hs, Kd.R_nil _ _ _ _ _, rfl, fun i p q hp => by simp at hp⟩, h.kp.trans (hk.mono (fun q h => Or.inl h))⟩
theorem run_copy9 {W W' : World} {oi : Oper} {a : Act} (s x : Tmp) {vs vx v : Value} (ho : oi.op = .call { callee := .builtin .copy, args := #[.tmp s, .tmp x], argTypes := #[43, 43] }) (hty : oi.type = 3) (hs : a.eval (.tmp s) = vs) (hx : a.eval (.tmp x) = vx) (h : (Builtin.copy_ #[43, 43] 3 #[vs, vx]).run Tryz.prog W = .ok v W') : (execOp a.eval oi).run Tryz.prog W = .ok (.value v) W' := by
 unfold execOp
 simp [Act.eval] at hs hx
 simp [ho, hty, resolve, invoke, go_sem, hs, hx, h]
set_option maxRecDepth 100000 in
set_option maxHeartbeats 1000000 in
theorem sync_ok (w : World) (own : Nat → Nat) (t g : Nat) (b : BS) (H : StA w own t g b) (hz : b.safe.length < 2 ^ 40) (hp : b.pend.length < 2 ^ 40) (ht : t ≠ 0) (hv : BS.ok b) :
  Calls Tryz.prog 89 #[pt g] w fun e w' => e = .returned (.tuple #[]) ∧ ∃ own', StA w' own' t g (BS.sync b) ∧ Kp (fun q => q = t ∨ q = t + 1 ∨ q = t + 2) w own w' own' := by
 obtain ⟨zs, zp, ps, hg, hb, hs, hpe, hd⟩ := H
 have hzl := (ow_len hs).1
 have hpl : ps.length = b.pend.length := hd.1
 have hpn := (ow_len hpe).1
 have HV := Lib.hid hv
 have HR : SySt w own t g b zs zp ps 0 w own := ⟨hg, hb, by rw [List.take_zero]; exact hs, hpe, hd, Kp.refl _ _ _⟩
 have c1 : w.cell? ⟨g, 1, none⟩ = some (.slice zp.A zp.n zp.c) := Blk.cell (i := 1) hb rfl
 clear hg hb hs hpe hd hv
 go_enter Tryz.func89, Tryz.ntmps89
 go_wp2_with fail
 clear c1
 go_loopw [9] (fun i wr => ∃ (j : Nat) (o : Nat → Nat), j ≤ ps.length ∧ i = .int .i64 (j : Int) ∧ SySt w own t g b zs zp ps j wr o) (fun i _ => ps.length - (intOf i).toNat)
 case atStart => exact ⟨0, own, by omega, rfl, HR⟩
 case round =>
  clear HR
  obtain ⟨j, o, hj, rfl, HR⟩ := hrel
  by_cases hlt : j < ps.length
  ·
   have dl : decide ((j : Int) < (zp.n : Int)) = true := by simp; omega
   have hzl2 : (pasteAll b.safe (b.pend.take j)).length = b.safe.length := paste_all_len _ (fun q hq => by
    obtain ⟨u1, u2, u3⟩ := HV.out q (List.mem_of_mem_take hq)
    unfold BS.n at u2
    exact ⟨u1, by omega, u3⟩)
   obtain ⟨_, hws⟩ := wrs_of HR.pend
   obtain ⟨pb, hpA, hpb, hcs⟩ := hws (by omega)
   obtain ⟨p1, p2⟩ := hcs j hlt
   obtain ⟨p, hp⟩ : ∃ p, ps[j]? = some p := ⟨ps[j], List.getElem?_eq_getElem hlt⟩
   obtain ⟨q, hq⟩ : ∃ q, b.pend[j]? = some q := ⟨b.pend[j]'(by omega), List.getElem?_eq_getElem (by omega)⟩
   obtain ⟨e1, e2, e3⟩ := HR.pd.2 j p q hp hq
   obtain ⟨v1, v2, v3⟩ := HV.out q (List.mem_of_getElem? hq)
   unfold BS.n at v2
   rw [hp] at p1 p2
   obtain ⟨p0, dA, dn, dc⟩ := p
   dsimp only at e1 e2
   have hdn : dn = 512 := by have := e2.1.1; dsimp only at this; omega
   subst hdn
   subst e1
   obtain ⟨k, hk⟩ := Int.eq_ofNat_of_zero_le v1
   simp only [Option.getD_some, Sl.enc, hk] at p1 p2
   obtain ⟨pA, pn, pc⟩ := zp
   dsimp only at hpA hpn dl hlt
   subst hpA
   have HQ := Lib.hid hq
   have hkz0 : 512 * k + 512 ≤ zs.n := by omega
   obtain ⟨zb, hzb⟩ := ow_head HR.safe (by omega)
   have hzc0 : zs.n ≤ zs.c := (ow_len HR.safe).2.1
   obtain ⟨zA, zn, zc⟩ := zs
   dsimp only at hzb hzl hkz0 hzc0
   injection hzb with hzb
   subst hzb
   have hzc : zn ≤ zc := hzc0
   have hkz : 512 * k + 512 ≤ zn := hkz0
   have hz40 : zn < 2 ^ 40 := by omega
   have HD0 := Lib.hid e2
   have HK := Lib.hid hk
   have hjl : (j : Int) < (pn : Int) := by omega
   clear hq hp e2 hcs hws hk
   have HR1 := Lib.hid HR
   clear HR
   go_upto_region 3 with fail
   have hbx : Blk (wr.alloc (.cells #[.int .i64 (k : Int), .slice dA 512 dc] 121)) wr.heap.size #[.int .i64 (k : Int), .slice dA 512 dc] 121 := blkNew rfl
   have hka := Kp.below (ts := fun _ => False) (own := o) (ba (w := wr) (.cells #[.int .i64 (k : Int), .slice dA 512 dc] 121)) 0
   obtain ⟨bx, hbxe⟩ : ∃ bx, bx = wr.heap.size := ⟨_, rfl⟩
   simp only [← hbxe]
   rw [← hbxe] at hbx
   have HR2 := Lib.hid (show SySt w own t g b _ _ ps j _ _ from SySt.move HR1.out hka)
   have HD2 := Lib.hid (Rd.keep u8K_K (by decide) HD0.out hka (fun q => q))
   clear hka HD0 p1 p2 dl hbxe HR1
   generalize wr.alloc (.cells #[.int .i64 (k : Int), .slice dA 512 dc] 121) = W1 at *
   have c0 : W1.drew.cell? ⟨g, 0, none⟩ = some (.slice (some ⟨zb, 0, none⟩) zn zc) := Blk.cell (i := 0) HR2.out.blk rfl
   have d0 : W1.drew.cell? ⟨bx, 0, none⟩ = some (.int .i64 (k : Int)) := Blk.cell (i := 0) hbx rfl
   have d1 : W1.drew.cell? ⟨bx, 1, none⟩ = some (.slice dA 512 dc) := Blk.cell (i := 1) hbx rfl
   have HDA := Lib.hid (show BytesAt W1.drew dA 512 q.2 from HD2.out.1)
   have HCUR := Lib.hid (show ∃ cur, W1.drew.heap[zb]? = some (.cells cur 5 (0, 0)) ∧ 512 * k + 512 ≤ cur.size from by
    obtain ⟨cur, h1, h2, h3⟩ := ow_cur HR2.out.safe
    have h4 : u8K.sz = 1 := rfl
    rw [h4] at h2
    exact ⟨cur, h1, by omega⟩)
   have HE := Lib.hid (HR2.out.step HQ.out HK.out (by rw [v3]; exact hkz) ht)
   clear hbx HR2 HD2 HQ
   refine start_ (n := 10) (S := fun w' => w'.cell? ⟨g, 0, none⟩ = some (.slice (some ⟨zb, 0, none⟩) zn zc) ∧ w'.cell? ⟨bx, 0, none⟩ = some (.int .i64 (k : Int)) ∧ w'.cell? ⟨bx, 1, none⟩ = some (.slice dA 512 dc)) (ds := [9]) #[false, false, false, false, false, false, false, false, false, false] (by kernel_rfl) rfl rfl ⟨c0, d0, d1⟩ (fun hHeld => ?_)
   refine pu_ (i := 0) (N := some 13) (v := ?_) (a' := ?_) rfl rfl (by kernel_rfl) (fun _ _ _ h => h) (by rfl) ?_ ?_ ?_
   rotate_left
   · (intro w'; go_simp; with_reducible rfl)
   rotate_left
   · (simp only [put_s, List.set, i64_w, i32_w]; rfl)
   refine pu_ (i := 1) (N := some 14) (v := ?_) (a' := ?_) rfl rfl (by kernel_rfl) (fun _ _ _ h => h) (by rfl) ?_ ?_ ?_
   rotate_left
   · (intro w'; go_simp; with_reducible rfl)
   rotate_left
   · (simp only [put_s, List.set, i64_w, i32_w]; rfl)
   refine pu_ (i := 2) (N := some 15) (v := ?_) (a' := ?_) rfl rfl (by kernel_rfl) (fun _ _ _ h => h) (by rfl) ?_ ?_ ?_
   rotate_left
   · (intro w'; go_simp; with_reducible rfl)
   rotate_left
   · (simp only [put_s, List.set, i64_w, i32_w]; rfl)
   refine tk_ (i := 3) (N := some 16) (v := ?_) (a' := ?_) rfl rfl (by kernel_rfl) (fun _ _ _ h => h) (by rfl) ?_ hHeld ?_ ?_
   rotate_left
   ·
    intro w' s0
    obtain ⟨q1, q2, q3⟩ := s0
    go_simp
    with_reducible rfl
   rotate_left
   · (simp only [put_s, List.set, i64_w, i32_w]; rfl)
   refine pu_ (i := 4) (N := some 17) (v := ?_) (a' := ?_) rfl rfl (by kernel_rfl) (fun _ _ _ h => h) (by rfl) ?_ ?_ ?_
   rotate_left
   · (intro w'; go_simp; with_reducible rfl)
   rotate_left
   · (simp only [put_s, List.set, i64_w, i32_w]; rfl)
   refine tk_ (i := 5) (N := some 18) (v := ?_) (a' := ?_) rfl rfl (by kernel_rfl) (fun _ _ _ h => h) (by rfl) ?_ hHeld ?_ ?_
   rotate_left
   ·
    intro w' s0
    obtain ⟨q1, q2, q3⟩ := s0
    go_simp
    with_reducible rfl
   rotate_left
   · (simp only [put_s, List.set, i64_w, i32_w]; rfl)
   refine pu_ (i := 7) (N := some 20) (v := ?_) (a' := ?_) rfl rfl (by kernel_rfl) (fun _ _ _ h => h) (by rfl) ?_ ?_ ?_
   rotate_left
   · (intro w'; go_simp; with_reducible rfl)
   rotate_left
   · (simp only [put_s, List.set, i64_w, i32_w]; rfl)
   refine tk_ (i := 8) (N := some 21) (v := ?_) (a' := ?_) rfl rfl (by kernel_rfl) (fun _ _ _ h => h) (by rfl) ?_ hHeld ?_ ?_
   rotate_left
   ·
    intro w' s0
    obtain ⟨q1, q2, q3⟩ := s0
    go_simp
    with_reducible rfl
   rotate_left
   · (simp only [put_s, List.set, i64_w, i32_w]; rfl)
   refine on_ (i := 6) (N := some 19) rfl rfl (by kernel_rfl) (by decide) (fun K hK => ?_)
   refine goes_ Tryz.func63 (by kernel_rfl) rfl #[.slice (some ⟨zb, 0, none⟩) zn zc, .int .i64 (k : Int)] (by rfl) rfl rfl (by first | rfl | (simp [Act.eval])) ?_
   refine Calls.mono (sector_ok _ _ zb zn zc k rfl hzc hz40 hkz) ?_
   rintro e w' ⟨rfl, rfl⟩
   refine ⟨_, rfl, ?_⟩
   refine hK.out _ _ hHeld (fun hHeld => ?_)
   clear hK K
   refine norm_ (a' := ?_) ?_ ?_
   rotate_left
   ·
    show Act.put _ (some 19) _ = _
    simp only [put_s, List.set, i64_w, i32_w]
    rfl
   refine la_ (i := 9) (N := some 22) rfl rfl (by kernel_rfl) (by decide) (fun K hK => ?_)
   refine value_ (v := .int .i64 512) (w1 := W1.drew.setCells zb (512 * k) (q.2.map (Value.int .u8))) (by rfl) rfl (run_copy9 19 21 rfl rfl (by rfl) (by rfl) (run_copy_bytes (W := W1.drew) (m := 512) (n := zn) (c := zc) HDA.out HCUR.out.choose_spec.1 HCUR.out.choose_spec.2)) ?_
   refine hK.out _ _ ?_
   clear hK K
   refine norm_ (a' := ?_) ?_ ?_
   rotate_left
   ·
    show Act.put _ (some 22) _ = _
    simp only [put_s, List.set, i64_w, i32_w]
    rfl
   refine done_ (by kernel_rfl) ?_
   go_wp2_with fail
   go_roundw
   case rel => exact ⟨j + 1, _, by omega, by simp, HE.out⟩
   case measure => simp [intOf]; omega
  ·
   obtain rfl : j = ps.length := by omega
   have dl : decide ((ps.length : Int) < (zp.n : Int)) = false := by simp; omega
   have HR1 := Lib.hid HR
   have c1 : wr.cell? ⟨g, 1, none⟩ = some (.slice zp.A zp.n zp.c) := Blk.cell (i := 1) HR.blk rfl
   have z1 : wr.frozen? ⟨g, 1, none⟩ = false := Blk.frozen HR.blk
   clear HR
   go_wp2_with fail
   have HE : SySt w own t g b zs zp ps b.pend.length wr o := hpl ▸ HR1.out
   go_end0
   exact ⟨rfl, HE.fin ht⟩
end Go.Proofs.YtmofiicjaldmiaaGreatDoor.SvG
end
section
namespace Go.Proofs.YtmofiicjaldmiaaGreatDoor.SvH
open Go.RowKit Go.Shelf YtmofiicjaldmiaaGreatDoorW.PrintWords YtmofiicjaldmiaaGreatDoorW.PrintLast SvA SvB SvC SvD SvE SvF
set_option linter.unusedVariables false
set_option linter.unusedSimpArgs false
def BS.fresh (img : List Int) : BS := ⟨img, [], false, 0⟩
def NewP (w : World) (img : List Int) (e : Ending) (w' : World) : Prop := ∃ g, e = .returned (.tuple #[pt g, .int .i64 0]) ∧ w.heap.size ≤ g ∧ Below w.heap.size w w' ∧
  ∀ (own : Nat → Nat) (t : Nat), ∃ own', StA w' own' t g (BS.fresh img) ∧ Kp (fun _ => False) w own w' own'
theorem new_end {w W1 : World} {v : Value} {img : List Int} {g : Nat} (ho : OwnB W1 w.heap.size (fun _ => True) v img) (hb : Below w.heap.size w W1) (hg : W1.heap.size = g) :
  NewP w img (.returned (.tuple #[pt g, .int .i64 0])) (W1.alloc (.cells #[v, .slice none 0 0, .bool false, .int .i64 0] 89)) := by
 subst hg
 obtain ⟨A, c, rfl, h1, h2⟩ := Kd.R_reads ho
 refine ⟨_, rfl, hb.size, hb.alloc hb.size _, fun own t => ⟨fun k => if k < w.heap.size then own k else if k = W1.heap.size then t else t + 1, ⟨⟨A, img.length, c⟩, nilS, [], ?_, blkNew rfl, ?_, Kd.R_nil _ _ _ _ _, rfl, fun i p q hp => by simp at hp⟩, ?_⟩⟩
 ·
  have := hb.size
  show (if W1.heap.size < w.heap.size then _ else if W1.heap.size = W1.heap.size then t else t + 1) = t
  rw [if_neg (by omega), if_pos rfl]
 ·
  have hB := Kd.R_below (Kd.R_bound ho) (ba (w := W1) (.cells #[.slice A img.length c, .slice none 0 0, .bool false, .int .i64 0] 89))
  refine Kd.R_lower (Kd.R_mono hB (fun k hk => ?_)) (Nat.zero_le _)
  obtain ⟨_, h3, h4, _⟩ := hk
  show (if k < w.heap.size then _ else if k = W1.heap.size then t else t + 1) = t + 1
  rw [if_neg (by omega), if_neg (by omega)]
 ·
  have hB := hb.alloc hb.size (.cells #[.slice A img.length c, .slice none 0 0, .bool false, .int .i64 0] 89)
  exact ⟨hB.os, hB.tape, hB.output, hB.size, fun k hk _ => ⟨if_pos hk, hB.block k hk⟩⟩
set_option maxRecDepth 100000 in
theorem new_ok (w : World) (n : Nat) (h1 : 1 ≤ n) (h2 : n ≤ 4096) : Calls Tryz.prog 16 #[.int .i64 (n : Int)] w (NewP w (List.replicate (512 * n) 0)) := by
 have hmk := print_make (P := Tryz.prog) 43 5 .u8 1 Tryz.underlying43 info5 (by decide) (512 * n) (by omega)
 have e1 : ((512 * n : Nat) : Int) = (n : Int) * 512 := by omega
 rw [e1] at hmk
 go_enter Tryz.func16, Tryz.ntmps16
 go_wp2_with fail
 go_ret2
 refine new_end (v := .slice (some ⟨w.heap.size, 0, none⟩) (512 * n) (512 * n)) (W1 := w.alloc (.cells (madeCells #[.int .u8 0] (512 * n)) 5)) ?_ (ba _) (by simp)
 have h3 := own_made' w w.heap.size 5 .u8 (512 * n) (Nat.le_refl _) (by omega)
 exact Kd.R_of_own h3 (fun _ _ => trivial)
theorem pending_ok (w : World) (own : Nat → Nat) (t g : Nat) (b : BS) (H : StA w own t g b) : Calls Tryz.prog 34 #[pt g] w fun e w' => e = .returned (.int .i64 (b.pend.length : Int)) ∧ w = w' := by
 obtain ⟨zs, zp, ps, hg, hb, hs, hpe, hd⟩ := H
 have e1 : zp.n = b.pend.length := (ow_len hpe).1.symm.trans hd.1
 have c1 : w.cell? ⟨g, 1, none⟩ = some (.slice zp.A zp.n zp.c) := Blk.cell (i := 1) hb rfl
 rw [e1] at c1
 clear hb hs hpe hd hg e1
 go_enter Tryz.func34, Tryz.ntmps34
 go_wp2_with fail
 go_ret
 exact ⟨rfl, rfl⟩
end Go.Proofs.YtmofiicjaldmiaaGreatDoor.SvH
end
section
namespace Go.Proofs.YtmofiicjaldmiaaGreatDoor.SvI
open Go.RowKit Go.Shelf YtmofiicjaldmiaaGreatDoorW.PrintWords YtmofiicjaldmiaaGreatDoorW.PrintLast SvA SvB SvC SvD SvE SvF
set_option linter.unusedVariables false
set_option linter.unusedSimpArgs false
def le (m : Nat) (n : Int) : List Int := (List.range m).map (fun i => n / 256 ^ i % 256)
theorem le_len (m : Nat) (n : Int) : (le m n).length = m := by simp [le]
theorem le_succ (m : Nat) (n : Int) : le (m + 1) n = le m n ++ [n / 256 ^ m % 256] := by simp [le, List.range_succ]
theorem over_snoc {xs : List Int} {o : Nat} {d : List Int} {x : Int} (h : o + d.length < xs.length) : (over xs o d).set (o + d.length) x = over xs o (d ++ [x]) := by
 have e1 : (xs.take o ++ d).length = o + d.length := by rw [List.length_append, List.length_take]; omega
 unfold over
 rw [List.drop_eq_getElem_cons h, List.set_append_right _ _ (by omega), e1, Nat.sub_self, List.set_cons_zero]
 simp [Nat.add_assoc]
set_option maxRecDepth 100000 in
set_option maxHeartbeats 1000000 in
theorem put_ok (w : World) (own : Nat → Nat) (t gb N c e : Nat) (xs : List Int) (h : Ow u8K e w own t ⟨some ⟨gb, 0, none⟩, N, c⟩ xs) (o m mc : Nat) (hm : m ≤ mc) (ho : o + m ≤ N) (hN : N < 2 ^ 40) (hm4 : m ≤ 4) (n : Int) (hn : 0 ≤ n ∧ n < 4294967296) :
  Calls Tryz.prog 132 #[.slice (some ⟨gb, o, none⟩) m mc, .int .u32 n] w fun e2 w' => e2 = .returned (.tuple #[]) ∧ Ow u8K e w' own t ⟨some ⟨gb, 0, none⟩, N, c⟩ (over xs o (le m n)) ∧ Kp (fun q => q = t) w own w' own := by
 have hxl : xs.length = N := (ow_len h).1
 have h0 : over xs o (le 0 n) = xs := by simp [over, le]
 have HR : Ow u8K e w own t ⟨some ⟨gb, 0, none⟩, N, c⟩ (over xs o (le 0 n)) ∧ Kp (fun q => q = t) w own w own := ⟨by rw [h0]; exact h, Kp.refl _ _ _⟩
 clear h h0
 go_enter Tryz.func132, Tryz.ntmps132
 go_wp2_with fail
 go_loopw [7] (fun i wr => ∃ j : Nat, j ≤ m ∧ i = .int .i64 (j : Int) ∧ Ow u8K e wr own t ⟨some ⟨gb, 0, none⟩, N, c⟩ (over xs o (le j n)) ∧ Kp (fun q => q = t) w own wr own) (fun i _ => m - (intOf i).toNat)
 case atStart => exact ⟨0, by omega, rfl, HR⟩
 case round =>
  clear HR
  obtain ⟨j, hj, rfl, HW, HK⟩ := hrel
  by_cases hlt : j < m
  ·
   have dl : decide ((j : Int) < (m : Int)) = true := by simp; omega
   have hjm : (j : Int) < (m : Int) := by omega
   have hol : (over xs o (le j n)).length = xs.length := over_len (by rw [le_len]; omega)
   obtain ⟨x9, hx9⟩ : ∃ x9, (over xs o (le j n))[o + j]? = some x9 := ⟨_, List.getElem?_eq_getElem (by rw [hol]; omega)⟩
   obtain ⟨cc, cf, cl⟩ := ow_cell HW (o + j) _ hx9
   clear hx9
   have hput := Ow.put HW (o + j) (n / 256 ^ j % 256)
   have hov : (over xs o (le j n)).set (o + j) (n / 256 ^ j % 256) = over xs o (le (j + 1) n) := by
    have := over_snoc (xs := xs) (o := o) (d := le j n) (x := n / 256 ^ j % 256) (by rw [le_len]; omega)
    rw [le_len] at this
    rw [this, le_succ]
   rw [hov] at hput
   have HP := Lib.hid hput
   have HKK := Lib.hid HK
   clear hput hov hol HW HK
   have hj4 : j = 0 ∨ j = 1 ∨ j = 2 ∨ j = 3 := by omega
   rcases hj4 with rfl | rfl | rfl | rfl
   ·
    rw [show (256 : Int) ^ 0 = 1 from rfl] at HP
    rw [Int.ediv_one] at HP
    rw [Nat.add_zero] at cc cf HP
    go_wp2_with fail
    go_roundw
    case rel => exact ⟨1, by omega, rfl, HP.out.1, HKK.out.trans HP.out.2⟩
    case measure => simp [intOf]; omega
   ·
    rw [show (256 : Int) ^ 1 = 256 from rfl] at HP
    skip
    skip
    go_wp2_with fail
    go_roundw
    case rel => exact ⟨2, by omega, rfl, HP.out.1, HKK.out.trans HP.out.2⟩
    case measure => simp [intOf]; omega
   ·
    rw [show (256 : Int) ^ 2 = 65536 from rfl] at HP
    skip
    skip
    go_wp2_with fail
    go_roundw
    case rel => exact ⟨3, by omega, rfl, HP.out.1, HKK.out.trans HP.out.2⟩
    case measure => simp [intOf]; omega
   ·
    rw [show (256 : Int) ^ 3 = 16777216 from rfl, show n / 16777216 % 256 = n / 16777216 from by omega] at HP
    skip
    go_wp2_with fail
    go_roundw
    case rel => exact ⟨4, by omega, rfl, HP.out.1, HKK.out.trans HP.out.2⟩
    case measure => simp [intOf]; omega
  ·
   obtain rfl : j = m := by omega
   have dl : decide ((j : Int) < (j : Int)) = false := by simp
   have HP := Lib.hid (And.intro HW HK)
   clear HW HK
   go_wp2_with fail
   go_end0
   exact ⟨rfl, HP.out⟩
end Go.Proofs.YtmofiicjaldmiaaGreatDoor.SvI
end
section
namespace Go.Proofs.YtmofiicjaldmiaaGreatDoor.SvJ
open Go.RowKit Go.Shelf YtmofiicjaldmiaaGreatDoorW.PrintWords YtmofiicjaldmiaaGreatDoorW.PrintLast SvA SvB SvC SvD SvE SvF SvI
set_option linter.unusedVariables false
set_option linter.unusedSimpArgs false
def unle : List Int → Int
 | [] => 0
 | x :: l => x + 256 * unle l
theorem unle_snoc (l : List Int) (x : Int) : unle (l ++ [x]) = unle l + 256 ^ l.length * x := by
 induction l with
 | nil => simp [unle]
 | cons y l ih => simp only [List.cons_append, unle, ih, List.length_cons, Int.pow_succ]; rw [Int.mul_add, Int.mul_comm (256 ^ l.length) 256, Int.mul_assoc]; omega
theorem unle_lt {l : List Int} (h : u8s l) : 0 ≤ unle l ∧ unle l < 256 ^ l.length := by
 induction l with
 | nil => simp [unle]
 | cons y l ih =>
  have h1 := h y List.mem_cons_self
  have h2 := ih (fun x hx => h x (List.mem_cons_of_mem _ hx))
  simp only [unle, List.length_cons, Int.pow_succ]
  omega
theorem or_u32 (i : Nat) (hi : i ≤ 32) (x y : Int) (hx₀ : 0 ≤ x) (hx : x < 2 ^ i) (hy₀ : 0 ≤ y) (hy : y * 2 ^ i < 2 ^ 32) : bits .or .u32 x (y * 2 ^ i) = x + y * 2 ^ i := by
 obtain ⟨a, rfl⟩ := Int.eq_ofNat_of_zero_le hx₀
 obtain ⟨b, rfl⟩ := Int.eq_ofNat_of_zero_le hy₀
 have hx' : a < 2 ^ i := by exact_mod_cast hx
 have hy' : b * 2 ^ i < 2 ^ 32 := by exact_mod_cast hy
 have ha : a < 2 ^ 32 := Nat.lt_of_lt_of_le hx' (Nat.pow_le_pow_right (by decide) hi)
 have h := (bits_nat .u32 32 (by decide) (fun n h0 h1 => by rw [IntKind.wrap_u32]; omega) a (b * 2 ^ i) ha hy').2
 have e1 : ((b * 2 ^ i : Nat) : Int) = (b : Int) * 2 ^ i := by push_cast; rfl
 rw [e1] at h
 rw [h]
 have h2 : a ||| b * 2 ^ i = a + b * 2 ^ i := by
  rw [Nat.or_comm, Nat.mul_comm b]
  rw [← Nat.two_pow_add_eq_or_of_lt hx' b]
  omega
 rw [h2]
 push_cast
 rfl
set_option maxRecDepth 100000 in
set_option maxHeartbeats 1000000 in
theorem get_ok (w : World) (A : Option Addr) (m c : Nat) (xs : List Int) (hx : BytesAt w A m xs) (hu : u8s xs) (hm4 : m ≤ 4) (hmc : m ≤ c) : Calls Tryz.prog 105 #[.slice A m c] w fun e w' => e = .returned (.int .u32 (unle xs)) ∧ w = w' := by
 have hxl : xs.length = m := hx.1
 have HX := Lib.hid hx
 have HU := Lib.hid hu
 clear hx hu
 go_enter Tryz.func105, Tryz.ntmps105
 go_wp2_with fail
 go_loopw [8, 3] (fun i v wr => ∃ j : Nat, j ≤ m ∧ i = .int .i64 (j : Int) ∧ v = .int .u32 (unle (xs.take j)) ∧ w = wr) (fun i _ _ => m - (intOf i).toNat)
 case atStart => exact ⟨0, by omega, rfl, by simp [unle], rfl⟩
 case round =>
  obtain ⟨j, hj, rfl, rfl, rfl⟩ := hrel
  by_cases hlt : j < m
  ·
   obtain ⟨ad, hA, hc⟩ := BytesAt.at_ HX.out j hlt
   subst hA
   have hb := HU.out (rd xs j) (by unfold rd; rw [Int.toNat_natCast, List.getD_eq_getElem?_getD, List.getElem?_eq_getElem (by omega)]; exact List.getElem_mem _)
   have hlt2 := unle_lt (l := xs.take j) (fun x hx => HU.out x (List.mem_of_mem_take hx))
   rw [List.length_take, hxl, Nat.min_eq_left (by omega)] at hlt2
   have hnx : unle (xs.take (j + 1)) = unle (xs.take j) + 256 ^ j * rd xs j := by
    have hmin : min j xs.length = j := Nat.min_eq_left (by omega)
    rw [List.take_succ_eq_append_getElem (by omega), unle_snoc, List.length_take, hmin]
    simp [rd, List.getD_eq_getElem?_getD, List.getElem?_eq_getElem (show j < xs.length by omega)]
   have HN := Lib.hid hnx
   clear hnx
   generalize rd xs j = x at hc hb HN
   have hj4 : j = 0 ∨ j = 1 ∨ j = 2 ∨ j = 3 := by omega
   have hfz : ∀ k : Nat, 0 < k → ad.add k = ⟨ad.block, ad.off + k, none⟩ := fun k hk => by unfold Addr.add; rw [if_neg (by omega)]
   rcases hj4 with rfl | rfl | rfl | rfl
   ·
    rw [Addr.add_zero'] at hc
    have dl : decide ((0 : Int) < (m : Int)) = true := by simp; omega
    have hjm : (0 : Int) < (m : Int) := by omega
    generalize unle (xs.take 0) = n0 at hlt2 HN ⊢
    clear hfz
    have ho : bits .or .u32 n0 (x) = unle (xs.take 1) := by
     have h := or_u32 0 (by decide) n0 x hlt2.1 (by have := hlt2.2; exact this) hb.1 (by have := hb.2; omega)
     have e : n0 + x * 2 ^ 0 = unle (xs.take 1) := by rw [HN.out]; omega
     rw [e] at h
     rw [show (2:Int) ^ 0 = 1 from rfl, Int.mul_one] at h
     exact h
    go_wp2_with fail
    go_roundw
    case rel => exact ⟨1, by omega, rfl, rfl, trivial⟩
    case measure => simp [intOf]; omega
   ·
    rw [hfz 1 (by decide)] at hc
    have dl : decide ((1 : Int) < (m : Int)) = true := by simp; omega
    have hjm : (1 : Int) < (m : Int) := by omega
    generalize unle (xs.take 1) = n0 at hlt2 HN ⊢
    clear hfz
    have ho : bits .or .u32 n0 (x * 256) = unle (xs.take 2) := by
     have h := or_u32 8 (by decide) n0 x hlt2.1 (by have := hlt2.2; exact this) hb.1 (by have := hb.2; omega)
     have e : n0 + x * 2 ^ 8 = unle (xs.take 2) := by rw [HN.out]; omega
     rw [e] at h
     skip
     exact h
    go_wp2_with fail
    go_roundw
    case rel => exact ⟨2, by omega, rfl, rfl, trivial⟩
    case measure => simp [intOf]; omega
   ·
    rw [hfz 2 (by decide)] at hc
    have dl : decide ((2 : Int) < (m : Int)) = true := by simp; omega
    have hjm : (2 : Int) < (m : Int) := by omega
    generalize unle (xs.take 2) = n0 at hlt2 HN ⊢
    clear hfz
    have ho : bits .or .u32 n0 (x * 65536) = unle (xs.take 3) := by
     have h := or_u32 16 (by decide) n0 x hlt2.1 (by have := hlt2.2; exact this) hb.1 (by have := hb.2; omega)
     have e : n0 + x * 2 ^ 16 = unle (xs.take 3) := by rw [HN.out]; omega
     rw [e] at h
     skip
     exact h
    go_wp2_with fail
    go_roundw
    case rel => exact ⟨3, by omega, rfl, rfl, trivial⟩
    case measure => simp [intOf]; omega
   ·
    rw [hfz 3 (by decide)] at hc
    have dl : decide ((3 : Int) < (m : Int)) = true := by simp; omega
    have hjm : (3 : Int) < (m : Int) := by omega
    generalize unle (xs.take 3) = n0 at hlt2 HN ⊢
    clear hfz
    have ho : bits .or .u32 n0 (x * 16777216) = unle (xs.take 4) := by
     have h := or_u32 24 (by decide) n0 x hlt2.1 (by have := hlt2.2; exact this) hb.1 (by have := hb.2; omega)
     have e : n0 + x * 2 ^ 24 = unle (xs.take 4) := by rw [HN.out]; omega
     rw [e] at h
     skip
     exact h
    go_wp2_with fail
    go_roundw
    case rel => exact ⟨4, by omega, rfl, rfl, trivial⟩
    case measure => simp [intOf]; omega
  ·
   obtain rfl : j = m := by omega
   have dl : decide ((j : Int) < (j : Int)) = false := by simp
   have e1 : xs.take j = xs := List.take_of_length_le (by omega)
   rw [e1]
   go_wp2_with fail
   go_ret
   exact ⟨rfl, rfl⟩
end Go.Proofs.YtmofiicjaldmiaaGreatDoor.SvJ
end
section
namespace Go.Proofs.YtmofiicjaldmiaaGreatDoor.SvK
open Go.RowKit Go.Shelf YtmofiicjaldmiaaGreatDoorW.PrintWords YtmofiicjaldmiaaGreatDoorW.PrintLast SvA SvB SvC SvD SvE SvF SvI SvJ
set_option linter.unusedVariables false
set_option linter.unusedSimpArgs false
def many (n : Nat) : Nat := (n + 509) / 510
theorem many_ok (w : World) (n : Nat) (hn : n < 2 ^ 40) : Calls Tryz.prog 53 #[.int .i64 (n : Int)] w fun e w' => e = .returned (.int .i64 (many n : Int)) ∧ w = w' := by
 go_enter Tryz.func53, Tryz.ntmps53
 go_wp2_with fail
 go_ret
 refine ⟨?_, rfl⟩
 unfold many
 rw [show ((((n + 509) / 510 : Nat)) : Int) = ((n : Int) + 510 - 1) / 510 from by omega]
 rfl
def crc1 (n : Int) : Int := if (bits .and .u32 n 1 == 1) = true then bits .xor .u32 (n / 2) 3988292384 else n / 2
def crcN : Nat → Int → Int
 | 0, n => n
 | k + 1, n => crc1 (crcN k n)
def crcB (n x : Int) : Int := crcN 8 (bits .xor .u32 n x)
def crc (xs : List Int) : Int := xs.foldl crcB 4294967295
theorem xor_u32_bd (x y : Int) : 0 ≤ bits .xor .u32 x y ∧ bits .xor .u32 x y < 4294967296 := by
 have : bits .xor .u32 x y = IntKind.u32.wrap _ := rfl
 rw [this, IntKind.wrap_u32]
 omega
theorem crc1_bd {n : Int} (h : 0 ≤ n ∧ n < 4294967296) : 0 ≤ crc1 n ∧ crc1 n < 4294967296 := by
 unfold crc1
 split
 · exact xor_u32_bd _ _
 · omega
theorem crcN_bd (k : Nat) {n : Int} (h : 0 ≤ n ∧ n < 4294967296) : 0 ≤ crcN k n ∧ crcN k n < 4294967296 := by
 induction k with
 | zero => exact h
 | succ k ih => exact crc1_bd ih
theorem crc_bd (xs : List Int) : 0 ≤ crc xs ∧ crc xs < 4294967296 := by
 have : ∀ (xs : List Int) (n : Int), 0 ≤ n ∧ n < 4294967296 → 0 ≤ xs.foldl crcB n ∧ xs.foldl crcB n < 4294967296 := by
  intro xs
  induction xs with
  | nil => exact fun n h => h
  | cons x xs ih => exact fun n h => ih _ (crcN_bd 8 (xor_u32_bd _ _))
 exact this xs _ (by omega)
def sumS (xs : List Int) : Int := bits .xor .u32 IntKind.u32.max (crc xs)
theorem sum_ok (w : World) (A : Option Addr) (m c : Nat) (xs : List Int) (hx : BytesAt w A m xs) (hu : u8s xs) (hm : m < 2 ^ 40) (hmc : m ≤ c) : Calls Tryz.prog 55 #[.slice A m c] w fun e w' => e = .returned (.int .u32 (sumS xs)) ∧ w = w' := by
 have hxl : xs.length = m := hx.1
 have HX := Lib.hid hx
 have HU := Lib.hid hu
 clear hx hu
 go_enter Tryz.func55, Tryz.ntmps55
 go_wp2_with fail
 go_loopw [9, 3, 5, 6, 17] (fun i v _ _ _ wr => ∃ (j : Nat), j ≤ m ∧ i = .int .i64 (j : Int) ∧ v = .int .u32 (crc (xs.take j)) ∧ w = wr) (fun i _ _ _ _ _ => m - (intOf i).toNat)
 case atStart => exact ⟨0, by omega, rfl, rfl, rfl⟩
 case round =>
  obtain ⟨j, hj, rfl, rfl, rfl⟩ := hrel
  have hbd := crc_bd (xs.take j)
  by_cases hlt : j < m
  ·
   obtain ⟨ad, hA, hc⟩ := BytesAt.at_ HX.out j hlt
   subst hA
   have dl : decide ((j : Int) < (m : Int)) = true := by simp; omega
   have hjm : (j : Int) < (m : Int) := by omega
   have hb := HU.out (rd xs j) (by unfold rd; rw [Int.toNat_natCast, List.getD_eq_getElem?_getD, List.getElem?_eq_getElem (by omega)]; exact List.getElem_mem _)
   have hnx : crc (xs.take (j + 1)) = crcB (crc (xs.take j)) (rd xs j) := by
    have : xs.take (j + 1) = xs.take j ++ [rd xs j] := by rw [List.take_succ_eq_append_getElem (by omega)]; simp [rd, List.getD_eq_getElem?_getD, List.getElem?_eq_getElem (show j < xs.length by omega)]
    unfold crc
    rw [this, List.foldl_append]
    rfl
   have HN := Lib.hid hnx
   clear hnx
   generalize crc (xs.take j) = n0 at *
   generalize rd xs j = x at hc hb HN
   go_wp2_with fail
   go_loop [17, 3, 6] (fun i v _ => ∃ (k : Nat), k ≤ 8 ∧ i = .int .i64 (k : Int) ∧ v = .int .u32 (crcN k (bits .xor .u32 n0 x))) (fun i _ _ => 8 - (intOf i).toNat)
   case atStart => exact ⟨0, by omega, rfl, rfl⟩
   case round =>
    obtain ⟨k, hk, rfl, rfl⟩ := hrel
    by_cases hk8 : k < 8
    ·
     have dk : decide ((k : Int) < 8) = true := by simp; omega
     have hn := crcN_bd k (xor_u32_bd n0 x)
     have HC := Lib.hid (show crcN (k + 1) (bits .xor .u32 n0 x) = crc1 (crcN k (bits .xor .u32 n0 x)) from rfl)
     generalize crcN k (bits .xor .u32 n0 x) = n at *
     go_wp2_with fail
     all_goals
      go_round
      case rel => exact ⟨k + 1, by omega, by go_num, by rw [HC.out]; unfold crc1; first | rw [if_pos (by assumption)] | rw [if_neg (by simp only [Bool.not_eq_true]; assumption)]⟩
      case measure => simp [intOf]; omega
    ·
     obtain rfl : k = 8 := by omega
     have dk : decide (((8 : Nat) : Int) < 8) = false := by simp
     go_wp2_with fail
     go_roundw
     case rel => exact ⟨j + 1, by omega, by go_num, by rw [HN.out]; rfl, trivial⟩
     case measure => simp [intOf]; omega
  ·
   obtain rfl : j = m := by omega
   have dl : decide ((j : Int) < (j : Int)) = false := by simp
   have e1 : xs.take j = xs := List.take_of_length_le (by omega)
   rw [e1]
   go_wp2_with fail
   go_ret
   exact ⟨rfl, rfl⟩
def okc (c : UInt8) : Bool := decide (97 ≤ c.toNat) && decide (c.toNat ≤ 122) || decide (48 ≤ c.toNat) && decide (c.toNat ≤ 57) || decide (c.toNat = 45) || decide (c.toNat = 95)
def nameOk (s : ByteArray) : Bool := s.data.toList.all okc && decide (1 ≤ s.size) && decide (s.size ≤ 16)
theorem all_snoc (s : ByteArray) (k : Nat) (h : k < s.size) : (s.data.toList.take (k + 1)).all okc = ((s.data.toList.take k).all okc && okc s[k]) := by
 have : s.data.toList.take (k + 1) = s.data.toList.take k ++ [s[k]] := by rw [List.take_succ_eq_append_getElem (by simpa using h)]; rfl
 rw [this, List.all_append]
 simp
theorem okc_iff (c : UInt8) : okc c = true ↔ (97 ≤ (c.toNat : Int) ∧ (c.toNat : Int) ≤ 122) ∨ (48 ≤ (c.toNat : Int) ∧ (c.toNat : Int) ≤ 57) ∨ (c.toNat : Int) = 45 ∨ (c.toNat : Int) = 95 := by
 unfold okc
 simp only [Bool.or_eq_true, Bool.and_eq_true, decide_eq_true_eq]
 omega
theorem okc_no (c : UInt8) (h : ¬ ((97 ≤ (c.toNat : Int) ∧ (c.toNat : Int) ≤ 122) ∨ (48 ≤ (c.toNat : Int) ∧ (c.toNat : Int) ≤ 57) ∨ (c.toNat : Int) = 45 ∨ (c.toNat : Int) = 95)) : okc c = false := by
 cases hc : okc c with
 | false => rfl
 | true => exact absurd ((okc_iff c).1 hc) h
theorem name_bad {s : ByteArray} {k : Nat} (hk : k < s.size) (h : okc s[k] = false) : nameOk s = false := by
 unfold nameOk
 have : s.data.toList.all okc = false := by
  rw [List.all_eq_false]
  refine ⟨s[k], ?_, by rw [h]; decide⟩
  have : s[k] = s.data.toList[k]'(by simpa using hk) := rfl
  rw [this]
  exact List.getElem_mem _
 rw [this]
 rfl
set_option maxHeartbeats 1000000 in
theorem isName_ok (s : ByteArray) (w : World) (hs : s.size < 2 ^ 62) : Calls Tryz.prog 90 #[.string s] w fun e w' => e = .returned (.bool (nameOk s)) ∧ ∃ n, w' = w.drewN n := by
  go_enter Tryz.func90, Tryz.ntmps90
  go_wp2_with fail
  go_loopw [7, 3, 4] (fun i _ _ wr => ∃ k : Nat, k ≤ s.size ∧ i = .int .i64 (k : Int) ∧ (s.data.toList.take k).all okc = true ∧ ∃ n, wr = w.drewN n) (fun i _ _ _ => s.size - (intOf i).toNat)
  case atStart => exact ⟨0, by omega, rfl, rfl, 0, rfl⟩
  case round =>
    obtain ⟨k, hk, rfl, hall, n, rfl⟩ := hrel
    by_cases hlt : k < s.size
    · have dl : decide ((k : Int) < (s.size : Int)) = true := by simp; omega
      have hlk : (k : Int) < (s.size : Int) := by omega
      have HS := Lib.hid (all_snoc s k hlt)
      have HA := Lib.hid hall
      have HY := Lib.hid (okc_iff s[k])
      have HN := Lib.hid (okc_no s[k])
      have HB := Lib.hid (name_bad hlt)
      clear hall
      go_wp2_with fail
      all_goals
        first
        | (go_roundw
           case rel => exact ⟨k + 1, by omega, by go_num, by rw [HS.out, HA.out, HY.out.2 (by (try simp only [bne_iff_ne, bne_eq_false_iff_eq, ne_eq] at *); omega)]; rfl, n, rfl⟩
           case measure => simp [intOf]; omega)
        | (go_ret
           exact ⟨by show Ending.returned (Value.bool false) = _; rw [HB.out (HN.out (by (try simp only [bne_iff_ne, bne_eq_false_iff_eq, ne_eq] at *); omega))], n, rfl⟩)
    · obtain rfl : k = s.size := by omega
      have dl : decide ((s.size : Int) < (s.size : Int)) = false := by simp
      have HA := Lib.hid (show s.data.toList.all okc = true by rw [List.take_of_length_le (by simp)] at hall; exact hall)
      clear hall
      by_cases h1 : 1 ≤ s.size <;> by_cases h2 : s.size ≤ 16
      all_goals
        have z1 : (1 : Int) ≤ (s.size : Int) ↔ 1 ≤ s.size := by omega
        have z2 : (s.size : Int) ≤ 16 ↔ s.size ≤ 16 := by omega
        go_wp2_with fail
        first
        | (exfalso; omega)
        | (go_ret
           exact ⟨by unfold nameOk; rw [HA.out]; simp [h1, h2], n, rfl⟩)
end Go.Proofs.YtmofiicjaldmiaaGreatDoor.SvK
end
section
namespace Go.Proofs.YtmofiicjaldmiaaGreatDoor.SvL
open Go.RowKit Go.Shelf YtmofiicjaldmiaaGreatDoorW.PrintWords YtmofiicjaldmiaaGreatDoorW.PrintLast SvA SvB SvC SvD SvE SvF SvI SvJ SvK
set_option linter.unusedVariables false
set_option linter.unusedSimpArgs false
theorem run_copy_u8 {W : World} {b o n c m mc : Nat} {A : Option Addr} {xs : List Int} (hx : BytesAt W A m xs) (hm : 0 < m) {cur : Array Value} {e : Nat} (hcur : W.heap[b]? = some (.cells cur e (0, 0))) (hfit : o + n ≤ cur.size) :
  (Builtin.copy_ #[43, 43] 3 #[.slice (some ⟨b, o, none⟩) n c, .slice A m mc]).run Tryz.prog W = .ok (.int .i64 ((min n m : Nat) : Int)) (W.setCells b o ((xs.take n).map (Value.int .u8))) := by
 have hxl : xs.length = m := hx.1
 obtain ⟨ad, e1, hc⟩ := hx.2.2 hm
 subst e1
 obtain ⟨i, hi1, hi2⟩ := Option.map_eq_some_iff.1 info5
 simp only [Prod.mk.injEq] at hi2
 have hl : ((xs.take n).map (Value.int .u8)).length = min n m := by rw [List.length_map, List.length_take, hxl]
 have := run_copy_cells (P := Tryz.prog) W 43 43 3 5 b o n c ad m mc ((xs.take n).map (Value.int .u8)) Tryz.underlying43 (by rw [hi1]; simp [hi2.2.1]) (by rw [hl]; exact Nat.min_comm _ _) (fun j v hj => ?_) (fun j hj => ?_) (fun j hj => ?_) (fun v hv => ?_)
 · rw [this, hl]; rfl
 ·
  rw [List.getElem?_map] at hj
  obtain ⟨x, hx1, rfl⟩ := Option.map_eq_some_iff.1 hj
  have hjn : j < n := by
   have := (List.getElem?_eq_some_iff.1 hx1).1
   rw [List.length_take] at this
   omega
  rw [List.getElem?_take_of_lt hjn] at hx1
  obtain ⟨c1, hc1, hK, hcell⟩ := hc j x hx1
  have hK' : c1 = [.int .u8 x] := hK
  subst hK'
  have := hcell 0 _ rfl
  have h1 : (Kd.int .u8).sz = 1 := rfl
  rwa [h1, Nat.mul_one, Nat.add_zero] at this
 ·
  rw [hl] at hj
  simp [World.cell?, hcur, show o + j < cur.size by omega]
 · simp [World.frozen?, hcur]
 ·
  obtain ⟨x, _, rfl⟩ := List.mem_map.1 hv
  rfl
def zeros (n : Nat) : List Int := List.replicate n 0
theorem zeros_len (n : Nat) : (zeros n).length = n := by simp [zeros]
theorem ow_made (w : World) (n : Nat) (hn : n < 2 ^ 40) : Ow u8K 5 (w.alloc (.cells (madeCells #[.int .u8 0] n) 5)) (tagged w (fun _ => 0) 1) 1 ⟨some ⟨w.heap.size, 0, none⟩, n, n⟩ (zeros n) := by
 have h := own_made' w w.heap.size 5 .u8 n (Nat.le_refl _) (by omega)
 exact ow_new (w := w) (s := ⟨some ⟨w.heap.size, 0, none⟩, n, n⟩) (own := fun _ => 0) (ok := fun _ => True) 1 (Kd.R_of_own h (fun _ _ => trivial))
def FreshP (w : World) (n : Nat) (xs : List Int) (e : Ending) (w' : World) : Prop := ∃ A, e = .returned (.slice A n n) ∧ BytesAt w' A n xs ∧ (∀ a, A = some a → w.heap.size ≤ a.block) ∧ Below w.heap.size w w'
theorem fresh_end {w w' : World} {own' : Nat → Nat} {gb n : Nat} {xs : List Int} (h : Ow u8K 5 w' own' 1 ⟨some ⟨gb, 0, none⟩, n, n⟩ xs) (hg : w.heap.size ≤ gb) (hk : Kp (fun q => q = 1) w (fun _ => 0) w' own') : FreshP w n xs (.returned (.slice (some ⟨gb, 0, none⟩) n n)) w' :=
  ⟨_, rfl, (ow_len h).2.2, fun a ha => by injection ha with ha; subst ha; exact hg, hk.os, hk.tape, hk.output, hk.size, fun k hk' => (hk.block k hk' (by omega)).2⟩
def partS (d : List Int) (next : Int) : List Int := over (over (zeros 512) 0 (d.take 510)) 510 (le 2 next)
theorem kp_made (w : World) (o : Obj) : Kp (fun q => q = 1) w (fun _ => 0) (w.alloc o) (tagged w (fun _ => 0) 1) := Kp.below (ba _) 1
set_option maxRecDepth 100000 in
set_option maxHeartbeats 1000000 in
theorem part_ok (w : World) (A : Option Addr) (m c : Nat) (xs : List Int) (hx : BytesAt w A m xs) (hm : 0 < m) (hmc : m ≤ c) (hm2 : m ≤ 510) (next : Nat) (hn : next < 65536) : Calls Tryz.prog 96 #[.slice A m c, .int .i64 (next : Int)] w (FreshP w 512 (partS xs next)) := by
 have hmk : ∀ W : World, (Instr.makeSlice 43 (.int .i64 512) (.int .i64 512)).run Tryz.prog W = .ok (.slice (some ⟨W.heap.size, 0, none⟩) 512 512) (W.alloc (.cells (madeCells #[.int .u8 0] 512) 5)) := print_make (P := Tryz.prog) 43 5 .u8 1 Tryz.underlying43 info5 (by decide) 512 (by omega)
 have hxl : xs.length = m := hx.1
 have HX := Lib.hid (BytesAt.below (B := 0) hx (ba (.cells (madeCells #[.int .u8 0] 512) 5)))
 have HO := Lib.hid (ow_made w 512 (by omega))
 have HK := Lib.hid (kp_made w (.cells (madeCells #[.int .u8 0] 512) 5))
 clear hx
 unfold partS
 generalize hd : xs.take 510 = d
 have HD := Lib.hid hd
 clear hd
 go_enter Tryz.func96, Tryz.ntmps96
 go_upto_region 2 with (fail)
 have hgb : w.heap.size ≤ w.heap.size := Nat.le_refl _
 generalize hgg : w.heap.size = gb at hgb HO ⊢
 generalize tagged w (fun _ => 0) 1 = o1 at HO HK
 generalize w.alloc (.cells (madeCells #[.int .u8 0] 512) 5) = W at HX HO HK ⊢
 obtain ⟨cur, hcur, hcs, _⟩ := ow_cur HO.out
 have hcp := run_copy_u8 (b := gb) (o := 0) (n := 510) (c := 512) (mc := c) HX.out hm hcur (by rw [hcs]; decide)
 have hov := ow_over (xs.take 510) (zeros 512) 0 W HO.out (by rw [zeros_len, List.length_take]; omega)
 have HO1 := Lib.hid hov.1
 have HK1 := Lib.hid (HK.out.trans hov.2)
 clear hov
 rw [HD.out] at hcp HO1 HK1
 have hmin : min 510 m = m := Nat.min_eq_right hm2
 go_upto_region 3 with (fail)
 generalize W.setCells gb 0 (d.map (Value.int .u8)) = W1 at HO1 HK1 ⊢
 have HP := put_ok W1 o1 1 gb 512 512 5 _ HO1.out 510 2 2 (by omega) (by omega) (by omega) (by omega) (next : Int) (by omega)
 clear hcp hcur hcs HX HO HK hmk
 go_wp2_with (go_at_call 132; refine HP.mono ?_; rintro e w2 ⟨rfl, H1, H2⟩)
 have HE := Lib.hid (fresh_end (w := w) H1 (by omega) (HK1.out.trans H2))
 clear H1 H2
 go_wp2_with fail
 go_ret
 exact HE.out
structure HD where
 ten : Int
 name : ByteArray
 ver : Int
 size : Int
 sum : Int
 first : Int
def HD.cells (h : HD) : Array Value := #[.int .i64 h.ten, .string h.name, .int .u32 h.ver, .int .i64 h.size, .int .u32 h.sum, .int .i64 h.first]
def HD.enc (h : HD) : Value := .agg #[.int .i64 h.ten, .string h.name, .int .u32 h.ver, .int .i64 h.size, .int .u32 h.sum, .int .i64 h.first]
def nbytes (s : ByteArray) : List Int := s.data.toList.map (fun c => (c.toNat : Int))
def headS (h : HD) (f : Int) : List Int :=
  over (over (over (over (over (((((zeros 512).set 0 f).set 1 83).set 2 h.ten).set 3 h.name.size) 4 (nbytes h.name)) 20 (le 4 h.ver)) 24 (le 4 h.size)) 28 (le 4 h.sum)) 32 (le 2 h.first)
structure HD.ok (h : HD) : Prop where
 t0 : 0 ≤ h.ten ∧ h.ten < 256
 n0 : h.name.size ≤ 16
 v0 : 0 ≤ h.ver ∧ h.ver < 4294967296
 z0 : 0 ≤ h.size ∧ h.size < 4294967296
 s0 : 0 ≤ h.sum ∧ h.sum < 4294967296
 f0 : 0 ≤ h.first ∧ h.first < 65536
theorem nbytes_len (s : ByteArray) : (nbytes s).length = s.size := by simp [nbytes]
theorem run_copy_str {W : World} {b o n c : Nat} {s : ByteArray} (hs : s.size ≤ n) {cur : Array Value} {e : Nat} (hcur : W.heap[b]? = some (.cells cur e (0, 0))) (hfit : o + n ≤ cur.size) :
  (Builtin.copy_ #[43, 9] 3 #[.slice (some ⟨b, o, none⟩) n c, .string s]).run Tryz.prog W = .ok (.int .i64 (s.size : Int)) (W.setCells b o ((nbytes s).map (Value.int .u8))) := by
 have h := run_copy_string (P := Tryz.prog) W 43 9 3 5 b o n c s Tryz.underlying43 Tryz.sizeOf5 hs (fun j hj => by simp [World.cell?, hcur, show o + j < cur.size by omega]) (fun j hj => by simp [World.frozen?, hcur])
 rw [h]
 simp [nbytes, goInt, Function.comp_def]
theorem run_copy3 {W W' : World} {oi : Oper} {a : Act} (s x : Tmp) {vs vx v : Value} (ho : oi.op = .call { callee := .builtin .copy, args := #[.tmp s, .tmp x], argTypes := #[43, 9] }) (hty : oi.type = 3) (hs : a.eval (.tmp s) = vs) (hx : a.eval (.tmp x) = vx) (h : (Builtin.copy_ #[43, 9] 3 #[vs, vx]).run Tryz.prog W = .ok v W') : (execOp a.eval oi).run Tryz.prog W = .ok (.value v) W' := by
 unfold execOp
 simp [Act.eval] at hs hx
 simp [ho, hty, resolve, invoke, go_sem, hs, hx, h]
structure HeSt (w : World) (hb gb : Nat) (h : HD) (xs : List Int) (W : World) (o : Nat → Nat) : Prop where
 ow : Ow u8K 5 W o 1 ⟨some ⟨gb, 0, none⟩, 512, 512⟩ xs
 bk : Blk W hb h.cells 105
 oh : o hb ≠ 1
 kp : Kp (fun q => q = 1) w (fun _ => 0) W o
 gw : w.heap.size ≤ gb
theorem HeSt.step {w : World} {hb gb : Nat} {h : HD} {xs ys : List Int} {W W' : World} {o : Nat → Nat} (H : HeSt w hb gb h xs W o) (h1 : Ow u8K 5 W' o 1 ⟨some ⟨gb, 0, none⟩, 512, 512⟩ ys) (h2 : Kp (fun q => q = 1) W o W' o) : HeSt w hb gb h ys W' o :=
  ⟨h1, (H.bk.keep h2 H.oh).1, H.oh, H.kp.trans h2, H.gw⟩
theorem HeSt.drew {w : World} {hb gb : Nat} {h : HD} {xs : List Int} {W : World} {o : Nat → Nat} (H : HeSt w hb gb h xs W o) : HeSt w hb gb h xs W.drew o := ⟨H.ow, H.bk, H.oh, H.kp.drew, H.gw⟩
theorem HeSt.four {w : World} {hb gb : Nat} {h : HD} {xs : List Int} {W : World} {o : Nat → Nat} (H : HeSt w hb gb h xs W o) (a b c d : Int) : HeSt w hb gb h ((((xs.set 0 a).set 1 b).set 2 c).set 3 d) ((((W.setCell ⟨gb, 0, none⟩ (.int .u8 a)).setCell ⟨gb, 1, none⟩ (.int .u8 b)).setCell ⟨gb, 2, none⟩ (.int .u8 c)).setCell ⟨gb, 3, none⟩ (.int .u8 d)) o := by
 have h1 := Ow.put H.ow 0 a
 have h2 := Ow.put h1.1 1 b
 have h3 := Ow.put h2.1 2 c
 have h4 := Ow.put h3.1 3 d
 exact H.step h4.1 ((h1.2.trans h2.2).trans (h3.2.trans h4.2))
theorem HeSt.make (w : World) (h : HD) : HeSt w w.heap.size (w.heap.size + 1) h (zeros 512) ((w.alloc (.cells h.cells 105)).alloc (.cells (madeCells #[.int .u8 0] 512) 5)) (tagged (w.alloc (.cells h.cells 105)) (fun _ => 0) 1) := by
 have h1 := ow_made (w.alloc (.cells h.cells 105)) 512 (by omega)
 rw [World.size_alloc] at h1
 refine ⟨h1, (blkNew (w := w) rfl).below (ba _), ?_, (Kp.below (ts := fun q => q = 1) (own := fun _ => 0) (ba (w := w) (.cells h.cells 105)) 0).trans ?_, by omega⟩
 ·
  rw [tagged_old (by simp)]
  decide
 ·
  have : tagged w (fun _ => 0) 0 = fun _ => 0 := by funext k; unfold tagged; split <;> rfl
  rw [this]
  exact kp_made _ _
set_option maxRecDepth 100000 in
set_option maxHeartbeats 2000000 in
theorem bytes_ok (w : World) (h : HD) (hh : h.ok) (f : Int) : Calls Tryz.prog 97 #[h.enc, .int .u8 f] w (FreshP w 512 (headS h f)) := by
 have hmk : ∀ W : World, (Instr.makeSlice 43 (.int .i64 512) (.int .i64 512)).run Tryz.prog W = .ok (.slice (some ⟨W.heap.size, 0, none⟩) 512 512) (W.alloc (.cells (madeCells #[.int .u8 0] 512) 5)) := print_make (P := Tryz.prog) 43 5 .u8 1 Tryz.underlying43 info5 (by decide) 512 (by omega)
 obtain ⟨⟨t0, t1⟩, n0, ⟨v0, v1⟩, ⟨z0, z1⟩, ⟨s0, s1⟩, ⟨f0, f1⟩⟩ := hh
 obtain ⟨ten, name, ver, size, sum, first⟩ := h
 dsimp only at *
 have HS := Lib.hid (HeSt.make w ⟨ten, name, ver, size, sum, first⟩)
 unfold HD.enc
 go_enter Tryz.func97, Tryz.ntmps97
 go_upto_region 2 with (fail)
 rw [show (Obj.cells #[Value.int .i64 ten, Value.string name, Value.int .u32 ver, Value.int .i64 size, Value.int .u32 sum, Value.int .i64 first] 105) = .cells (HD.cells ⟨ten, name, ver, size, sum, first⟩) 105 from rfl]
 generalize tagged (w.alloc (.cells (HD.cells ⟨ten, name, ver, size, sum, first⟩) 105)) (fun _ => 0) 1 = o at HS
 have hlt : w.heap.size < w.heap.size + 1 := Nat.lt_succ_self _
 generalize w.heap.size + 1 = gb at HS hlt ⊢
 generalize w.heap.size = hb at HS hlt ⊢
 generalize (w.alloc (.cells (HD.cells ⟨ten, name, ver, size, sum, first⟩) 105)).alloc (.cells (madeCells #[.int .u8 0] 512) 5) = W at HS ⊢
 have b0 : W.cell? ⟨hb, 0, none⟩ = some (.int .i64 ten) := Blk.cell (i := 0) HS.out.bk rfl
 have b1 : W.cell? ⟨hb, 1, none⟩ = some (.string name) := Blk.cell (i := 1) HS.out.bk rfl
 obtain ⟨c0, z0, q0⟩ := ow_cell HS.out.ow 0 0 rfl
 obtain ⟨c1, z1, q1⟩ := ow_cell HS.out.ow 1 0 rfl
 obtain ⟨c2, z2, q2⟩ := ow_cell HS.out.ow 2 0 rfl
 obtain ⟨c3, z3, q3⟩ := ow_cell HS.out.ow 3 0 rfl
 clear hmk
 go_region
 go_wp2_with fail
 have HS1 := Lib.hid (HS.out.four f 83 ten name.size).drew
 clear c0 z0 c1 z1 c2 z2 c3 z3 b0 b1 HS q0 q1 q2 q3
 generalize ((((W.setCell ⟨gb, 0, none⟩ (.int .u8 f)).setCell ⟨gb, 1, none⟩ (.int .u8 83)).setCell ⟨gb, 2, none⟩ (.int .u8 ten)).setCell ⟨gb, 3, none⟩ (.int .u8 name.size)).drew = W1 at *
 have c1 : W1.cell? ⟨hb, 1, none⟩ = some (.string name) := Blk.cell (i := 1) HS1.out.bk rfl
 refine start_ (n := 5) (S := fun w' => w'.cell? ⟨hb, 1, none⟩ = some (.string name)) (ds := [4]) #[false, false, false, false, false] (by kernel_rfl) rfl rfl c1 (fun hHeld => ?_)
 refine pu_ (i := 0) (N := some 23) (v := ?_) (a' := ?_) rfl rfl (by kernel_rfl) (fun _ _ _ h => h) (by rfl) ?_ ?_ ?_
 rotate_left
 · (intro w'; go_simp; with_reducible rfl)
 rotate_left
 · (simp only [put_s, List.set, i64_w, i32_w]; rfl)
 refine pu_ (i := 1) (N := some 24) (v := ?_) (a' := ?_) rfl rfl (by kernel_rfl) (fun _ _ _ h => h) (by rfl) ?_ ?_ ?_
 rotate_left
 · (intro w'; go_simp; with_reducible rfl)
 rotate_left
 · (simp only [put_s, List.set, i64_w, i32_w]; rfl)
 refine pu_ (i := 2) (N := some 25) (v := ?_) (a' := ?_) rfl rfl (by kernel_rfl) (fun _ _ _ h => h) (by rfl) ?_ ?_ ?_
 rotate_left
 · (intro w'; go_simp; with_reducible rfl)
 rotate_left
 · (simp only [put_s, List.set, i64_w, i32_w]; rfl)
 refine tk_ (i := 3) (N := some 26) (v := ?_) (a' := ?_) rfl rfl (by kernel_rfl) (fun _ _ _ h => h) (by rfl) ?_ hHeld ?_ ?_
 rotate_left
 ·
  intro w' s0
  have q1 := s0
  go_simp
  with_reducible rfl
 rotate_left
 · (simp only [put_s, List.set, i64_w, i32_w]; rfl)
 refine la_ (i := 4) (N := some 27) rfl rfl (by kernel_rfl) (by decide) (fun K hK => ?_)
 obtain ⟨cur, hcur, hcs, _⟩ := ow_cur HS1.out.drew.ow
 have hcp := run_copy_str (b := gb) (o := 4) (n := 508) (c := 508) (s := name) (by omega) hcur (by rw [hcs]; decide)
 have hov := ow_over (nbytes name) _ 4 _ HS1.out.drew.ow (by simp only [List.length_set, zeros_len, nbytes_len]; omega)
 have HS2 := Lib.hid (HS1.out.drew.step hov.1 hov.2)
 refine value_ (v := .int .i64 name.size) (w1 := W1.drew.setCells gb 4 ((nbytes name).map (Value.int .u8))) (by rfl) rfl (run_copy3 24 26 (by rfl) (by rfl) (by rfl) (by rfl) hcp) ?_
 refine hK.out _ _ ?_
 clear hK K hcp hov hcs hcur cur HS1 c1
 refine norm_ (a' := ?_) ?_ ?_
 rotate_left
 ·
  show Act.put _ (some 27) _ = _
  simp only [put_s, List.set, i64_w, i32_w]
  rfl
 refine done_ (by kernel_rfl) ?_
 generalize W1.drew.setCells gb 4 ((nbytes name).map (Value.int .u8)) = W2 at *
 go_wp2_with fail
 have c2 : W2.cell? ⟨hb, 2, none⟩ = some (.int .u32 ver) := Blk.cell (i := 2) HS2.out.bk rfl
 refine start_ (n := 5) (S := fun w' => w'.cell? ⟨hb, 2, none⟩ = some (.int .u32 ver)) (ds := [4]) #[false, false, false, false, false] (by kernel_rfl) rfl rfl c2 (fun hHeld => ?_)
 refine pu_ (i := 0) (N := some 28) (v := ?_) (a' := ?_) rfl rfl (by kernel_rfl) (fun _ _ _ h => h) (by rfl) ?_ ?_ ?_
 rotate_left
 · (intro w'; go_simp; with_reducible rfl)
 rotate_left
 · (simp only [put_s, List.set, i64_w, i32_w]; rfl)
 refine pu_ (i := 1) (N := some 29) (v := ?_) (a' := ?_) rfl rfl (by kernel_rfl) (fun _ _ _ h => h) (by rfl) ?_ ?_ ?_
 rotate_left
 · (intro w'; go_simp; with_reducible rfl)
 rotate_left
 · (simp only [put_s, List.set, i64_w, i32_w]; rfl)
 refine pu_ (i := 2) (N := some 30) (v := ?_) (a' := ?_) rfl rfl (by kernel_rfl) (fun _ _ _ h => h) (by rfl) ?_ ?_ ?_
 rotate_left
 · (intro w'; go_simp; with_reducible rfl)
 rotate_left
 · (simp only [put_s, List.set, i64_w, i32_w]; rfl)
 refine tk_ (i := 3) (N := some 31) (v := ?_) (a' := ?_) rfl rfl (by kernel_rfl) (fun _ _ _ h => h) (by rfl) ?_ hHeld ?_ ?_
 rotate_left
 ·
  intro w' s0
  have q1 := s0
  go_simp
  with_reducible rfl
 rotate_left
 · (simp only [put_s, List.set, i64_w, i32_w]; rfl)
 refine la_ (i := 4) (N := some 32) rfl rfl (by kernel_rfl) (by decide) (fun K hK => ?_)
 refine goes_ Tryz.func132 (by kernel_rfl) rfl #[.slice (some ⟨gb, 20, none⟩) 4 492, .int .u32 ver] (by first | rfl | (simp [Act.eval]; done)) rfl rfl (by first | rfl | (simp [Act.eval]; done) | (simp [Act.eval, IntKind.wrap_u32]; omega)) ?_
 refine Calls.mono (put_ok _ o 1 gb 512 512 5 _ HS2.out.drew.ow 20 4 492 (by omega) (by omega) (by omega) (by omega) ver ⟨by omega, by omega⟩) ?_
 rintro e W3 ⟨rfl, ho', hk'⟩
 refine ⟨_, rfl, ?_⟩
 refine hK.out _ _ ?_
 clear hK K
 have HS3 := Lib.hid (HS2.out.drew.step ho' hk')
 clear ho' hk' HS2 c2
 refine norm_ (a' := ?_) ?_ ?_
 rotate_left
 ·
  show Act.put _ (some 32) _ = _
  simp only [put_s, List.set, i64_w, i32_w]
  rfl
 refine done_ (by kernel_rfl) ?_
 go_wp2_with fail
 have c3 : W3.cell? ⟨hb, 3, none⟩ = some (.int .i64 size) := Blk.cell (i := 3) HS3.out.bk rfl
 refine start_ (n := 6) (S := fun w' => w'.cell? ⟨hb, 3, none⟩ = some (.int .i64 size)) (ds := [5]) #[false, false, false, false, false, false] (by kernel_rfl) rfl rfl c3 (fun hHeld => ?_)
 refine pu_ (i := 0) (N := some 33) (v := ?_) (a' := ?_) rfl rfl (by kernel_rfl) (fun _ _ _ h => h) (by rfl) ?_ ?_ ?_
 rotate_left
 · (intro w'; go_simp; with_reducible rfl)
 rotate_left
 · (simp only [put_s, List.set, i64_w, i32_w]; rfl)
 refine pu_ (i := 1) (N := some 34) (v := ?_) (a' := ?_) rfl rfl (by kernel_rfl) (fun _ _ _ h => h) (by rfl) ?_ ?_ ?_
 rotate_left
 · (intro w'; go_simp; with_reducible rfl)
 rotate_left
 · (simp only [put_s, List.set, i64_w, i32_w]; rfl)
 refine pu_ (i := 2) (N := some 35) (v := ?_) (a' := ?_) rfl rfl (by kernel_rfl) (fun _ _ _ h => h) (by rfl) ?_ ?_ ?_
 rotate_left
 · (intro w'; go_simp; with_reducible rfl)
 rotate_left
 · (simp only [put_s, List.set, i64_w, i32_w]; rfl)
 refine tk_ (i := 3) (N := some 36) (v := ?_) (a' := ?_) rfl rfl (by kernel_rfl) (fun _ _ _ h => h) (by rfl) ?_ hHeld ?_ ?_
 rotate_left
 ·
  intro w' s0
  have q1 := s0
  go_simp
  with_reducible rfl
 rotate_left
 · (simp only [put_s, List.set, i64_w, i32_w]; rfl)
 refine pu_ (i := 4) (N := some 37) (v := ?_) (a' := ?_) rfl rfl (by kernel_rfl) (fun _ _ _ h => h) (by rfl) ?_ ?_ ?_
 rotate_left
 · (intro w'; go_simp; with_reducible rfl)
 rotate_left
 · (simp only [put_s, List.set, i64_w, i32_w]; rfl)
 refine la_ (i := 5) (N := some 38) rfl rfl (by kernel_rfl) (by decide) (fun K hK => ?_)
 refine goes_ Tryz.func132 (by kernel_rfl) rfl #[.slice (some ⟨gb, 24, none⟩) 4 488, .int .u32 size] (by first | rfl | (simp [Act.eval]; done)) rfl rfl (by first | rfl | (simp [Act.eval]; done) | (simp [Act.eval, IntKind.wrap_u32]; omega)) ?_
 refine Calls.mono (put_ok _ o 1 gb 512 512 5 _ HS3.out.drew.ow 24 4 488 (by omega) (by omega) (by omega) (by omega) size ⟨by omega, by omega⟩) ?_
 rintro e W4 ⟨rfl, ho', hk'⟩
 refine ⟨_, rfl, ?_⟩
 refine hK.out _ _ ?_
 clear hK K
 have HS4 := Lib.hid (HS3.out.drew.step ho' hk')
 clear ho' hk' HS3 c3
 refine norm_ (a' := ?_) ?_ ?_
 rotate_left
 ·
  show Act.put _ (some 38) _ = _
  simp only [put_s, List.set, i64_w, i32_w]
  rfl
 refine done_ (by kernel_rfl) ?_
 go_wp2_with fail
 have c4 : W4.cell? ⟨hb, 4, none⟩ = some (.int .u32 sum) := Blk.cell (i := 4) HS4.out.bk rfl
 refine start_ (n := 5) (S := fun w' => w'.cell? ⟨hb, 4, none⟩ = some (.int .u32 sum)) (ds := [4]) #[false, false, false, false, false] (by kernel_rfl) rfl rfl c4 (fun hHeld => ?_)
 refine pu_ (i := 0) (N := some 39) (v := ?_) (a' := ?_) rfl rfl (by kernel_rfl) (fun _ _ _ h => h) (by rfl) ?_ ?_ ?_
 rotate_left
 · (intro w'; go_simp; with_reducible rfl)
 rotate_left
 · (simp only [put_s, List.set, i64_w, i32_w]; rfl)
 refine pu_ (i := 1) (N := some 40) (v := ?_) (a' := ?_) rfl rfl (by kernel_rfl) (fun _ _ _ h => h) (by rfl) ?_ ?_ ?_
 rotate_left
 · (intro w'; go_simp; with_reducible rfl)
 rotate_left
 · (simp only [put_s, List.set, i64_w, i32_w]; rfl)
 refine pu_ (i := 2) (N := some 41) (v := ?_) (a' := ?_) rfl rfl (by kernel_rfl) (fun _ _ _ h => h) (by rfl) ?_ ?_ ?_
 rotate_left
 · (intro w'; go_simp; with_reducible rfl)
 rotate_left
 · (simp only [put_s, List.set, i64_w, i32_w]; rfl)
 refine tk_ (i := 3) (N := some 42) (v := ?_) (a' := ?_) rfl rfl (by kernel_rfl) (fun _ _ _ h => h) (by rfl) ?_ hHeld ?_ ?_
 rotate_left
 ·
  intro w' s0
  have q1 := s0
  go_simp
  with_reducible rfl
 rotate_left
 · (simp only [put_s, List.set, i64_w, i32_w]; rfl)
 refine la_ (i := 4) (N := some 43) rfl rfl (by kernel_rfl) (by decide) (fun K hK => ?_)
 refine goes_ Tryz.func132 (by kernel_rfl) rfl #[.slice (some ⟨gb, 28, none⟩) 4 484, .int .u32 sum] (by first | rfl | (simp [Act.eval]; done)) rfl rfl (by first | rfl | (simp [Act.eval]; done) | (simp [Act.eval, IntKind.wrap_u32]; omega)) ?_
 refine Calls.mono (put_ok _ o 1 gb 512 512 5 _ HS4.out.drew.ow 28 4 484 (by omega) (by omega) (by omega) (by omega) sum ⟨by omega, by omega⟩) ?_
 rintro e W5 ⟨rfl, ho', hk'⟩
 refine ⟨_, rfl, ?_⟩
 refine hK.out _ _ ?_
 clear hK K
 have HS5 := Lib.hid (HS4.out.drew.step ho' hk')
 clear ho' hk' HS4 c4
 refine norm_ (a' := ?_) ?_ ?_
 rotate_left
 ·
  show Act.put _ (some 43) _ = _
  simp only [put_s, List.set, i64_w, i32_w]
  rfl
 refine done_ (by kernel_rfl) ?_
 go_wp2_with fail
 have c5 : W5.cell? ⟨hb, 5, none⟩ = some (.int .i64 first) := Blk.cell (i := 5) HS5.out.bk rfl
 refine start_ (n := 6) (S := fun w' => w'.cell? ⟨hb, 5, none⟩ = some (.int .i64 first)) (ds := [5]) #[false, false, false, false, false, false] (by kernel_rfl) rfl rfl c5 (fun hHeld => ?_)
 refine pu_ (i := 0) (N := some 44) (v := ?_) (a' := ?_) rfl rfl (by kernel_rfl) (fun _ _ _ h => h) (by rfl) ?_ ?_ ?_
 rotate_left
 · (intro w'; go_simp; with_reducible rfl)
 rotate_left
 · (simp only [put_s, List.set, i64_w, i32_w]; rfl)
 refine pu_ (i := 1) (N := some 45) (v := ?_) (a' := ?_) rfl rfl (by kernel_rfl) (fun _ _ _ h => h) (by rfl) ?_ ?_ ?_
 rotate_left
 · (intro w'; go_simp; with_reducible rfl)
 rotate_left
 · (simp only [put_s, List.set, i64_w, i32_w]; rfl)
 refine pu_ (i := 2) (N := some 46) (v := ?_) (a' := ?_) rfl rfl (by kernel_rfl) (fun _ _ _ h => h) (by rfl) ?_ ?_ ?_
 rotate_left
 · (intro w'; go_simp; with_reducible rfl)
 rotate_left
 · (simp only [put_s, List.set, i64_w, i32_w]; rfl)
 refine tk_ (i := 3) (N := some 47) (v := ?_) (a' := ?_) rfl rfl (by kernel_rfl) (fun _ _ _ h => h) (by rfl) ?_ hHeld ?_ ?_
 rotate_left
 ·
  intro w' s0
  have q1 := s0
  go_simp
  with_reducible rfl
 rotate_left
 · (simp only [put_s, List.set, i64_w, i32_w]; rfl)
 refine pu_ (i := 4) (N := some 48) (v := ?_) (a' := ?_) rfl rfl (by kernel_rfl) (fun _ _ _ h => h) (by rfl) ?_ ?_ ?_
 rotate_left
 · (intro w'; go_simp; with_reducible rfl)
 rotate_left
 · (simp only [put_s, List.set, i64_w, i32_w]; rfl)
 refine la_ (i := 5) (N := some 49) rfl rfl (by kernel_rfl) (by decide) (fun K hK => ?_)
 refine goes_ Tryz.func132 (by kernel_rfl) rfl #[.slice (some ⟨gb, 32, none⟩) 2 480, .int .u32 first] (by first | rfl | (simp [Act.eval]; done)) rfl rfl (by first | rfl | (simp [Act.eval]; done) | (simp [Act.eval, IntKind.wrap_u32]; omega)) ?_
 refine Calls.mono (put_ok _ o 1 gb 512 512 5 _ HS5.out.drew.ow 32 2 480 (by omega) (by omega) (by omega) (by omega) first ⟨by omega, by omega⟩) ?_
 rintro e W6 ⟨rfl, ho', hk'⟩
 refine ⟨_, rfl, ?_⟩
 refine hK.out _ _ ?_
 clear hK K
 have HS6 := Lib.hid (HS5.out.drew.step ho' hk')
 clear ho' hk' HS5 c5
 refine norm_ (a' := ?_) ?_ ?_
 rotate_left
 ·
  show Act.put _ (some 49) _ = _
  simp only [put_s, List.set, i64_w, i32_w]
  rfl
 refine done_ (by kernel_rfl) ?_
 go_wp2_with fail
 go_ret
 exact fresh_end HS6.out.ow HS6.out.gw HS6.out.kp
end Go.Proofs.YtmofiicjaldmiaaGreatDoor.SvL
end
section
namespace Go.Proofs.YtmofiicjaldmiaaGreatDoor.SvM
open Go.RowKit Go.Shelf YtmofiicjaldmiaaGreatDoorW.PrintWords YtmofiicjaldmiaaGreatDoorW.PrintLast SvA SvB SvC SvD SvE SvF SvH SvI SvJ SvK SvL
set_option linter.unusedVariables false
set_option linter.unusedSimpArgs false
theorem ret_int {k : IntKind} {a b : Int} (h : a = b) : Ending.returned (.int k a) = .returned (.int k b) := by rw [h]
theorem ret_bool {a b : Bool} (h : a = b) : Ending.returned (.bool a) = .returned (.bool b) := by rw [h]
structure EN where
 hd : HD
 at_ : Int
 secs : List Int
structure EP where
 en : EN
 sl : Sl
def EP.enc (p : EP) : Value := .agg #[.int .i64 p.en.hd.ten, .string p.en.hd.name, .int .u32 p.en.hd.ver, .int .i64 p.en.hd.size, .int .u32 p.en.hd.sum, .int .i64 p.en.hd.first, .int .i64 p.en.at_, .slice p.sl.A p.sl.n p.sl.c]
def EP.cells (p : EP) : List Value := [.int .i64 p.en.hd.ten, .string p.en.hd.name, .int .u32 p.en.hd.ver, .int .i64 p.en.hd.size, .int .u32 p.en.hd.sum, .int .i64 p.en.hd.first, .int .i64 p.en.at_, .slice p.sl.A p.sl.n p.sl.c]
def enK : Kd EP := flatK 8 EP.cells (fun _ => rfl) (fun x u hu => by simp only [EP.cells, List.mem_cons, List.not_mem_nil, or_false] at hu; rcases hu with rfl | rfl | rfl | rfl | rfl | rfl | rfl | rfl <;> rfl)
def Es (w : World) (own : Nat → Nat) (ps : List EP) (es : List EN) : Prop := ps.map (·.en) = es ∧ ∀ p ∈ ps, Rd i64K w own 0 p.sl p.en.secs
theorem Es.keep {ts : Nat → Prop} {w w' : World} {own own' : Nat → Nat} {ps : List EP} {es : List EN} (h : Es w own ps es) (hk : Kp ts w own w' own') (h0 : ¬ ts 0) : Es w' own' ps es :=
  ⟨h.1, fun p hp => (h.2 p hp).keep i64K_K (by decide) hk h0⟩
structure AR where
 ten : Nat
 frm : Nat
 sec : Nat
 heads : Nat
 ents : List EN
def ArA (w : World) (own : Nat → Nat) (t te g : Nat) (a : AR) : Prop := ∃ (z : Sl) (ps : List EP), own g = t ∧ Blk w g #[.int .i64 (a.ten : Int), .int .i64 (a.frm : Int), .int .i64 (a.sec : Int), .int .i64 (a.heads : Int), z.enc] 102 ∧ Ow enK 107 w own te z ps ∧ Es w own ps a.ents
theorem ArA.keep {ts : Nat → Prop} {w w' : World} {own own' : Nat → Nat} {t te g : Nat} {a : AR} (h : ArA w own t te g a) (hk : Kp ts w own w' own') (h0 : ¬ ts 0) (h1 : ¬ ts t) (h2 : ¬ ts te) : ArA w' own' t te g a := by
 obtain ⟨z, ps, hg, hb, hs, he⟩ := h
 obtain ⟨a1, a2⟩ := hb.keep hk (by rw [hg]; exact h1)
 exact ⟨z, ps, a2.trans hg, a1, hs.keep hk h2, he.keep hk h0⟩
theorem en_at {w : World} {A : Option Addr} {n : Nat} {ps : List EP} (h : enK.C w A n ps) (b : Nat) (hA : A = some ⟨b, 0, none⟩) (k : Nat) (hk : k < n) (p : EP) (hp : ps[k]? = some p) :
  w.cell? ⟨b, k * 8, none⟩ = some (.int .i64 p.en.hd.ten) ∧ w.cell? ⟨b, k * 8 + 1, none⟩ = some (.string p.en.hd.name) ∧ w.cell? ⟨b, k * 8 + 2, none⟩ = some (.int .u32 p.en.hd.ver) ∧ w.cell? ⟨b, k * 8 + 3, none⟩ = some (.int .i64 p.en.hd.size) ∧
  w.cell? ⟨b, k * 8 + 4, none⟩ = some (.int .u32 p.en.hd.sum) ∧ w.cell? ⟨b, k * 8 + 5, none⟩ = some (.int .i64 p.en.hd.first) ∧ w.cell? ⟨b, k * 8 + 6, none⟩ = some (.int .i64 p.en.at_) ∧ w.cell? ⟨b, k * 8 + 7, none⟩ = some (.slice p.sl.A p.sl.n p.sl.c) := by
 obtain ⟨ad, c, e, _, hK, hc0⟩ := Kd.C_get h p (k : Int) (by omega) (by omega)
 rw [hA] at e
 injection e with e
 subst e
 rw [Int.toNat_natCast, List.getD_eq_getElem?_getD, hp] at hK
 have hK' : c = p.cells := hK
 subst hK'
 rw [Int.toNat_natCast] at hc0
 have h2 : enK.sz = 8 := rfl
 have q : ∀ i u, p.cells[i]? = some u → w.cell? ⟨b, k * 8 + i, none⟩ = some u := fun i u hu => by
  have a := hc0 i u hu
  rwa [h2, add_plain] at a
 exact ⟨q 0 _ rfl, q 1 _ rfl, q 2 _ rfl, q 3 _ rfl, q 4 _ rfl, q 5 _ rfl, q 6 _ rfl, q 7 _ rfl⟩
def findI {α : Type} (p : α → Bool) : List α → Int
 | [] => -1
 | x :: l => if p x then 0 else if findI p l = -1 then -1 else findI p l + 1
theorem findI_bd {α : Type} (p : α → Bool) (l : List α) : -1 ≤ findI p l ∧ findI p l < l.length := by
 induction l with
 | nil => simp [findI]
 | cons x l ih => simp only [findI, List.length_cons]; split <;> (try split) <;> omega
theorem findI_hit {α : Type} {p : α → Bool} : ∀ {l : List α} {k : Nat} {x : α}, l[k]? = some x → (∀ (j : Nat) (y : α), j < k → l[j]? = some y → p y = false) → p x = true → findI p l = k
 | [], k, x, h, _, _ => by simp at h
 | y :: l, 0, x, h, _, hx => by simp at h; subst h; simp [findI, hx]
 | y :: l, k + 1, x, h, hn, hx => by
  have h0 := hn 0 y (by omega) rfl
  have ih := findI_hit (l := l) (k := k) (x := x) (by simpa using h) (fun j z hj hz => hn (j + 1) z (by omega) (by simpa using hz)) hx
  simp only [findI, h0, ih]
  rw [if_neg (by simp), if_neg (by omega)]
  omega
theorem findI_none {α : Type} {p : α → Bool} : ∀ {l : List α}, (∀ x ∈ l, p x = false) → findI p l = -1
 | [], _ => rfl
 | y :: l, h => by
  have h0 := h y List.mem_cons_self
  have ih := findI_none (l := l) (fun x hx => h x (List.mem_cons_of_mem _ hx))
  simp [findI, h0, ih]
theorem findI_nn {α : Type} {p : α → Bool} (l : List α) : 0 ≤ findI p l ↔ l.any p = true := by
 induction l with
 | nil => simp [findI]
 | cons x l ih =>
  have hb := findI_bd p l
  simp only [findI, List.any_cons, Bool.or_eq_true]
  by_cases hx : p x = true
  ·
   rw [if_pos hx]
   exact ⟨fun _ => .inl hx, fun _ => by omega⟩
  ·
   rw [if_neg hx]
   by_cases h : findI p l = -1
   ·
    rw [if_pos h]
    refine ⟨fun h => by omega, fun h1 => ?_⟩
    rcases h1 with h1 | h1
    · exact absurd h1 hx
    ·
     have := ih.2 h1
     omega
   ·
    rw [if_neg h]
    exact ⟨fun _ => .inr (ih.1 (by omega)), fun _ => by omega⟩
theorem findI_any {α : Type} {p : α → Bool} (l : List α) : decide (0 ≤ findI p l) = l.any p := by
 rw [Bool.eq_iff_iff, decide_eq_true_eq]
 exact findI_nn l
def Pred (F : FuncId) (caps : Array Value) (w : World) (ps : List EP) (p : EP → Bool) : Prop := ∀ x ∈ ps, ∀ W, Below w.heap.size w W → Calls Tryz.prog F (#[x.enc] ++ caps) W fun e w' => e = .returned (.bool (p x)) ∧ Below W.heap.size W w'
def IdxP (w : World) (r : Int) (e : Ending) (w' : World) : Prop := e = .returned (.int .i64 r) ∧ Below w.heap.size w w'
set_option maxRecDepth 100000 in
set_option maxHeartbeats 1000000 in
theorem indexFunc_ok (w : World) (own : Nat → Nat) (te : Nat) (z : Sl) (ps : List EP) (H : Ow enK 107 w own te z ps) (hl : ps.length < 2 ^ 40) (F : FuncId) (cs : Array Value) (p : EP → Bool) (hF : Pred F cs w ps p) (hE : ∀ args w, (callFunc F args).run Tryz.prog w = .ok (.enter F args) w) :
  Calls Tryz.prog 129 #[.slice z.A z.n z.c, .func (.func F) #[] cs] w (IdxP w (findI p ps)) := by
 obtain ⟨h1, h2, h3⟩ := ow_len H
 have hn : z.n < 2 ^ 40 := by omega
 have HH := Lib.hid (fun (h : 0 < z.n) => ow_head H h)
 have HF := Lib.hid hF
 have H3 := Lib.hid h3
 clear H hF h3
 obtain ⟨A, n, c⟩ := z
 dsimp only at *
 go_enter Tryz.func129, Tryz.ntmps129
 go_wp2_with fail
 go_loopw [8, 5] (fun i _ wr => ∃ k : Nat, k ≤ n ∧ i = .int .i64 (k : Int) ∧ Below w.heap.size w wr ∧ ∀ (j : Nat) (y : EP), j < k → ps[j]? = some y → p y = false) (fun i _ _ => n - (intOf i).toNat)
 case atStart => exact ⟨0, by omega, rfl, Below.refl _ _, fun j y hj => by omega⟩
 case round =>
  obtain ⟨k, hk, rfl, hb, hno⟩ := hrel
  have HN := Lib.hid hno
  clear hno
  by_cases hlt : k < n
  ·
   have dl : decide ((k : Int) < (n : Int)) = true := by simp; omega
   have hkn : (k : Int) < (n : Int) := by omega
   obtain ⟨b, hz⟩ := HH.out (by omega)
   injection hz with hA _ _
   subst hA
   obtain ⟨x, hx⟩ : ∃ x, ps[k]? = some x := ⟨_, List.getElem?_eq_getElem (by omega)⟩
   obtain ⟨e0, e1, e2, e3, e4, e5, e6, e7⟩ := en_at (Kd.C_below H3.out hb) b rfl k hlt x hx
   have hc := HF.out x (List.mem_of_getElem? hx) wr hb
   unfold EP.enc at hc
   have HC := Lib.hid hc
   have HX := Lib.hid hx
   clear hc hx
   obtain ⟨⟨⟨x1, x2, x3, x4, x5, x6⟩, x7, xs⟩, ⟨x8, x9, x10⟩⟩ := x
   dsimp only at e0 e1 e2 e3 e4 e5 e6 e7
   have HT : Hid (p ⟨⟨⟨x1, x2, x3, x4, x5, x6⟩, x7, xs⟩, ⟨x8, x9, x10⟩⟩ = true → findI p ps = k) := Lib.hid (fun h => findI_hit HX.out HN.out h)
   have HG : Hid (p ⟨⟨⟨x1, x2, x3, x4, x5, x6⟩, x7, xs⟩, ⟨x8, x9, x10⟩⟩ = false → ∀ (j : Nat) (y : EP), j < k + 1 → ps[j]? = some y → p y = false) := Lib.hid (fun h j y hj hy => by
    rcases Nat.lt_succ_iff_lt_or_eq.1 hj with hj | rfl
    · exact HN.out j y hj hy
    ·
     rw [HX.out] at hy
     injection hy with hy
     rw [← hy]
     exact h)
   go_wp2_with fail
   refine HC.out.mono ?_
   rintro e w' ⟨rfl, hb'⟩
   have HB := Lib.hid (hb.trans (hb'.mono hb.size))
   clear hb hb' e0 e1 e2 e3 e4 e5 e6 e7
   cases hp : p ⟨⟨⟨x1, x2, x3, x4, x5, x6⟩, x7, xs⟩, ⟨x8, x9, x10⟩⟩
   ·
    rw [hp] at HT HG
    clear hp
    go_wp2_with fail
    go_roundw
    case rel => exact ⟨k + 1, by omega, by go_num, HB.out, HG.out trivial⟩
    case measure => simp [intOf]; omega
   ·
    rw [hp] at HT HG
    clear hp
    go_wp2_with fail
    go_ret
    exact ⟨ret_int (HT.out trivial).symm, HB.out⟩
  ·
   obtain rfl : k = n := by omega
   have dl : decide ((k : Int) < (k : Int)) = false := by simp
   have HT : Hid (findI p ps = -1) := Lib.hid (findI_none (fun x hx => by
    obtain ⟨j, hj⟩ := List.getElem?_of_mem hx
    exact HN.out j x (by have := (List.getElem?_eq_some_iff.1 hj).1; omega) hj))
   go_wp2_with fail
   go_ret
   exact ⟨ret_int HT.out.symm, hb⟩
end Go.Proofs.YtmofiicjaldmiaaGreatDoor.SvM
end
section
namespace Go.Proofs.YtmofiicjaldmiaaGreatDoor.SvN
open Go.RowKit Go.Shelf YtmofiicjaldmiaaGreatDoorW.PrintWords YtmofiicjaldmiaaGreatDoorW.PrintLast SvA SvB SvC SvD SvE SvF SvH SvI SvJ SvK SvL SvM
set_option linter.unusedVariables false
set_option linter.unusedSimpArgs false
theorem enters (F : FuncId) {fn : Func} (hf : Tryz.prog.funcs[F]? = some fn) (hname : (fn.name == "runtime.NumGoroutine") = false) (hb : fn.body.isSome = true) : ∀ (args : Array Value) (w : World), (callFunc F args).run Tryz.prog w = .ok (.enter F args) w := fun args w => enters_ hf hname hb args w
theorem index_ok (w : World) (A : Option Addr) (n c : Nat) (xs : List Int) (hx : i64K.C w A n xs) (hn : n < 2 ^ 40) (v : Int) : Calls Tryz.prog 131 #[.slice A n c, .int .i64 v] w fun e w' => e = .returned (.int .i64 (findI (· == v) xs)) ∧ w = w' := by
 have hxl : xs.length = n := hx.1
 have HX := Lib.hid hx
 clear hx
 go_enter Tryz.func131, Tryz.ntmps131
 go_wp2_with fail
 go_loopw [8, 5] (fun i _ wr => ∃ k : Nat, k ≤ n ∧ i = .int .i64 (k : Int) ∧ w = wr ∧ ∀ (j : Nat) (y : Int), j < k → xs[j]? = some y → (y == v) = false) (fun i _ _ => n - (intOf i).toNat)
 case atStart => exact ⟨0, by omega, rfl, rfl, fun j y hj => by omega⟩
 case round =>
  obtain ⟨k, hk, rfl, rfl, hno⟩ := hrel
  have HN := Lib.hid hno
  clear hno
  by_cases hlt : k < n
  ·
   have dl : decide ((k : Int) < (n : Int)) = true := by simp; omega
   have hkn : (k : Int) < (n : Int) := by omega
   obtain ⟨x, hx⟩ : ∃ x, xs[k]? = some x := ⟨_, List.getElem?_eq_getElem (by omega)⟩
   obtain ⟨ad, hA, hc⟩ := sc_at HX.out k hlt x hx
   subst hA
   have HX := Lib.hid hx
   clear hx
   by_cases hxv : v = x
   ·
    have HT : Hid (findI (· == v) xs = k) := Lib.hid (findI_hit HX.out HN.out (by simp [hxv]))
    have d1 : (v == x) = true := by simp [hxv]
    clear hxv
    go_wp2_with fail
    go_ret
    exact ⟨ret_int HT.out.symm, rfl⟩
   ·
    have HG : Hid (∀ (j : Nat) (y : Int), j < k + 1 → xs[j]? = some y → (y == v) = false) := Lib.hid (fun j y hj hy => by
     rcases Nat.lt_succ_iff_lt_or_eq.1 hj with hj | rfl
     · exact HN.out j y hj hy
     ·
      rw [HX.out] at hy
      injection hy with hy
      rw [← hy]
      exact beq_eq_false_iff_ne.2 (fun e => hxv e.symm))
    have d1 : (v == x) = false := by simp [hxv]
    go_wp2_with fail
    go_roundw
    case rel => exact ⟨k + 1, by omega, by go_num, trivial, HG.out⟩
    case measure => simp [intOf]; omega
  ·
   obtain rfl : k = n := by omega
   have dl : decide ((k : Int) < (k : Int)) = false := by simp
   have HT : Hid (findI (· == v) xs = -1) := Lib.hid (findI_none (fun x hx => by
    obtain ⟨j, hj⟩ := List.getElem?_of_mem hx
    exact HN.out j x (by have := (List.getElem?_eq_some_iff.1 hj).1; omega) hj))
   go_wp2_with fail
   go_ret
   exact ⟨ret_int HT.out.symm, rfl⟩
theorem any_contains (xs : List Int) (v : Int) : xs.any (· == v) = xs.contains v := by
 rw [Bool.eq_iff_iff, List.any_eq_true, List.contains_iff_mem]
 exact ⟨fun ⟨x, h1, h2⟩ => by simp at h2; rw [← h2]; exact h1, fun h => ⟨v, h, by simp⟩⟩
theorem contains_ok (w : World) (A : Option Addr) (n c : Nat) (xs : List Int) (hx : i64K.C w A n xs) (hn : n < 2 ^ 40) (v : Int) : Calls Tryz.prog 94 #[.slice A n c, .int .i64 v] w fun e w' => e = .returned (.bool (xs.contains v)) ∧ w = w' := by
 have hc := index_ok w A n c xs hx hn v
 have HT := Lib.hid ((findI_any (p := (· == v)) xs).trans (any_contains xs v))
 generalize findI (· == v) xs = r at hc HT
 have HC := Lib.hid hc
 clear hc hx
 go_enter Tryz.func94, Tryz.ntmps94
 go_wp2_with (go_at_call 131; refine HC.out.mono ?_; rintro e w' ⟨rfl, rfl⟩)
 go_ret
 exact ⟨ret_bool HT.out, rfl⟩
theorem headTaken_ok (x : EP) (v : Int) (w : World) : Calls Tryz.prog 52 #[x.enc, .int .i64 v] w fun e w' => e = .returned (.bool (x.en.at_ == v)) ∧ Below w.heap.size w w' := by
 obtain ⟨⟨⟨x1, x2, x3, x4, x5, x6⟩, x7, xs⟩, ⟨x8, x9, x10⟩⟩ := x
 unfold EP.enc
 go_enter Tryz.func52, Tryz.ntmps52
 go_wp2_with fail
 go_ret
 exact ⟨rfl, ba _⟩
theorem dataTaken_ok (x : EP) (v : Int) (w : World) (hx : i64K.C w x.sl.A x.sl.n x.en.secs) (hn : x.sl.n < 2 ^ 40) : Calls Tryz.prog 54 #[x.enc, .int .i64 v] w fun e w' => e = .returned (.bool (x.en.secs.contains v)) ∧ Below w.heap.size w w' := by
 have HX := Lib.hid hx
 clear hx
 obtain ⟨⟨⟨x1, x2, x3, x4, x5, x6⟩, x7, xs⟩, ⟨x8, x9, x10⟩⟩ := x
 unfold EP.enc
 dsimp only at *
 go_enter Tryz.func54, Tryz.ntmps54
 go_wp2_with (go_at_call 94; refine (contains_ok _ x8 x9 x10 xs (Kd.C_below HX.out (ba _)) hn v).mono ?_; rintro e w' ⟨rfl, rfl⟩)
 go_ret
 exact ⟨ret_bool (by simp), ba _⟩
theorem containsFunc_ok (w : World) (own : Nat → Nat) (te : Nat) (z : Sl) (ps : List EP) (H : Ow enK 107 w own te z ps) (hl : ps.length < 2 ^ 40) (F : FuncId) (cs : Array Value) (p : EP → Bool) (hF : Pred F cs w ps p) (hE : ∀ args w, (callFunc F args).run Tryz.prog w = .ok (.enter F args) w) :
  Calls Tryz.prog 92 #[.slice z.A z.n z.c, .func (.func F) #[] cs] w fun e w' => e = .returned (.bool (ps.any p)) ∧ Below w.heap.size w w' := by
 have hc := indexFunc_ok w own te z ps H hl F cs p hF hE
 have HT := Lib.hid (findI_any (p := p) ps)
 generalize findI p ps = r at hc HT
 have HC := Lib.hid hc
 clear hc H hF hE
 go_enter Tryz.func92, Tryz.ntmps92
 go_wp2_with (go_at_call 129; refine HC.out.mono ?_; rintro e w' ⟨rfl, hb⟩)
 go_ret
 exact ⟨ret_bool HT.out, hb⟩
theorem find1_ok (x : EP) (n : ByteArray) (w : World) (nb : Nat) (hc : w.cell? ⟨nb, 0, none⟩ = some (.string n)) : Calls Tryz.prog 130 #[x.enc, .pointer (some ⟨nb, 0, none⟩)] w fun e w' => e = .returned (.bool (x.en.hd.name == n)) ∧ Below w.heap.size w w' := by
 obtain ⟨⟨⟨x1, x2, x3, x4, x5, x6⟩, x7, xs⟩, ⟨x8, x9, x10⟩⟩ := x
 unfold EP.enc
 have hlt := World.block_lt_of_cell? w _ hc
 dsimp only at hlt
 go_enter Tryz.func130, Tryz.ntmps130
 go_wp2_with fail
 go_ret
 exact ⟨ret_bool (beq_toListBytes x2 n).symm, ba _⟩
theorem cellB {w w1 : World} {a : Addr} {v : Value} (h : Below w.heap.size w w1) (hc : w.cell? a = some v) : w1.cell? a = some v := cellOf h hc
theorem find_ok (w : World) (own : Nat → Nat) (t te g : Nat) (a : AR) (H : ArA w own t te g a) (hl : a.ents.length < 2 ^ 40) (n : ByteArray) : Calls Tryz.prog 91 #[pt g, .string n] w (IdxP w (findI (fun e => e.hd.name == n) a.ents)) := by
 obtain ⟨z, ps, hg, hb, hs, he⟩ := H
 have hpl : ps.length < 2 ^ 40 := by rw [← he.1, List.length_map] at hl; exact hl
 have hmap : findI (fun e : EN => e.hd.name == n) a.ents = findI (fun p : EP => p.en.hd.name == n) ps := by
  rw [← he.1]
  clear he hs hb hpl
  induction ps with
  | nil => rfl
  | cons p ps ih => simp only [List.map_cons, findI, ih]
 rw [hmap]
 have hk := Kp.below (ts := fun _ => False) (own := own) (ba (w := w) (.cells #[.string n] 9)) 0
 have HC := Lib.hid (indexFunc_ok (w.alloc (.cells #[.string n] 9)) _ te z ps (hs.keep hk (fun q => q)) hpl 130 #[.pointer (some ⟨w.heap.size, 0, none⟩)] (fun p => p.en.hd.name == n) (fun x hx W hW => find1_ok x n W w.heap.size (cellB hW (Blk.cell (i := 0) (blkNew (w := w) rfl) rfl))) (enters 130 Tryz.func130 (by kernel_rfl) rfl))
 have c4 : w.cell? ⟨g, 4, none⟩ = some (.slice z.A z.n z.c) := Blk.cell (i := 4) hb rfl
 have hlt := Blk.lt hb
 have hE := enters 130 Tryz.func130 (by kernel_rfl) rfl
 clear hb hs he hg hmap hk
 go_enter Tryz.func91, Tryz.ntmps91
 go_wp2_with (go_at_call 129; refine HC.out.mono ?_; rintro e w' ⟨rfl, hb'⟩)
 go_ret
 exact ⟨rfl, (ba _).trans (hb'.mono (by simp))⟩
theorem free1_ok (x : EP) (F : FuncId) (v : Int) (r : Bool) (w : World) (fb nb : Nat) (hf : w.cell? ⟨fb, 0, none⟩ = some (.func (.func F) #[] #[])) (hc : w.cell? ⟨nb, 0, none⟩ = some (.int .i64 v))
  (hE : ∀ args w, (callFunc F args).run Tryz.prog w = .ok (.enter F args) w) (hF : ∀ W, Below w.heap.size w W → Calls Tryz.prog F #[x.enc, .int .i64 v] W fun e w' => e = .returned (.bool r) ∧ Below W.heap.size W w') :
  Calls Tryz.prog 93 #[x.enc, .pointer (some ⟨fb, 0, none⟩), .pointer (some ⟨nb, 0, none⟩)] w fun e w' => e = .returned (.bool r) ∧ Below w.heap.size w w' := by
 have HC := Lib.hid (hF (w.alloc (.cells x.cells.toArray 107)) (ba _))
 clear hF
 obtain ⟨⟨⟨x1, x2, x3, x4, x5, x6⟩, x7, xs⟩, ⟨x8, x9, x10⟩⟩ := x
 have h1 := World.block_lt_of_cell? w _ hf
 have h2 := World.block_lt_of_cell? w _ hc
 dsimp only at h1 h2
 unfold EP.enc at *
 go_enter Tryz.func93, Tryz.ntmps93
 go_wp2_with fail
 refine HC.out.mono ?_
 rintro e w' ⟨rfl, hb⟩
 go_wp2_with fail
 go_ret
 exact ⟨rfl, (ba _).trans (hb.mono (by simp))⟩
def freeS (tk : Nat → Bool) (frm til most : Nat) : List Nat := ((List.range' frm (til - frm)).filter (fun n => !tk n)).take most
def frS (tk : Nat → Bool) (frm n : Nat) : List Nat := (List.range' frm (n - frm)).filter (fun n => !tk n)
theorem frS_succ (tk : Nat → Bool) (frm n : Nat) (h : frm ≤ n) : frS tk frm (n + 1) = frS tk frm n ++ if tk n then [] else [n] := by
 unfold frS
 rw [show n + 1 - frm = (n - frm) + 1 from by omega, List.range'_concat, List.filter_append]
 rw [show frm + 1 * (n - frm) = n from by omega]
 cases h : tk n <;> simp [h]
theorem frS_pre (tk : Nat → Bool) (frm : Nat) : ∀ (d n : Nat), frm ≤ n → ∃ l, frS tk frm (n + d) = frS tk frm n ++ l
 | 0, n, _ => ⟨[], by simp⟩
 | d + 1, n, h => by
  obtain ⟨l, hl⟩ := frS_pre tk frm d (n + 1) (by omega)
  rw [frS_succ tk frm n h, List.append_assoc] at hl
  exact ⟨_, by rw [show n + (d + 1) = n + 1 + d from by omega]; exact hl⟩
theorem free_end (tk : Nat → Bool) {frm til most n : Nat} (h1 : frm ≤ n) (h2 : n ≤ til ∨ n = frm) (h3 : (frS tk frm n).length ≤ most) (h : til ≤ n ∨ most ≤ (frS tk frm n).length) : frS tk frm n = freeS tk frm til most := by
 have e : freeS tk frm til most = (frS tk frm til).take most := rfl
 rw [e]
 rcases Nat.lt_or_ge n til with hlt | hge
 ·
  have hm : (frS tk frm n).length = most := by omega
  obtain ⟨l, hl⟩ := frS_pre tk frm (til - n) n h1
  rw [show n + (til - n) = til from by omega] at hl
  rw [hl, List.take_append_of_le_length (by omega), List.take_of_length_le (by omega)]
 ·
  rcases h2 with h2 | rfl
  ·
   obtain rfl : n = til := by omega
   rw [List.take_of_length_le h3]
  ·
   have : frS tk n til = [] := by unfold frS; rw [show til - n = 0 from by omega]; rfl
   rw [this]
   unfold frS
   simp
theorem ow_append {α : Type} (d : Kd α) {ops : Array Oper} {rest : List Oper} {o : Oper} {a : Act} {Q : Exit → Act → World → Prop} {W : World} (hgd : o.guard = none) (s x : Operand) (t e : TypeId) (z : Value) (bytes : Nat)
  (ho : o.op = .call { callee := .builtin .append, args := #[s, x], argTypes := #[t, t] })
  (ht : Tryz.prog.underlying t = some (.slice e)) (hinfo : (Tryz.prog.info? e).map (fun i => (i.zero, i.size, i.bytes)) = some (some z, d.sz, bytes)) (hz : z.cells.size = d.sz) (hs0 : 0 < d.sz) (hb0 : 0 < bytes)
  (v : Sl) (xs : List α) (p : α) (cs : List Value) (own : Nat → Nat) (tg : Nat) (hs : a.eval s = v.enc) (hx : a.eval x = .slice (some ⟨W.heap.size, 0, none⟩) 1 1) (hp : d.M W 0 (fun _ => False) p cs)
  (HO : Ow d e W own tg v xs) (hl : (xs.length + 1) * bytes ≤ 140737488355328)
  (h : ∀ (s1 : Sl) (w1 : World), Ow d e w1 (tagged W own tg) tg s1 (xs ++ [p]) → Kp (fun q => q = tg) W own w1 (tagged W own tg) → wpList Tryz.prog ops Q rest (a.put o.dst s1.enc) w1) :
  wpList Tryz.prog ops Q (o :: rest) a (W.alloc (.cells cs.toArray e)) :=
 Kd.R_append d (w0 := W) 0 hgd s x t e z bytes ho ht hinfo hz hs0 hb0 v.enc xs p cs (fun k => tagged W own tg k = tg) (fun _ => False) hs hx hp (fun _ hk => hk.elim) (fun q hq => tagged_new hq) (Ow.alloc HO (Below.refl _ _)) (Below.refl 0 _) (Nat.zero_le _) hl (by
  intro v1 w1 h1 h2 h3 h4
  obtain ⟨s1, rfl, g1, g2⟩ := Ow.pushed HO (Below.refl _ _) h1 h3
  exact h s1 w1 g1 g2)
theorem info3 : (Tryz.prog.info? 3).map (fun i => (i.zero, i.size, i.bytes)) = some (some (.int .i64 0), 1, 8) := by kernel_rfl
structure FrSt (w : World) (fb : Nat) (F : FuncId) (W : World) (o : Nat → Nat) (nb : Nat) (n : Int) (s : Sl) (out : List Int) : Prop where
 ow : Ow i64K 3 W o 1 s out
 bn : Blk W nb #[.int .i64 n] 3
 on : o nb = 2
 bf : Blk W fb #[.func (.func F) #[] #[]] 111
 of : o fb = 2
 kp : Kp (fun q => q = 1 ∨ q = 2) w (fun _ => 0) W o
theorem FrSt.start (w : World) (F : FuncId) (n : Int) : FrSt w w.heap.size F ((w.alloc (.cells #[.func (.func F) #[] #[]] 111)).alloc (.cells #[.int .i64 n] 3)) (tagged w (fun _ => 0) 2) (w.heap.size + 1) n nilS [] :=
  ⟨Kd.R_nil _ _ _ _ _, blkNew (by simp), tagged_new (by omega), (blkNew (w := w) rfl).below (ba _), tagged_new (by omega), (Kp.below (ts := fun q => q = 1 ∨ q = 2) (own := fun _ => 0) ((ba (w := w) (.cells #[.func (.func F) #[] #[]] 111)).alloc (by simp) (.cells #[.int .i64 n] 3)) 2)⟩
theorem FrSt.below {w W W' : World} {fb nb : Nat} {F : FuncId} {o : Nat → Nat} {n : Int} {s : Sl} {out : List Int} (H : FrSt w fb F W o nb n s out) (h : Below W.heap.size W W') : FrSt w fb F W' (tagged W o 2) nb n s out := by
 have hk := Kp.below (ts := fun q => q = 2) (own := o) h 2
 have hk0 := Kp.below (ts := fun _ => False) (own := o) h 2
 exact ⟨H.ow.keep hk (by omega), H.bn.below h, (tagged_old (Blk.lt H.bn)).trans H.on, H.bf.below h, (tagged_old (Blk.lt H.bf)).trans H.of, H.kp.trans (hk.mono (fun q hq => .inr hq))⟩
theorem FrSt.push {w W W' : World} {fb nb : Nat} {F : FuncId} {o o' : Nat → Nat} {n : Int} {s s' : Sl} {out out' : List Int} (H : FrSt w fb F W o nb n s out) (h : Ow i64K 3 W' o' 1 s' out') (hk : Kp (fun q => q = 1) W o W' o') : FrSt w fb F W' o' nb n s' out' := by
 obtain ⟨b1, b2⟩ := H.bn.keep hk (by rw [H.on]; omega)
 obtain ⟨b3, b4⟩ := H.bf.keep hk (by rw [H.of]; omega)
 exact ⟨h, b1, b2.trans H.on, b3, b4.trans H.of, H.kp.trans (hk.mono (fun q hq => .inl hq))⟩
theorem FrSt.fresh {w W : World} {fb nb : Nat} {F : FuncId} {o : Nat → Nat} {n : Int} {s : Sl} {out : List Int} (H : FrSt w fb F W o nb n s out) (m : Int) : FrSt w fb F (W.alloc (.cells #[.int .i64 m] 3)) (tagged W o 2) W.heap.size m s out := by
 have h := H.below (ba (w := W) (.cells #[.int .i64 m] 3))
 exact ⟨h.ow, blkNew rfl, tagged_new (Nat.le_refl _), h.bf, h.of, h.kp⟩
def FreeP (w : World) (xs : List Int) (e : Ending) (w' : World) : Prop := ∃ (s : Sl) (o : Nat → Nat), e = .returned s.enc ∧ Ow i64K 3 w' o 1 s xs ∧ Kp (fun q => q = 1 ∨ q = 2) w (fun _ => 0) w' o
theorem kp_below {ts : Nat → Prop} {w w' : World} {o : Nat → Nat} (h : Kp ts w (fun _ => 0) w' o) (h0 : ¬ ts 0) : Below w.heap.size w w' := ⟨h.os, h.tape, h.output, h.size, fun k hk => (h.block k hk h0).2⟩
theorem FrSt.any {w W : World} {fb nb : Nat} {F : FuncId} {o : Nat → Nat} {n : Int} {s : Sl} {out : List Int} (H : FrSt w fb F W o nb n s out) {own : Nat → Nat} {te : Nat} {z : Sl} {ps : List EP} (hs : Ow enK 107 w own te z ps) (hl : ps.length < 2 ^ 40) (tk : EP → Int → Bool)
  (hE : ∀ args w, (callFunc F args).run Tryz.prog w = .ok (.enter F args) w) (hF : ∀ x ∈ ps, ∀ (v : Int) (W : World), Below w.heap.size w W → Calls Tryz.prog F #[x.enc, .int .i64 v] W fun e w' => e = .returned (.bool (tk x v)) ∧ Below W.heap.size W w') :
  Calls Tryz.prog 92 #[.slice z.A z.n z.c, .func (.func 93) #[] #[.pointer (some ⟨fb, 0, none⟩), .pointer (some ⟨nb, 0, none⟩)]] W fun e w' => e = .returned (.bool (ps.any (fun x => tk x n))) ∧ Below W.heap.size W w' := by
 have hb := kp_below H.kp (by omega)
 refine containsFunc_ok W (tagged w own 0) te z ps (hs.keep (Kp.below (ts := fun _ => False) hb 0) (fun q => q)) hl 93 _ _ (fun x hx W' hW' => ?_) (enters 93 Tryz.func93 (by kernel_rfl) rfl)
 exact free1_ok x F n (tk x n) W' fb nb (cellOf hW' (Blk.cell (i := 0) H.bf rfl)) (cellOf hW' (Blk.cell (i := 0) H.bn rfl)) hE (fun W2 hW2 => hF x hx n W2 ((hb.trans (hW'.mono hb.size)).trans (hW2.mono (Nat.le_trans hb.size hW'.size))))
set_option maxRecDepth 100000 in
set_option maxHeartbeats 2000000 in
theorem free_ok (w : World) (own : Nat → Nat) (t te g : Nat) (z : Sl) (c0 c1 c2 c3 : Value) (ps : List EP) (hb : Blk w g #[c0, c1, c2, c3, z.enc] 102) (hs : Ow enK 107 w own te z ps) (hl : ps.length < 2 ^ 40) (frm til most : Nat) (h0 : frm < 2 ^ 40) (h1 : til < 2 ^ 40) (h2 : most < 2 ^ 40) (F : FuncId) (tk : EP → Int → Bool)
  (hE : ∀ args w, (callFunc F args).run Tryz.prog w = .ok (.enter F args) w) (hF : ∀ x ∈ ps, ∀ (v : Int) (W : World), Below w.heap.size w W → Calls Tryz.prog F #[x.enc, .int .i64 v] W fun e w' => e = .returned (.bool (tk x v)) ∧ Below W.heap.size W w') :
  Calls Tryz.prog 51 #[pt g, .int .i64 (frm : Int), .int .i64 (til : Int), .int .i64 (most : Int), .func (.func F) #[] #[]] w (FreeP w ((freeS (fun n : Nat => ps.any (fun x => tk x (n : Int))) frm til most).map (fun n : Nat => (n : Int)))) := by
 have hE93 := enters 93 Tryz.func93 (by kernel_rfl) rfl
 have HS := Lib.hid (FrSt.start w F frm)
 have HB := Lib.hid hb
 have HW := Lib.hid hs
 have HF := Lib.hid hF
 have HE := Lib.hid hE
 clear hb hs hF hE
 go_enter Tryz.func51, Tryz.ntmps51
 go_upto_region 3 with (fail)
 have hfb : w.heap.size < w.heap.size + 1 := Nat.lt_succ_self _
 have HI : Hid (∃ n o nb s, (til - frm = til - n) ∧ frm ≤ n ∧ (n ≤ til ∨ n = frm) ∧ w.heap.size < nb ∧ (Value.pointer (some ⟨w.heap.size + 1, 0, none⟩)) = .pointer (some ⟨nb, 0, none⟩) ∧ Value.slice none 0 0 = .slice s.A s.n s.c ∧ FrSt w w.heap.size F ((w.alloc (.cells #[.func (.func F) #[] #[]] 111)).alloc (.cells #[.int .i64 (frm : Int)] 3)) o nb (n : Int) s ((frS (fun n : Nat => ps.any (fun x => tk x (n : Int))) frm n).map (fun n : Nat => (n : Int))) ∧ (frS (fun n : Nat => ps.any (fun x => tk x (n : Int))) frm n).length ≤ most) := Lib.hid ⟨frm, _, _, nilS, rfl, by omega, .inr rfl, hfb, rfl, rfl, by
  have e : frS (fun n : Nat => ps.any (fun x => tk x (n : Int))) frm frm = [] := by unfold frS; simp
  rw [e]
  exact HS.out, by unfold frS; simp⟩
 clear HS
 generalize hwh : w.heap.size = wh at *
 go_loopg [12, 11] (til - frm) (fun kq p v wr => ∃ n o nb s, (kq = til - n) ∧ frm ≤ n ∧ (n ≤ til ∨ n = frm) ∧ wh < nb ∧ p = .pointer (some ⟨nb, 0, none⟩) ∧ v = .slice s.A s.n s.c ∧ FrSt w wh F wr o nb (n : Int) s ((frS (fun n : Nat => ps.any (fun x => tk x (n : Int))) frm n).map (fun n : Nat => (n : Int))) ∧ (frS (fun n : Nat => ps.any (fun x => tk x (n : Int))) frm n).length ≤ most)
 case atStart => exact HI.out
 case round =>
  clear HI
  obtain ⟨n, o, nb, s, hk, hn1, hn2, hnb, rfl, rfl, HR, hlen⟩ := hrel
  have hsn : s.n = (frS (fun n : Nat => ps.any (fun x => tk x (n : Int))) frm n).length := by have := (ow_len HR.ow).1; rw [List.length_map] at this; exact this.symm
  have hnl : n < 2 ^ 41 := by omega
  have c4 : wr.cell? ⟨nb, 0, none⟩ = some (.int .i64 (n : Int)) := Blk.cell (i := 0) HR.bn rfl
  have hsucc := frS_succ (fun n : Nat => ps.any (fun x => tk x (n : Int))) frm n hn1
  have HX := Lib.hid (fun h => free_end (fun n : Nat => ps.any (fun x => tk x (n : Int))) (til := til) hn1 hn2 hlen h)
  by_cases h3 : n < til
  ·
   have d1 : decide ((n : Int) < (til : Int)) = true := by simp; omega
   by_cases h4 : s.n < most
   ·
    have d2 : decide ((s.n : Int) < (most : Int)) = true := by simp; omega
    have hsm : (s.n : Int) < (most : Int) := by omega
    have hbl := kp_below HR.kp (by omega)
    have ce : wr.cell? ⟨g, 4, none⟩ = some (.slice z.A z.n z.c) := cellOf hbl (Blk.cell (i := 4) HB.out rfl)
    have HA := Lib.hid (HR.any HW.out hl tk HE.out (by rw [hwh]; exact HF.out))
    have HR1 := Lib.hid HR
    have HL := Lib.hid hlen
    have HQ := Lib.hid hsn
    clear HR hlen hsn hbl
    cases ht : ps.any (fun x => tk x (n : Int))
    ·
     rw [ht] at HA hsucc
     have HU := Lib.hid hsucc
     clear hsucc ht
     have HLn := Lib.hid (show (((frS (fun n : Nat => ps.any (fun x => tk x (n : Int))) frm n).map (fun n : Nat => (n : Int))).length + 1) * 8 ≤ 140737488355328 by rw [List.length_map]; have := HL.out; omega)
     go_wp2_with (first | (go_at_call 92; refine HA.out.mono ?_; rintro e w2 ⟨rfl, hb2⟩; have HR2 := Lib.hid (HR1.out.below hb2); have c5 : w2.cell? ⟨nb, 0, none⟩ = some (.int .i64 (n : Int)) := Blk.cell (i := 0) HR2.out.bn rfl; clear hb2) | (at_builtin; refine ow_append i64K rfl (.tmp 32) (.tmp 34) 53 3 (.int .i64 0) 8 rfl Tryz.underlying53 info3 rfl (by decide) (by decide) s _ (n : Int) [.int .i64 (n : Int)] (tagged wr o 2) 1 rfl rfl rfl HR2.out.ow HLn.out ?_; intro s1 w3 h5 h6; have HR3 := Lib.hid (HR2.out.push h5 h6); have c6 : w3.cell? ⟨nb, 0, none⟩ = some (.int .i64 (n : Int)) := Blk.cell (i := 0) HR3.out.bn rfl; clear h5 h6 c5; unfold Sl.enc))
     go_roundg (til - (n + 1))
     case measure => omega
     case rel => exact ⟨n + 1, _, _, s1, rfl, by omega, .inl (by omega), Blk.lt HR3.out.bf, rfl, rfl, by rw [HU.out, List.map_append]; exact HR3.out.fresh ((n : Int) + 1), by rw [HU.out, List.length_append]; have := HQ.out; simp; omega⟩
    ·
     rw [ht] at HA hsucc
     have HU := Lib.hid hsucc
     clear hsucc ht
     go_wp2_with (go_at_call 92; refine HA.out.mono ?_; rintro e w2 ⟨rfl, hb2⟩; have HR2 := Lib.hid (HR1.out.below hb2); have c5 : w2.cell? ⟨nb, 0, none⟩ = some (.int .i64 (n : Int)) := Blk.cell (i := 0) HR2.out.bn rfl; clear hb2)
     go_roundg (til - (n + 1))
     case measure => omega
     case rel => exact ⟨n + 1, _, _, s, rfl, by omega, .inl (by omega), Blk.lt HR2.out.bf, rfl, rfl, by rw [HU.out, if_pos trivial, List.append_nil]; exact HR2.out.fresh ((n : Int) + 1), by rw [HU.out, if_pos trivial, List.append_nil]; exact HL.out⟩
   ·
    have d2 : decide ((s.n : Int) < (most : Int)) = false := by simp; omega
    have HE1 := Lib.hid HR
    have HX1 := Lib.hid (HX.out (.inr (by omega)))
    clear hsucc HR hlen hsn HX
    go_wp2_with fail
    go_ret
    exact ⟨s, o, rfl, by rw [← HX1.out]; exact HE1.out.ow, HE1.out.kp⟩
  ·
   have d1 : decide ((n : Int) < (til : Int)) = false := by simp; omega
   have HE1 := Lib.hid HR
   have HX1 := Lib.hid (HX.out (.inl (by omega)))
   clear hsucc HR hlen hsn HX
   go_wp2_with fail
   go_ret
   exact ⟨s, o, rfl, by rw [← HX1.out]; exact HE1.out.ow, HE1.out.kp⟩
end Go.Proofs.YtmofiicjaldmiaaGreatDoor.SvN
end
section
namespace Go.Proofs.YtmofiicjaldmiaaGreatDoor.SvO
open Go.RowKit Go.Shelf YtmofiicjaldmiaaGreatDoorW.PrintWords YtmofiicjaldmiaaGreatDoorW.PrintLast SvA SvB SvC SvD SvE SvF SvG SvH SvI SvJ SvK SvL SvM SvN
set_option linter.unusedVariables false
set_option linter.unusedSimpArgs false
theorem sta_drew {w : World} {own : Nat → Nat} {t g : Nat} {b : BS} (h : StA w own t g b) : StA w.drew own t g b := h
structure Fits (b : BS) : Prop where
 hz : b.safe.length < 2 ^ 40
 hp : b.pend.length < 2 ^ 40
set_option maxRecDepth 100000 in
set_option maxHeartbeats 1000000 in
theorem sread_ok (w : World) (own : Nat → Nat) (t gs : Nat) (b : BS) (H : StA w own t gs b) (g ga frm n : Nat) (cg : w.cell? ⟨g, 0, none⟩ = some (pt gs)) (ca : w.cell? ⟨ga, 1, none⟩ = some (.int .i64 (frm : Int))) (hi : frm + n < b.n) (hf : Fits b) :
  Calls Tryz.prog 125 #[pt g, pt ga, .int .i64 (n : Int)] w (FreshP w 512 (b.read (frm + n))) := by
 obtain ⟨hz, hp⟩ := hf
 have hbn : b.n < 2 ^ 40 := by unfold BS.n; omega
 have HH := Lib.hid H
 have HW := Lib.hid (show w.drew.heap.size = w.heap.size from rfl)
 clear H
 go_enter Tryz.func125, Tryz.ntmps125
 go_upto_region 1 with (fail)
 refine start_ (n := 16) (S := fun w' => w'.cell? ⟨g, 0, none⟩ = some (.pointer (some ⟨gs, 0, none⟩)) ∧ w'.cell? ⟨ga, 1, none⟩ = some (.int .i64 (frm : Int))) (ds := []) #[false, false, false, false, false, false, false, false, false, false, false, false, false, false, false, false] (by kernel_rfl) rfl rfl ⟨cg, ca⟩ (fun hHeld => ?_)
 refine pu_ (i := 0) (N := some 10) (v := ?_) (a' := ?_) rfl rfl (by kernel_rfl) (fun _ _ _ h => h) (by rfl) ?_ ?_ ?_
 rotate_left
 · (intro w'; go_simp; with_reducible rfl)
 rotate_left
 · (simp only [put_s, List.set, i64_w, i32_w]; rfl)
 refine pu_ (i := 1) (N := some 11) (v := ?_) (a' := ?_) rfl rfl (by kernel_rfl) (fun _ _ _ h => h) (by rfl) ?_ ?_ ?_
 rotate_left
 · (intro w'; go_simp; with_reducible rfl)
 rotate_left
 · (simp only [put_s, List.set, i64_w, i32_w]; rfl)
 refine pu_ (i := 2) (N := some 12) (v := ?_) (a' := ?_) rfl rfl (by kernel_rfl) (fun _ _ _ h => h) (by rfl) ?_ ?_ ?_
 rotate_left
 · (intro w'; go_simp; with_reducible rfl)
 rotate_left
 · (simp only [put_s, List.set, i64_w, i32_w]; rfl)
 refine tk_ (i := 3) (N := some 13) (v := ?_) (a' := ?_) rfl rfl (by kernel_rfl) (fun _ _ _ h => h) (by rfl) ?_ hHeld ?_ ?_
 rotate_left
 ·
  intro w' s0
  have q1 := s0.1
  go_simp
  with_reducible rfl
 rotate_left
 · (simp only [put_s, List.set, i64_w, i32_w]; rfl)
 refine pu_ (i := 4) (N := some 14) (v := ?_) (a' := ?_) rfl rfl (by kernel_rfl) (fun _ _ _ h => h) (by rfl) ?_ ?_ ?_
 rotate_left
 · (intro w'; go_simp; with_reducible rfl)
 rotate_left
 · (simp only [put_s, List.set, i64_w, i32_w]; rfl)
 refine pu_ (i := 5) (N := some 15) (v := ?_) (a' := ?_) rfl rfl (by kernel_rfl) (fun _ _ _ h => h) (by rfl) ?_ ?_ ?_
 rotate_left
 · (intro w'; go_simp; with_reducible rfl)
 rotate_left
 · (simp only [put_s, List.set, i64_w, i32_w]; rfl)
 refine pu_ (i := 6) (N := some 16) (v := ?_) (a' := ?_) rfl rfl (by kernel_rfl) (fun _ _ _ h => h) (by rfl) ?_ ?_ ?_
 rotate_left
 · (intro w'; go_simp; with_reducible rfl)
 rotate_left
 · (simp only [put_s, List.set, i64_w, i32_w]; rfl)
 refine tk_ (i := 7) (N := some 17) (v := ?_) (a' := ?_) rfl rfl (by kernel_rfl) (fun _ _ _ h => h) (by rfl) ?_ hHeld ?_ ?_
 rotate_left
 ·
  intro w' s0
  have q1 := s0.2
  go_simp
  with_reducible rfl
 rotate_left
 · (simp only [put_s, List.set, i64_w, i32_w]; rfl)
 refine pu_ (i := 8) (N := some 18) (v := ?_) (a' := ?_) rfl rfl (by kernel_rfl) (fun _ _ _ h => h) (by rfl) ?_ ?_ ?_
 rotate_left
 · (intro w'; go_simp; with_reducible rfl)
 rotate_left
 · (simp only [put_s, List.set, i64_w, i32_w]; rfl)
 refine pu_ (i := 9) (N := some 19) (v := ?_) (a' := ?_) rfl rfl (by kernel_rfl) (fun _ _ _ h => h) (by rfl) ?_ ?_ ?_
 rotate_left
 · (intro w'; go_simp; with_reducible rfl)
 rotate_left
 · (simp only [put_s, List.set, i64_w, i32_w]; rfl)
 refine on_ (i := 10) (N := some 20) rfl rfl (by kernel_rfl) (by decide) (fun K hK => ?_)
 refine goes_ Tryz.func157 (by kernel_rfl) rfl #[pt gs, .int .i64 ((frm + n : Nat) : Int)] (by first | rfl | (simp [Act.eval]; done)) rfl rfl (by first | rfl | (simp [Act.eval]; done) | (simp [Act.eval, wrap64]; omega)) ?_
 refine Calls.mono (read_ok _ own t gs b (sta_drew HH.out) (frm + n) hi hz trivial hp) ?_
 rintro e w2 ⟨A, rfl, f1, f2, f3⟩
 refine ⟨_, rfl, ?_⟩
 refine hK.out _ _ ⟨cellOf f3 hHeld.1, cellOf f3 hHeld.2⟩ (fun hHeld => ?_)
 clear hK K
 refine norm_ (a' := ?_) ?_ ?_
 rotate_left
 ·
  show Act.put _ (some 20) _ = _
  simp only [put_s, List.set, i64_w, i32_w]
  rfl
 refine pu_ (i := 11) (N := some 9) (v := ?_) (a' := ?_) rfl rfl (by kernel_rfl) (fun _ _ _ h => h) (by rfl) ?_ ?_ ?_
 rotate_left
 · (intro w'; go_simp; with_reducible rfl)
 rotate_left
 · (simp only [put_s, List.set, i64_w, i32_w]; rfl)
 refine pu_ (i := 12) (N := some 21) (v := ?_) (a' := ?_) rfl rfl (by kernel_rfl) (fun _ _ _ h => h) (by rfl) ?_ ?_ ?_
 rotate_left
 · (intro w'; go_simp; with_reducible rfl)
 rotate_left
 · (simp only [put_s, List.set, i64_w, i32_w]; rfl)
 refine pu_ (i := 13) (N := some 22) (v := ?_) (a' := ?_) rfl rfl (by kernel_rfl) (fun _ _ _ h => h) (by rfl) ?_ ?_ ?_
 rotate_left
 · (intro w'; go_simp; with_reducible rfl)
 rotate_left
 · (simp only [put_s, List.set, i64_w, i32_w]; rfl)
 refine pu_ (i := 14) (N := some 7) (v := ?_) (a' := ?_) rfl rfl (by kernel_rfl) (fun _ _ _ h => h) (by rfl) ?_ ?_ ?_
 rotate_left
 · (intro w'; go_simp; with_reducible rfl)
 rotate_left
 · (simp only [put_s, List.set, i64_w, i32_w]; rfl)
 refine pu_ (i := 15) (N := some 8) (v := ?_) (a' := ?_) rfl rfl (by kernel_rfl) (fun _ _ _ h => h) (by rfl) ?_ ?_ ?_
 rotate_left
 · (intro w'; go_simp; with_reducible rfl)
 rotate_left
 · (simp only [put_s, List.set, i64_w, i32_w]; rfl)
 refine done_ (by kernel_rfl) ?_
 have HE := Lib.hid (show FreshP w 512 (b.read (frm + n)) (.returned (.slice A 512 512)) w2 from ⟨A, rfl, f1, f2, ⟨f3.os, f3.tape, f3.output, f3.size, f3.block⟩⟩)
 clear f1 f2 f3
 go_wp2_with fail
 go_ret
 exact HE.out
def refusedV : Value := .iface 144 (.agg #[.int .i64 101])
set_option maxRecDepth 100000 in
set_option maxHeartbeats 1000000 in
theorem swrite_ok (w : World) (own : Nat → Nat) (t gs : Nat) (b : BS) (H : StA w own t gs b) (g ga frm n : Nat) (cg : w.cell? ⟨g, 0, none⟩ = some (pt gs)) (ca : w.cell? ⟨ga, 1, none⟩ = some (.int .i64 (frm : Int))) (hi : frm + n < b.n) (hf : Fits b)
  (A : Option Addr) (c : Nat) (data : List Int) (ht : t ≠ 0) (td : Nat) (htd : td ≠ t) (hda : Rd u8K w own td ⟨A, 512, c⟩ data) (hful : BS.full b = false) :
  Calls Tryz.prog 95 #[pt g, pt ga, .int .i64 (n : Int), .slice A 512 c] w fun e w' => e = .returned .nilIface ∧ ∃ own', StA w' own' t gs (b.put ((frm + n : Nat) : Int) data) ∧ Kp (fun q => q = t ∨ q = t + 2) w own w' own' := by
 obtain ⟨hz, hp⟩ := hf
 have hbn : b.n < 2 ^ 40 := by unfold BS.n; omega
 have HH := Lib.hid H
 have HD := Lib.hid hda
 have HF := Lib.hid hful
 clear H hda hful
 go_enter Tryz.func95, Tryz.ntmps95
 go_upto_region 1 with (fail)
 refine start_ (n := 13) (S := fun w' => w'.cell? ⟨g, 0, none⟩ = some (.pointer (some ⟨gs, 0, none⟩)) ∧ w'.cell? ⟨ga, 1, none⟩ = some (.int .i64 (frm : Int))) (ds := [11, 12]) #[false, false, false, false, false, false, false, false, false, false, false, false, false] (by kernel_rfl) rfl rfl ⟨cg, ca⟩ (fun hHeld => ?_)
 refine pu_ (i := 0) (N := some 10) (v := ?_) (a' := ?_) rfl rfl (by kernel_rfl) (fun _ _ _ h => h) (by rfl) ?_ ?_ ?_
 rotate_left
 · (intro w'; go_simp; with_reducible rfl)
 rotate_left
 · (simp only [put_s, List.set, i64_w, i32_w]; rfl)
 refine pu_ (i := 1) (N := some 11) (v := ?_) (a' := ?_) rfl rfl (by kernel_rfl) (fun _ _ _ h => h) (by rfl) ?_ ?_ ?_
 rotate_left
 · (intro w'; go_simp; with_reducible rfl)
 rotate_left
 · (simp only [put_s, List.set, i64_w, i32_w]; rfl)
 refine pu_ (i := 2) (N := some 12) (v := ?_) (a' := ?_) rfl rfl (by kernel_rfl) (fun _ _ _ h => h) (by rfl) ?_ ?_ ?_
 rotate_left
 · (intro w'; go_simp; with_reducible rfl)
 rotate_left
 · (simp only [put_s, List.set, i64_w, i32_w]; rfl)
 refine tk_ (i := 3) (N := some 13) (v := ?_) (a' := ?_) rfl rfl (by kernel_rfl) (fun _ _ _ h => h) (by rfl) ?_ hHeld ?_ ?_
 rotate_left
 ·
  intro w' s0
  have q1 := s0.1
  go_simp
  with_reducible rfl
 rotate_left
 · (simp only [put_s, List.set, i64_w, i32_w]; rfl)
 refine pu_ (i := 4) (N := some 14) (v := ?_) (a' := ?_) rfl rfl (by kernel_rfl) (fun _ _ _ h => h) (by rfl) ?_ ?_ ?_
 rotate_left
 · (intro w'; go_simp; with_reducible rfl)
 rotate_left
 · (simp only [put_s, List.set, i64_w, i32_w]; rfl)
 refine pu_ (i := 5) (N := some 15) (v := ?_) (a' := ?_) rfl rfl (by kernel_rfl) (fun _ _ _ h => h) (by rfl) ?_ ?_ ?_
 rotate_left
 · (intro w'; go_simp; with_reducible rfl)
 rotate_left
 · (simp only [put_s, List.set, i64_w, i32_w]; rfl)
 refine pu_ (i := 6) (N := some 16) (v := ?_) (a' := ?_) rfl rfl (by kernel_rfl) (fun _ _ _ h => h) (by rfl) ?_ ?_ ?_
 rotate_left
 · (intro w'; go_simp; with_reducible rfl)
 rotate_left
 · (simp only [put_s, List.set, i64_w, i32_w]; rfl)
 refine tk_ (i := 7) (N := some 17) (v := ?_) (a' := ?_) rfl rfl (by kernel_rfl) (fun _ _ _ h => h) (by rfl) ?_ hHeld ?_ ?_
 rotate_left
 ·
  intro w' s0
  have q1 := s0.2
  go_simp
  with_reducible rfl
 rotate_left
 · (simp only [put_s, List.set, i64_w, i32_w]; rfl)
 refine pu_ (i := 8) (N := some 18) (v := ?_) (a' := ?_) rfl rfl (by kernel_rfl) (fun _ _ _ h => h) (by rfl) ?_ ?_ ?_
 rotate_left
 · (intro w'; go_simp; with_reducible rfl)
 rotate_left
 · (simp only [put_s, List.set, i64_w, i32_w]; rfl)
 refine pu_ (i := 9) (N := some 19) (v := ?_) (a' := ?_) rfl rfl (by kernel_rfl) (fun _ _ _ h => h) (by rfl) ?_ ?_ ?_
 rotate_left
 · (intro w'; go_simp; with_reducible rfl)
 rotate_left
 · (simp only [put_s, List.set, i64_w, i32_w]; rfl)
 refine pu_ (i := 10) (N := some 20) (v := ?_) (a' := ?_) rfl rfl (by kernel_rfl) (fun _ _ _ h => h) (by rfl) ?_ ?_ ?_
 rotate_left
 · (intro w'; go_simp; with_reducible rfl)
 rotate_left
 · (simp only [put_s, List.set, i64_w, i32_w]; rfl)
 refine la_ (i := 11) (N := some 21) rfl rfl (by kernel_rfl) (by decide) (fun K hK => ?_)
 refine goes_ Tryz.func69 (by kernel_rfl) rfl #[pt gs, .int .i64 ((frm + n : Nat) : Int), .slice A 512 c] (by first | rfl | (simp [Act.eval]; done)) rfl rfl (by first | rfl | (simp [Act.eval]; done) | (simp [Act.eval, wrap64]; omega)) ?_
 refine Calls.mono (write_ok _ own t gs b (sta_drew HH.out) (frm + n) A c data hi hz hp ht td htd HD.out HF.out) ?_
 rintro e w2 ⟨rfl, own', f1, f2⟩
 refine ⟨_, rfl, ?_⟩
 refine hK.out _ _ ?_
 clear hK K
 refine norm_ (a' := ?_) ?_ ?_
 rotate_left
 ·
  show Act.put _ (some 21) _ = _
  simp only [put_s, List.set, i64_w, i32_w]
  rfl
 refine pu_ (i := 12) (N := some 9) (v := ?_) (a' := ?_) rfl rfl (by kernel_rfl) (fun _ _ _ h => h) (by rfl) ?_ ?_ ?_
 rotate_left
 · (intro w'; go_simp; with_reducible rfl)
 rotate_left
 · (simp only [put_s, List.set, i64_w, i32_w]; rfl)
 refine done_ (by kernel_rfl) ?_
 have HE := Lib.hid (show ∃ own', StA w2 own' t gs (b.put ((frm + n : Nat) : Int) data) ∧ Kp (fun q => q = t ∨ q = t + 2) w own w2 own' from ⟨own', f1, (Kp.refl _ w own).drew.trans f2⟩)
 clear f1 f2
 go_wp2_with fail
 go_ret
 exact ⟨rfl, HE.out⟩
set_option maxRecDepth 100000 in
set_option maxHeartbeats 1000000 in
theorem swrite_full (w : World) (own : Nat → Nat) (t gs : Nat) (b : BS) (H : StA w own t gs b) (g ga frm n : Nat) (cg : w.cell? ⟨g, 0, none⟩ = some (pt gs)) (ca : w.cell? ⟨ga, 1, none⟩ = some (.int .i64 (frm : Int))) (hi : frm + n < b.n) (hf : Fits b)
  (A : Option Addr) (c : Nat) (hful : BS.full b = true) :
  Calls Tryz.prog 95 #[pt g, pt ga, .int .i64 (n : Int), .slice A 512 c] w fun e w' => e = .returned refusedV ∧ ∃ k, w' = w.drewN k := by
 obtain ⟨hz, hp⟩ := hf
 have hbn : b.n < 2 ^ 40 := by unfold BS.n; omega
 have HH := Lib.hid H
 have HF := Lib.hid hful
 clear H hful
 go_enter Tryz.func95, Tryz.ntmps95
 go_upto_region 1 with (fail)
 refine start_ (n := 13) (S := fun w' => w'.cell? ⟨g, 0, none⟩ = some (.pointer (some ⟨gs, 0, none⟩)) ∧ w'.cell? ⟨ga, 1, none⟩ = some (.int .i64 (frm : Int))) (ds := [11, 12]) #[false, false, false, false, false, false, false, false, false, false, false, false, false] (by kernel_rfl) rfl rfl ⟨cg, ca⟩ (fun hHeld => ?_)
 refine pu_ (i := 0) (N := some 10) (v := ?_) (a' := ?_) rfl rfl (by kernel_rfl) (fun _ _ _ h => h) (by rfl) ?_ ?_ ?_
 rotate_left
 · (intro w'; go_simp; with_reducible rfl)
 rotate_left
 · (simp only [put_s, List.set, i64_w, i32_w]; rfl)
 refine pu_ (i := 1) (N := some 11) (v := ?_) (a' := ?_) rfl rfl (by kernel_rfl) (fun _ _ _ h => h) (by rfl) ?_ ?_ ?_
 rotate_left
 · (intro w'; go_simp; with_reducible rfl)
 rotate_left
 · (simp only [put_s, List.set, i64_w, i32_w]; rfl)
 refine pu_ (i := 2) (N := some 12) (v := ?_) (a' := ?_) rfl rfl (by kernel_rfl) (fun _ _ _ h => h) (by rfl) ?_ ?_ ?_
 rotate_left
 · (intro w'; go_simp; with_reducible rfl)
 rotate_left
 · (simp only [put_s, List.set, i64_w, i32_w]; rfl)
 refine tk_ (i := 3) (N := some 13) (v := ?_) (a' := ?_) rfl rfl (by kernel_rfl) (fun _ _ _ h => h) (by rfl) ?_ hHeld ?_ ?_
 rotate_left
 ·
  intro w' s0
  have q1 := s0.1
  go_simp
  with_reducible rfl
 rotate_left
 · (simp only [put_s, List.set, i64_w, i32_w]; rfl)
 refine pu_ (i := 4) (N := some 14) (v := ?_) (a' := ?_) rfl rfl (by kernel_rfl) (fun _ _ _ h => h) (by rfl) ?_ ?_ ?_
 rotate_left
 · (intro w'; go_simp; with_reducible rfl)
 rotate_left
 · (simp only [put_s, List.set, i64_w, i32_w]; rfl)
 refine pu_ (i := 5) (N := some 15) (v := ?_) (a' := ?_) rfl rfl (by kernel_rfl) (fun _ _ _ h => h) (by rfl) ?_ ?_ ?_
 rotate_left
 · (intro w'; go_simp; with_reducible rfl)
 rotate_left
 · (simp only [put_s, List.set, i64_w, i32_w]; rfl)
 refine pu_ (i := 6) (N := some 16) (v := ?_) (a' := ?_) rfl rfl (by kernel_rfl) (fun _ _ _ h => h) (by rfl) ?_ ?_ ?_
 rotate_left
 · (intro w'; go_simp; with_reducible rfl)
 rotate_left
 · (simp only [put_s, List.set, i64_w, i32_w]; rfl)
 refine tk_ (i := 7) (N := some 17) (v := ?_) (a' := ?_) rfl rfl (by kernel_rfl) (fun _ _ _ h => h) (by rfl) ?_ hHeld ?_ ?_
 rotate_left
 ·
  intro w' s0
  have q1 := s0.2
  go_simp
  with_reducible rfl
 rotate_left
 · (simp only [put_s, List.set, i64_w, i32_w]; rfl)
 refine pu_ (i := 8) (N := some 18) (v := ?_) (a' := ?_) rfl rfl (by kernel_rfl) (fun _ _ _ h => h) (by rfl) ?_ ?_ ?_
 rotate_left
 · (intro w'; go_simp; with_reducible rfl)
 rotate_left
 · (simp only [put_s, List.set, i64_w, i32_w]; rfl)
 refine pu_ (i := 9) (N := some 19) (v := ?_) (a' := ?_) rfl rfl (by kernel_rfl) (fun _ _ _ h => h) (by rfl) ?_ ?_ ?_
 rotate_left
 · (intro w'; go_simp; with_reducible rfl)
 rotate_left
 · (simp only [put_s, List.set, i64_w, i32_w]; rfl)
 refine pu_ (i := 10) (N := some 20) (v := ?_) (a' := ?_) rfl rfl (by kernel_rfl) (fun _ _ _ h => h) (by rfl) ?_ ?_ ?_
 rotate_left
 · (intro w'; go_simp; with_reducible rfl)
 rotate_left
 · (simp only [put_s, List.set, i64_w, i32_w]; rfl)
 refine la_ (i := 11) (N := some 21) rfl rfl (by kernel_rfl) (by decide) (fun K hK => ?_)
 refine goes_ Tryz.func69 (by kernel_rfl) rfl #[pt gs, .int .i64 ((frm + n : Nat) : Int), .slice A 512 c] (by first | rfl | (simp [Act.eval]; done)) rfl rfl (by first | rfl | (simp [Act.eval]; done) | (simp [Act.eval, wrap64]; omega)) ?_
 refine Calls.mono (write_full _ own t gs b (sta_drew HH.out) (frm + n) A c hi hz HF.out) ?_
 rintro e w2 ⟨rfl, rfl⟩
 refine ⟨_, rfl, ?_⟩
 refine hK.out _ _ ?_
 clear hK K
 refine norm_ (a' := ?_) ?_ ?_
 rotate_left
 ·
  show Act.put _ (some 21) _ = _
  simp only [put_s, List.set, i64_w, i32_w]
  rfl
 refine pu_ (i := 12) (N := some 9) (v := ?_) (a' := ?_) rfl rfl (by kernel_rfl) (fun _ _ _ h => h) (by rfl) ?_ ?_ ?_
 rotate_left
 · (intro w'; go_simp; with_reducible rfl)
 rotate_left
 · (simp only [put_s, List.set, i64_w, i32_w]; rfl)
 refine done_ (by kernel_rfl) ?_
 go_wp2_with fail
 go_ret
 exact ⟨rfl, 1, rfl⟩
end Go.Proofs.YtmofiicjaldmiaaGreatDoor.SvO
end
section
namespace Go.Proofs.YtmofiicjaldmiaaGreatDoor.SvP
open Go.RowKit Go.Shelf YtmofiicjaldmiaaGreatDoorW.PrintWords YtmofiicjaldmiaaGreatDoorW.PrintLast SvA SvB SvC SvD SvE SvF SvG SvH SvI SvJ SvK SvL SvM SvN SvO
set_option linter.unusedVariables false
set_option linter.unusedSimpArgs false
structure SV where
 b : BS
 ar : Nat → AR
 dead : Bool
def svCells (gs : Nat) (ga : Nat → Nat) (dead : Bool) : Array Value := #[pt gs, pt (ga 0), pt (ga 1), pt (ga 2), pt (ga 3), pt (ga 4), pt (ga 5), pt (ga 6), pt (ga 7), .bool dead]
structure SvMem (w : World) (own : Nat → Nat) (t g gs : Nat) (ga : Nat → Nat) (S : SV) : Prop where
 og : own g = t + 3
 bk : Blk w g (svCells gs ga S.dead) 93
 st : StA w own t gs S.b
 ar : ∀ i, i < 8 → ArA w own (t + 4 + i) (t + 12 + i) (ga i) (S.ar i)
theorem SvMem.keep {ts : Nat → Prop} {w w' : World} {own own' : Nat → Nat} {t g gs : Nat} {ga : Nat → Nat} {S : SV} (h : SvMem w own t g gs ga S) (hk : Kp ts w own w' own') (h0 : ¬ ts 0) (h1 : ∀ q, t ≤ q → q < t + 20 → ¬ ts q) : SvMem w' own' t g gs ga S := by
 obtain ⟨a1, a2⟩ := h.bk.keep hk (by rw [h.og]; exact h1 _ (by omega) (by omega))
 exact ⟨a2.trans h.og, a1, h.st.keep hk h0 (h1 _ (by omega) (by omega)) (h1 _ (by omega) (by omega)) (h1 _ (by omega) (by omega)), fun i hi => (h.ar i hi).keep hk h0 (h1 _ (by omega) (by omega)) (h1 _ (by omega) (by omega))⟩
theorem SvMem.below {w w' : World} {own : Nat → Nat} {t g gs : Nat} {ga : Nat → Nat} {S : SV} (h : SvMem w own t g gs ga S) (hb : Below w.heap.size w w') : SvMem w' (tagged w own 0) t g gs ga S :=
  h.keep (Kp.below (ts := fun _ => False) hb 0) (fun q => q) (fun _ _ _ q => q)
theorem SvMem.c0 {w : World} {own : Nat → Nat} {t g gs : Nat} {ga : Nat → Nat} {S : SV} (h : SvMem w own t g gs ga S) : w.cell? ⟨g, 0, none⟩ = some (pt gs) := Blk.cell (i := 0) h.bk rfl
theorem SvMem.cd {w : World} {own : Nat → Nat} {t g gs : Nat} {ga : Nat → Nat} {S : SV} (h : SvMem w own t g gs ga S) : w.cell? ⟨g, 9, none⟩ = some (.bool S.dead) := Blk.cell (i := 9) h.bk rfl
theorem SvMem.ca {w : World} {own : Nat → Nat} {t g gs : Nat} {ga : Nat → Nat} {S : SV} (h : SvMem w own t g gs ga S) (i : Nat) (hi : i < 8) : w.cell? ⟨g, 1 + i, none⟩ = some (.pointer (some ⟨ga i, 0, none⟩)) := by
  rcases (show i = 0 ∨ i = 1 ∨ i = 2 ∨ i = 3 ∨ i = 4 ∨ i = 5 ∨ i = 6 ∨ i = 7 by omega) with rfl | rfl | rfl | rfl | rfl | rfl | rfl | rfl <;> exact Blk.cell h.bk rfl
theorem ar_c1 {w : World} {own : Nat → Nat} {t te g : Nat} {a : AR} (h : ArA w own t te g a) : w.cell? ⟨g, 0, none⟩ = some (.int .i64 (a.ten : Int)) ∧ w.cell? ⟨g, 1, none⟩ = some (.int .i64 (a.frm : Int)) ∧ w.cell? ⟨g, 2, none⟩ = some (.int .i64 (a.sec : Int)) ∧ w.cell? ⟨g, 3, none⟩ = some (.int .i64 (a.heads : Int)) := by
 obtain ⟨z, ps, hg, hb, hs, he⟩ := h
 exact ⟨Blk.cell (i := 0) hb rfl, Blk.cell (i := 1) hb rfl, Blk.cell (i := 2) hb rfl, Blk.cell (i := 3) hb rfl⟩
structure ScM (w : World) (own : Nat → Nat) (t g gs : Nat) (ga : Nat → Nat) (S : SV) (i : Nat) : Prop where
 st : StA w own t gs S.b
 c0 : w.cell? ⟨g, 0, none⟩ = some (pt gs)
 ar : w.cell? ⟨ga i, 0, none⟩ = some (.int .i64 ((S.ar i).ten : Int)) ∧ w.cell? ⟨ga i, 1, none⟩ = some (.int .i64 ((S.ar i).frm : Int)) ∧ w.cell? ⟨ga i, 2, none⟩ = some (.int .i64 ((S.ar i).sec : Int)) ∧ w.cell? ⟨ga i, 3, none⟩ = some (.int .i64 ((S.ar i).heads : Int))
theorem ScM.below {w w' : World} {own : Nat → Nat} {t g gs : Nat} {ga : Nat → Nat} {S : SV} {i : Nat} (h : ScM w own t g gs ga S i) (hb : Below w.heap.size w w') : ScM w' (tagged w own 0) t g gs ga S i :=
  ⟨h.st.keep (Kp.below (ts := fun _ => False) hb 0) (fun q => q) (fun q => q) (fun q => q) (fun q => q), cellOf hb h.c0, cellOf hb h.ar.1, cellOf hb h.ar.2.1, cellOf hb h.ar.2.2.1, cellOf hb h.ar.2.2.2⟩
theorem SvMem.sc {w : World} {own : Nat → Nat} {t g gs : Nat} {ga : Nat → Nat} {S : SV} (h : SvMem w own t g gs ga S) (i : Nat) (hi : i < 8) : ScM w own t g gs ga S i := ⟨h.st, h.c0, ar_c1 (h.ar i hi)⟩
theorem area_yes (w : World) (own : Nat → Nat) (t g gs : Nat) (ga : Nat → Nat) (S : SV) (H : SvMem w own t g gs ga S) (i : Nat) (hi : i < 8) (hd : S.dead = false) : Calls Tryz.prog 49 #[pt g, .int .i64 ((i : Int) + 1)] w fun e w' => e = .returned (.tuple #[pt (ga i), .int .i64 0]) ∧ w = w' := by
 have cd := H.cd
 have ca := H.ca i hi
 rw [hd] at cd
 have b1 : ¬ ((i : Int) + 1 < 1) := by omega
 have b2 : ¬ (8 < (i : Int) + 1) := by omega
 have b3 : (i : Int) < 8 := by omega
 clear hd H
 go_enter Tryz.func49, Tryz.ntmps49
 go_wp2_with fail
 go_ret2
 exact ⟨rfl, rfl⟩
theorem SvMem.drewN {w : World} {own : Nat → Nat} {t g gs : Nat} {ga : Nat → Nat} {S : SV} (h : SvMem w own t g gs ga S) (n : Nat) : SvMem (w.drewN n) own t g gs ga S := ⟨h.og, h.bk, h.st, h.ar⟩
theorem named_yes (w : World) (own : Nat → Nat) (t g gs : Nat) (ga : Nat → Nat) (S : SV) (H : SvMem w own t g gs ga S) (i : Nat) (hi : i < 8) (name : ByteArray) (hs : name.size < 2 ^ 62) (hd : S.dead = false) (hok : nameOk name = true) (hl : (S.ar i).ents.length < 2 ^ 40) :
  Calls Tryz.prog 50 #[pt g, .int .i64 ((i : Int) + 1), .string name] w fun e w' => e = .returned (.tuple #[pt (ga i), .int .i64 (findI (fun e => e.hd.name == name) (S.ar i).ents), .int .i64 0]) ∧ Below w.heap.size w w' := by
 have hn := isName_ok name w hs
 rw [hok] at hn
 have HA := Lib.hid (fun k => area_yes (w.drewN k) own t g gs ga S (H.drewN k) i hi hd)
 have HF := Lib.hid (fun k => find_ok (w.drewN k) own _ _ _ _ ((H.drewN k).ar i hi) hl name)
 generalize findI (fun e : EN => e.hd.name == name) (S.ar i).ents = r at *
 clear hok H
 go_enter Tryz.func50, Tryz.ntmps50
 go_wp2_with (first | (go_at_call 90; refine hn.mono ?_; rintro e w' ⟨rfl, k, rfl⟩) | (go_at_call 49; refine (HA.out _).mono ?_; rintro e w' ⟨rfl, rfl⟩) | (go_at_call 91; refine (HF.out _).mono ?_; rintro e w' ⟨rfl, hb⟩))
 refine bodyPost_ret (v := .tuple #[pt (ga i), .int .i64 r, .int .i64 0]) (by simp [results, Tryz.results50, go_sem]) rfl ⟨rfl, (bdrew _ _ _).trans (hb.mono (Nat.le_refl _))⟩
end Go.Proofs.YtmofiicjaldmiaaGreatDoor.SvP
end
section
namespace Go.Proofs.YtmofiicjaldmiaaGreatDoor.SvQ
open Go.RowKit Go.Shelf YtmofiicjaldmiaaGreatDoorW.PrintWords YtmofiicjaldmiaaGreatDoorW.PrintLast SvA SvB
set_option linter.unusedVariables false
set_option linter.unusedSimpArgs false
variable {F : Fence} {n : Nat} {P : Program} {w : World}
def SeqTold {α : Type} (F : Fence) (n : Nat) (P : Program) (g : Nat) (lb : Array Value) (encs : α → Array Value) (G : α → World → World → Prop) (Kp : α → World → World → Prop) (S Sp : List α → Prop) (N : Nat) (w : World) : Prop :=
 ∀ (l : Nat) (J Jx : List α → World → Prop) (W : World), Below w.heap.size w W → AbidesFrom W.heap.size J → AbidesFrom W.heap.size Jx → (∀ pre W1, J pre W1 → pre.length ≤ N) →
  (∀ pre x W0 W1, J pre W0 → Below W0.heap.size W0 W1 → J pre W1 → G x W0 W1 → Sp (pre ++ [x]) → YieldAt F (n - 1) P l (encs x) W1 fun e W' =>
   (e = .returned (.bool true) ∧ J (pre ++ [x]) W' ∧ Kp x W1 W') ∨ (e = .returned (.bool false) ∧ Jx (pre ++ [x]) W')) →
  J [] W →
  CallsIn F n P g (#[.func (.yield l) #[] #[]] ++ lb) W fun e W' => (∃ v, e = .returned v) ∧ ((∃ xs, S xs ∧ J xs W') ∨ (∃ pre, Sp pre ∧ Jx pre W'))
theorem notCells {B : Nat} {A : World} {row : Option Nat} (h : ∀ r, row = some r → B ≤ r ∧ ∃ o : Obj, A.heap[r]? = some o ∧ o.isWalk = true) {B' : Nat} (hB : B' ≤ B) : ∀ r, row = some r → B' ≤ r ∧ ∃ o : Obj, A.heap[r]? = some o ∧ o.isCells = false :=
  fun r e => by obtain ⟨h1, o, ho, hw⟩ := h r e; exact ⟨by omega, o, ho, Obj.not_cells_of_walk hw⟩
theorem wpIn_rangeFunc_told {α : Type} {g : Operand} {ps : Array Tmp} {assign body : Code} {Q : Exit → Act → World → Prop} {a : Act}
    (hro : F.round = none) (h1 : 1 ≤ n) {gf : Nat} {lb : Array Value} (hg : a.eval g = .func (.func gf) #[] lb) (hFg : F.fn gf) (eg : ∀ args w, (callFunc gf args).run P w = .ok (.enter gf args) w)
    {encs : α → Array Value} {G : α → World → World → Prop} {Kp : α → World → World → Prop} {S Sp : List α → Prop} {N : Nat} {w0 : World} (hseq : SeqTold F (n - 1) P gf lb encs G Kp S Sp N w0)
    (hKt : ∀ {x : α} {A B C : World}, Kp x A B → Kp x B C → Kp x A C) (hKb : ∀ (x : α) (W : World) (l : Nat) (o o' : Obj), w.heap.size ≤ l → W.heap[l]? = some o → o.isCells = false → o.isWalk = false → Kp x W (W.putObj l o')) (hb0 : Below w0.heap.size w0 w) (hps : ∀ x, (encs x).size = ps.size)
    (I : List α → World → Prop) (Ix : Code → List α → World → Prop) (hI : OwnFrom w.heap.size I) (hIx : ∀ c, OwnFrom w.heap.size (Ix c)) (hN : ∀ pre W, I pre W → pre.length ≤ N) (h0 : I [] w) (Ax : List α → α → Act → World → Prop) (hAx : ∀ pre x a', OwnFrom w.heap.size (fun (_ : Unit) W => Ax pre x a' W))
    (hassign : ∀ (l : Nat) (pre : List α) (x : α) (W0 W : World) (K : Act → World → Prop), I pre W0 → Below W0.heap.size W0 W → I pre W → G x W0 W → (∀ a' W', KeepsFrom w.heap.size W W' → Kp x W W' → I pre W' → Ax pre x a' W' → K a' W') →
      assign.wpIn (F.inRound l) (n - 1 - 1) P (Exit.then K (fun _ _ _ => False)) { tmps := (ps.zip (encs x)).foldl (fun t (p, v) => t.setIfInBounds p v) a.tmps, defers := [] } W)
    (hbody : ∀ (l : Nat) (pre : List α) (x : α) (a' : Act) (W : World), I pre W → Ax pre x a' W → Sp (pre ++ [x]) → body.wpIn (F.inRound l) (n - 1 - 1) P (ownPostG w.heap.size (Kp x) I Ix (pre ++ [x]) W) a' W)
    (hdone : ∀ (D : Nat) (xs : List α) (W : World), w.heap.size ≤ D → S xs → I xs W → W.heap[D]? = some (.deferred (some [])) → Q .normal { a with defers := { target := .collected D, args := #[] } :: a.defers } W)
    (hstop : ∀ (D : Nat) (c : Code) (pre : List α) (W : World), w.heap.size ≤ D → Sp pre → Ix c pre W → W.heap[D]? = some (.deferred (some [])) → c.wpIn F n P Q { a with defers := { target := .collected D, args := #[] } :: a.defers } W) :
    (Code.rangeFunc g ps assign body).wpIn F n P Q a w := by
  refine wpIn_rangeFunc fun fn hfn => ?_
  rw [hro]
  let D := w.heap.size
  let l := w.heap.size + 1
  let rec_ : LoopState → Option Code → Loop := fun st pe => { state := st, pending := pe, fn, tmps := a.tmps, params := ps, assign, body, defers := D }
  let R : LoopState → Option Code → World → Prop := fun st pe W => W.heap[l]? = some (.loop (rec_ st pe)) ∧ W.heap[D]? = some (.deferred (some []))
  let W1 := (w.alloc (.deferred (some []))).alloc (.loop (rec_ .ready none))
  have hsz : W1.heap.size = w.heap.size + 2 := by simp [W1]
  have hR1 : R .ready none W1 := ⟨by have := World.alloc_heap_new (w.alloc (.deferred (some []))) (.loop (rec_ .ready none)); rwa [World.size_alloc] at this, (Below.heap_alloc _ _ _ (by simp [D])).trans (World.alloc_heap_new w _)⟩
  have hI1 : I [] W1 := hI.alloc _ (hI.alloc _ h0)
  have hb1 : Below w0.heap.size w0 W1 := hb0.trans ((((Below.refl _ w).alloc (Nat.le_refl _) _).alloc (by simp) _).mono hb0.size)
  -- what the records' own turns leave
  have put : ∀ (st st' : LoopState) (pe pe' : Option Code) (W : World), R st pe W → R st' pe' (W.putObj l (.loop (rec_ st' pe'))) := fun st st' pe pe' W h =>
    ⟨World.putObj_heap_same (Array.getElem?_eq_some_iff.1 h.1).1, (World.putObj_heap_other (by simp [l, D])).trans h.2⟩
  have keep : ∀ (st : LoopState) (pe : Option Code) (W W' : World), R st pe W → KeepsFrom w.heap.size W W' → R st pe W' := fun st pe W W' h hk =>
    ⟨hk.same _ _ (by simp [l]) h.1 rfl, hk.same _ _ (Nat.le_refl _) h.2 rfl⟩
  have grow : ∀ (st : LoopState) (pe : Option Code) (A B : World) (row : Option Nat), R st pe A → A.grownBy B row → (∀ r, row = some r → W1.heap.size ≤ r ∧ ∃ o : Obj, A.heap[r]? = some o ∧ o.isWalk = true) → R st pe B := fun st pe A B row h hg' hr =>
    ⟨(grownBy_keeps hg' (fun r e => (hr r e).2) h.1 rfl).trans h.1, (grownBy_keeps hg' (fun r e => (hr r e).2) h.2 rfl).trans h.2⟩
  refine ⟨l, [{ target := .collected D, args := #[] }], W1, { target := .fn (.func gf) lb, args := #[.func (.yield l) #[] #[]] }, W1, gf, #[.func (.yield l) #[] #[]] ++ lb, W1, run_enterLoop_outer _ _ _ _ _, ?_, ?_, ?_, fun _ => h1, ?_⟩
  · simp only [resolve, hg]
    simp [go_sem]
  · intro f' hf'
    simp [Target.leads] at hf'
    subst hf'
    exact hFg
  · simp [invoke, go_sem, eg]
  · refine (hseq l (fun pre W => I pre W ∧ R .ready none W) (fun pre W => ∃ c, Ix c pre W ∧ R .done (some c) W) W1 hb1
      (fun s A B row hs hg' hr => ⟨hI s A B row hs.1 hg' (notCells hr (by omega)), grow _ _ A B row hs.2 hg' hr⟩)
      (fun s A B row hs hg' hr => by
        obtain ⟨c, hc, hk⟩ := hs
        exact ⟨c, hIx c s A B row hc hg' (notCells hr (by omega)), grow _ _ A B row hk hg' hr⟩)
      (fun pre W h => hN pre W h.1) ?_ ⟨hI1, hR1⟩).mono ?_
    · rintro pre x W0 W hi0 hB0 ⟨hi, hl⟩ hG hlen
      refine ⟨fn, _, assign, body, run_yield (P := P) (args := encs x) hl.1 (hps x), roundIn_of_wpIn hfn (hassign _ pre x W0 W _ hi0.1 hB0 hi hG ?_)⟩
      intro a' Wa hkf hkp hia hax
      have hla := keep _ _ _ _ hl hkf
      refine ⟨_, run_beginRound hla.1 rfl, ?_⟩
      have hlb : R .busy none (Wa.putObj l (.loop (rec_ .busy none))) := put _ _ _ _ _ hla
      have hkb := hKb x Wa l _ (.loop (rec_ .busy none)) (by simp [l]) hla.1 rfl rfl
      refine wpIn_mono (hbody _ pre x a' _ (hI.putObj _ hia (by simp [l]) hla.1 rfl) ((hAx pre x a').putObj (s := ()) _ hax (by simp [l]) hla.1 rfl) hlen) ?_
      have fin : ∀ (jump : Option Code) (W3 : World), KeepsFrom w.heap.size (Wa.putObj l (.loop (rec_ .busy none))) W3 → R .busy none W3 ∧
          (Instr.endRound l jump).run P W3 = .ok (.bool jump.isNone) (W3.putObj l (.loop (rec_ (if jump.isNone then .ready else .done) jump))) := fun jump W3 hk3 =>
        ⟨keep _ _ _ _ hlb hk3, run_endRound (P := P) jump (keep _ _ _ _ hlb hk3).1⟩
      have out : ∀ (c : Code) (W3 : World), KeepsFrom w.heap.size (Wa.putObj l (.loop (rec_ .busy none))) W3 → Ix c (pre ++ [x]) W3 → ∃ c', Ix c' (pre ++ [x]) (W3.putObj l (.loop (rec_ .done (some c)))) ∧ R .done (some c') (W3.putObj l (.loop (rec_ .done (some c)))) := fun c W3 hk3 hi3 =>
        ⟨c, (hIx c).putObj _ hi3 (by simp [l]) (fin (some c) W3 hk3).1.1 rfl, put _ _ _ _ _ (fin (some c) W3 hk3).1⟩
      rintro e a3 W3 hp
      cases e with
      | normal =>
        obtain ⟨hk3, hkp3, hi3⟩ := hp
        obtain ⟨hr, hrun⟩ := fin none W3 hk3
        exact ⟨_, _, hrun, .inl ⟨rfl, ⟨hI.putObj _ hi3 (by simp [l]) hr.1 rfl, put _ _ _ _ _ hr⟩, hKt hkp (hKt (hKt hkb hkp3) (hKb x _ _ _ _ (by simp [l]) hr.1 rfl rfl))⟩⟩
      | ret => exact ⟨_, _, (fin (some .ret) W3 hp.1).2, .inr ⟨rfl, out _ W3 hp.1 hp.2⟩⟩
      | exit id => exact ⟨_, _, (fin (some (.exit id)) W3 hp.1).2, .inr ⟨rfl, out _ W3 hp.1 hp.2⟩⟩
      | goto t => exact ⟨_, _, (fin (some (.goto t)) W3 hp.1).2, .inr ⟨rfl, out _ W3 hp.1 hp.2⟩⟩
      | panic ch => exact hp.elim
      | outgrown => exact hp.elim
    · rintro e W2 ⟨⟨v, rfl⟩, (⟨xs, hS, hi, hl⟩ | ⟨pre, hSp, c, hi, hl⟩)⟩
      · exact ⟨none, _, run_endLoop (P := P) hl.1 (by simp [rec_]), hdone D xs _ (Nat.le_refl _) hS (hI.putObj _ hi (by simp [l]) hl.1 rfl) ((World.putObj_heap_other (by simp [l, D])).trans hl.2)⟩
      · exact ⟨some c, _, run_endLoop (P := P) hl.1 (by simp [rec_]), hstop D c pre _ (Nat.le_refl _) hSp ((hIx c).putObj _ hi (by simp [l]) hl.1 rfl) ((World.putObj_heap_other (by simp [l, D])).trans hl.2)⟩
theorem uponIn_mono_ {F : Fence} {n : Nat} {P : Program} {o : Oper} {a : Act} {K K' : Act → World → Prop} {Q : Exit → Act → World → Prop} (hK : ∀ a w, K a w → K' a w) {r : Result Next} (h : o.uponIn F n P a K Q r) : o.uponIn F n P a K' Q r := by
 cases r with
 | ok nx w' =>
  cases nx with
  | value v => exact hK _ _ h
  | skip => exact hK _ _ h
  | defer d => exact hK _ _ h
  | enter f args => exact ⟨h.1, h.2.mono fun e w hh => (by cases e <;> (first | exact hK _ _ hh | exact hh))⟩
  | row row args => exact ⟨h.1, h.2.mono fun v w hh => hK _ _ hh⟩
  | round l f tmps assign body => exact ⟨h.1, h.2.mono fun e w hh => (by cases e <;> (first | exact hK _ _ hh | exact hh))⟩
  | _ => exact absurd h (by simp [Oper.uponIn])
 | halt hh w' =>
  cases hh with
  | panic v => exact h
  | _ => exact absurd h (by simp [Oper.uponIn])
theorem opIn_of_op {o : Oper} {a : Act} {w : World} {K : Act → World → Prop} {Q : Exit → Act → World → Prop} {l m : Nat} (hd : ∀ c, o.op ≠ .defer c) (h : o.wp P a w K Q) : o.wpIn (Fence.wide.inRound l) m P a w K Q := by
 refine ⟨fun _ _ => trivial, ?_⟩
 rw [Oper.semAt_plain _ _ _ hd]
 unfold Oper.wp at h
 generalize (execOp a.eval o).run P w = r at h
 cases r with
 | ok nx w' =>
  cases nx with
  | value v => exact h
  | skip => exact h
  | defer d => exact h
  | enter f args => exact ⟨fun e => (by cases e), CallsIn.inRound l (callsIn_wide.2 h)⟩
  | row row args => exact ⟨fun e => (by cases e), fun c cs _ => (by
   obtain ⟨v, w2, r, s⟩ := h c cs
   exact ⟨v, w2, r, stepsIn_wide.2 s⟩)⟩
  | _ => exact absurd h (by simp [Oper.upon])
 | halt hh w' =>
  cases hh with
  | panic v => exact h
  | _ => exact absurd h (by simp [Oper.upon])
theorem anyIn_of_any {md : Region.Mode} {ops : Array Oper} {Q : Exit → Act → World → Prop} {l m : Nat} (hd : ∀ (i : Nat) (o : Oper), ops[i]? = some o → ∀ c, o.op ≠ .defer c) (hlo : ¬ LetsOut Q) : ∀ (fuel : Nat) (listed : Array Bool) (a : Act) (w : World), wpAny P md ops Q fuel listed a w → wpAnyIn (Fence.wide.inRound l) m P md ops Q fuel listed a w
 | 0, _, _, _, h => h
 | fuel + 1, listed, a, w, h => ⟨h.1, fun i hi => by
  have h2 := h.2 i hi
  unfold wpOp at h2
  unfold wpOpIn
  cases ho : ops[i]? with
  | none =>
   rw [ho] at h2
   exact anyIn_of_any hd hlo fuel _ _ _ h2
  | some o =>
   rw [ho] at h2
   dsimp only at h2 ⊢
   split at h2
   ·
    rename_i hw
    rw [if_pos hw]
    rcases h2 with h2 | ⟨_, h2⟩
    ·
     have h3 := opIn_of_op (l := l) (m := m) (hd i o ho) h2
     exact ⟨h3.1, uponIn_mono_ (fun a w hh => anyIn_of_any hd hlo fuel _ _ _ hh) h3.2⟩
    · exact absurd h2 hlo
   ·
    rename_i hw
    rw [if_neg hw]
    exact ⟨fun _ _ => trivial, anyIn_of_any hd hlo fuel _ _ _ h2⟩⟩
def noDefer (ops : Array Oper) : Bool := ops.all (fun o => match o.op with | .defer _ => false | _ => true)
theorem noDefer_spec {ops : Array Oper} (h : noDefer ops = true) (i : Nat) (o : Oper) (ho : ops[i]? = some o) (c : Call) : o.op ≠ .defer c := by
 intro e
 have h1 := Array.all_eq_true_iff_forall_mem.1 h o (Array.mem_of_getElem? ho)
 rw [e] at h1
 cases h1
theorem startIn_ {ops : Array Oper} {Q : Exit → Act → World → Prop} {S : World → Prop} {ds : List Nat} {id nn l m : Nat} {a : Act} {w : World} (lb : Array Bool) (hm : P.follows .mixedOrders = true) (hn : ops.size = nn) (hl : Array.replicate nn false = lb) (hd : noDefer ops = true) (hlo : ¬ LetsOut Q) (hS : S w.drew)
  (h : S w.drew → wpAnyLast P .any ops Q S ds nn lb a w.drew) : (Code.region id ops true).wpIn (Fence.wide.inRound l) m P Q a w := by
 subst hn
 subst hl
 exact wpIn_region_any hm (anyIn_of_any (noDefer_spec hd) hlo _ _ _ _ (wpAny_of_last _ _ _ _ (h hS)))
end Go.Proofs.YtmofiicjaldmiaaGreatDoor.SvQ
end
